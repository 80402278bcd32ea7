/-
  Layer 6: the statement that a sum is a chain of compressions. Conditions: the program's first numbers and rows lie as its text lays them.
-/
import Derived.Test.YtmclklhnbmkheaaDoorLawBlake8
import Derived.Test.YtmclklhnbmkheaaDoorSlice
namespace Go.Proofs.YtmclklhnbmkheaaDoor
open Go Go.RowKit
set_option maxRecDepth 100000
set_option linter.unusedVariables false
set_option linter.unusedSimpArgs false

theorem chF_succ (h : List (BitVec 64)) (l : List Byte) (k t u : Nat) (ht : t = 128 * k) (hu : u = t + 128) (hu2 : u < 18446744073709551616) (b : List Byte) (hb : b = (l.drop t).take 128) (hl : u ≤ l.length) (C : World → Prop)
    (hc : ∀ w, C w → ∀ (h : List (BitVec 64)) (b : List Byte) (lo hi : BitVec 64) (last : Bool), h.length = 8 → b.length = 128 → Gives Tryd.prog 13 #[A64 h, A8 b, .agg #[v64 lo, v64 hi], .bool last] w (A64 (compL h (mL b) lo hi last)))
    (hh : h.length = 8) (w : World) (hw : C w) : Gives Tryd.prog 13 #[A64 (chF h l k), A8 (blkF b 128), .agg #[.int .u64 (u : Int), .int .u64 0], .bool false] w (A64 (chF h l (k + 1))) := by
  have lb : b.length = 128 := by rw [hb, List.length_take, List.length_drop]; omega
  have e := hc w hw (chF h l k) (blkF b b.length) (BitVec.ofNat 64 u) 0#64 false (chF_length h l hh k) (blkF_length _ _)
  rw [mL_blkF b (by omega), lb] at e
  rw [natv64 hu2, chF]
  have e2 : bkAt l k = b := by rw [hb, ht]; rfl
  rw [e2, show 128 * (k + 1) = u by omega]
  exact e
theorem fin_last (h : List (BitVec 64)) (l : List Byte) (t N : Nat) (hN : N = l.length) (ht : t = 128 * nbk N) (hu2 : N < 18446744073709551616) (b : List Byte) (hb : b = l.drop t) (r : Nat) (hr : r = b.length) (C : World → Prop)
    (hc : ∀ w, C w → ∀ (h : List (BitVec 64)) (b : List Byte) (lo hi : BitVec 64) (last : Bool), h.length = 8 → b.length = 128 → Gives Tryd.prog 13 #[A64 h, A8 b, .agg #[v64 lo, v64 hi], .bool last] w (A64 (compL h (mL b) lo hi last)))
    (hh : h.length = 8) (w : World) (hw : C w) : Gives Tryd.prog 13 #[A64 (chF h l (nbk N)), A8 (blkF b r), .agg #[.int .u64 (N : Int), .int .u64 0], .bool true] w (A64 (finL h l)) := by
  subst hr
  have lb : b.length ≤ 128 := by
    have := nbk_rest N
    rw [hb, List.length_drop, ← hN]; omega
  have e := hc w hw (chF h l (nbk N)) (blkF b b.length) (BitVec.ofNat 64 N) 0#64 true (chF_length h l hh _) (blkF_length _ _)
  rw [mL_blkF b lb] at e
  rw [natv64 hu2, finL, ← hN, ← ht, ← hb]
  exact e

set_option maxHeartbeats 16000000 in
theorem chain_walk (size : Int) (key : List Byte) (p : Option Addr) (c : Nat) (b : List Byte) (q : Option Addr) (d : Nat) (w0 : World) (hs0 : -9223372036854775808 ≤ size) (hs1 : size ≤ 9223372036854775807) (hk : RdB w0 p key) (hkc : key.length ≤ c) (hkm : key.length ≤ maxLen) (hb : RdB w0 q b) (hbd : b.length ≤ d) (hbm : b.length ≤ maxLen) (hc : CoefB w0) :
    Calls Tryd.prog 4 #[.int .i64 size, .slice p key.length c, .slice q b.length d] w0 fun e w' => e = .returned (.bool true) ∧ Ext w0 w' := by
  have hm := Own.start w0
  have HC := Lib.hid hc
  have HK := Lib.hid hk
  have HB := Lib.hid hb
  clear hc hk hb
  by_cases c1 : size < 1
  · have a1 : decide (size < 1) = true := decide_eq_true c1
    go_enter Tryd.func4, Tryd.ntmps4
    go_wp2_with fail
    go_ret
    exact ⟨rfl, hm.x⟩
  have a1 : decide (size < 1) = false := decide_eq_false c1
  by_cases c2 : 64 < size
  · have a2 : decide (64 < size) = true := decide_eq_true c2
    go_enter Tryd.func4, Tryd.ntmps4
    go_wp2_with fail
    go_ret
    exact ⟨rfl, hm.x⟩
  have a2 : decide (64 < size) = false := decide_eq_false c2
  by_cases c3 : 64 < key.length
  · have a3 : decide ((64 : Int) < (key.length : Int)) = true := decide_eq_true (by omega)
    have a4 : (64 : Int) < (key.length : Int) := by omega
    go_enter Tryd.func4, Tryd.ntmps4
    go_wp2_with fail
    go_ret
    exact ⟨rfl, hm.x⟩
  have a3 : decide ((64 : Int) < (key.length : Int)) = false := decide_eq_false (by omega)
  have a4 : ¬ (64 : Int) < (key.length : Int) := by omega
  by_cases c4 : 500 < b.length
  · have a5 : decide ((500 : Int) < (b.length : Int)) = true := decide_eq_true (by omega)
    have a6 : (500 : Int) < (b.length : Int) := by omega
    go_enter Tryd.func4, Tryd.ntmps4
    go_wp2_with fail
    go_ret
    exact ⟨rfl, hm.x⟩
  have a5 : decide ((500 : Int) < (b.length : Int)) = false := decide_eq_false (by omega)
  have a6 : ¬ (500 : Int) < (b.length : Int) := by omega
  obtain ⟨sz, rfl⟩ : ∃ sz : Nat, size = sz := ⟨size.toNat, by omega⟩
  have hsz1 : 1 ≤ sz := by omega
  have hsz2 : sz ≤ 64 := by omega
  have hk64 : key.length ≤ 64 := by omega
  have lk := keyL_length key hk64
  have FI := Lib.hid fun w => lfirst_any sz key.length hsz2 hk64 w
  have CS := Lib.hid fun w hx h1 h2 hb => bsum_ok sz key p c b q d hsz1 hsz2 hk64 hb w w [] hx (fun w' M h => RdB.ext h1 h.x) (fun w' M h => RdB.ext h2 h.x) (Own.start w)
  have CC := Lib.hid fun (w : World) (hw : CoefB w) h b lo hi last hh hb => compress_any h b lo hi last hh hb w hw
  have BL := Lib.hid fun (bb : List Byte) pp cc (h : bb.length ≤ 128) ww (hr : RdB ww pp bb) => lblock_any bb pp cc h ww hr
  have BW := Lib.hid build_wideI
  have lST := startL_length sz key.length
  obtain ⟨KL, hKL⟩ : ∃ KL, KL = keyL key := ⟨_, rfl⟩
  obtain ⟨D, hD⟩ : ∃ D, D = KL ++ b := ⟨_, rfl⟩
  obtain ⟨N, hN⟩ : ∃ N, N = KL.length + b.length := ⟨_, rfl⟩
  have lD : D.length = N := by rw [hD, hN, List.length_append]
  have lKL : KL.length ≤ 200 := by rw [hKL]; exact lk
  have ES : sumL sz key b = (outL (finL (startL sz key.length) D)).take sz := by rw [sumL_eq, hD, hKL]
  rw [ES] at CS
  have N7 : N ≤ 700 := by omega
  have CST := Lib.hid fun k t u ht hu hu2 bb hbb hl ww hw => chF_succ (startL sz key.length) D k t u ht hu hu2 bb hbb hl CoefB CC.out lST ww hw
  have CLA := Lib.hid fun t ht bb hbb r hr ww hw => fin_last (startL sz key.length) D t N lD.symm ht (by omega) bb hbb r hr CoefB CC.out lST ww hw
  have LCH := Lib.hid fun k => chF_length (startL sz key.length) D lST k
  have lFN := finL_length (startL sz key.length) D
  have HO := Lib.hid fun i hi => outL_nth (finL (startL sz key.length) D) i hi
  have CH0 := Lib.hid (show chF (startL sz key.length) D 0 = startL sz key.length from rfl)
  generalize startL sz key.length = ST at *
  generalize hFN : finL ST D = FN at *
  have lOU : (outL FN).length = 64 := by rw [outL_length, lFN]
  rw [lFN] at HO
  generalize outL FN = OU at *
  have lZ : (OU.take sz).length = sz := by rw [List.length_take]; omega
  have HZ := Lib.hid fun i (hi : i < sz) => show nth (OU.take sz) i = nth OU i from by
    simp only [nth, List.getD_eq_getElem?_getD]
    rw [List.getElem?_take, if_pos hi]
  have EKL := Lib.hid hKL
  have ED := Lib.hid hD
  have HN := Lib.hid hN
  have HFN := Lib.hid hFN
  have HLD := Lib.hid lD
  have HLO := Lib.hid lOU
  clear hD ES lk lD hFN lOU CC c1 c2 c3 c4 hN
  have FIT := Lib.hid (show (KL.length + b.length) * (1 + 1) ≤ 140737488355328 by omega)
  by_cases hk0 : key.length = 0
  · have b1 : decide ((0 : Int) < (key.length : Int)) = false := decide_eq_false (by omega)
    have b2 : ¬ (0 : Int) < (key.length : Int) := by omega
    have b3 : ¬ 0 < key.length := by omega
    have eK : KL = [] := by rw [hKL, keyL, if_pos hk0]
    have lK0 : KL.length = 0 := by rw [eK]; rfl
    have SN := Lib.hid (show SlO [] 5 1 (.slice none 0 0) KL.length (KL.map v8) from by rw [eK]; exact SlO.nil _ _)
    rw [lK0] at SN FIT
    clear eK hKL hk0
    go_enter Tryd.func4, Tryd.ntmps4
    go_wp2_with (first | ((with_reducible show wpList _ _ _ (Oper.mk _ (Op.call _) _ _ _ _ :: _) _ _); refine wplO_app (M := []) (R := []) (ds := b.map v8) hm SN.out rfl rfl rfl rfl Tryd.underlying22 (by simp) (cells_b (HB.out.ext hm.x)) (one_map _) FIT.out ?_; clear hm; intro v1 w M1 hm hs1; obtain ⟨p_v1, c_v1, rfl⟩ := hs1.form) | fail)
    rw [← lK0] at hs1
    have EV := Lib.hid (show Value.slice p_v1 b.length c_v1 = .slice p_v1 (KL.length + b.length) c_v1 by rw [lK0, Nat.zero_add])
    rw [EV.out]
    clear EV lK0
    rw [← List.map_append, ← ED.out, ← HN.out] at hs1
    rw [← HN.out]
    have HS1 := Lib.hid hs1
    have hmP := Lib.hid fun (w : World) (L : List Blk) (h : Own w0 w (L ++ (M1 ++ []))) => show RdB w p_v1 D from slo_rdB hs1 h.dropN
    have hcap : N ≤ c_v1 := by
      obtain ⟨_, _, hv, h, _⟩ := hs1.cells hm
      cases hv; exact h
    have hcmx : c_v1 ≤ maxLen := by
      obtain ⟨_, _, hv, _, h, _⟩ := hs1.cells hm
      cases hv; exact h
    have hpn : p_v1 = none → c_v1 = 0 := by
      rcases hs1.2 with ⟨h1, h2, _⟩ | ⟨g', o, cap', cur, h1, _⟩
      · cases h1; intro _; rfl
      · cases h1; intro h; cases h
    clear hs1
    go_wp2_with (first | (go_at_call 12; (with_reducible refine (FI.out _).mono ?_); rintro e_ w ⟨rfl, hx_⟩; replace hm := hm.ext hx_; clear hx_) | ((((with_reducible show wpList _ _ _ (Oper.mk _ (Op.store _ _ _) _ _ _ _ :: _) _ _); first | ((with_reducible apply wq_stW hm); (exact rfl); infer_instance; (exact rfl); (exact rfl); (focus ((repeat (first | exact .hd | assumption | apply Swap.tl | apply Swap.app)); done)); (focus (first | rfl | omega | (simp; done) | (simp; omega) | fail)); (focus (first | rfl | omega | (simp; done) | (simp; omega) | fail)); (focus (first | exact one_map _ | (simp [one8, one32, one64]; done) | fail))) | fail)); clear hm; intro w hm) | ((first | ((with_reducible show wpList _ _ _ (Oper.mk _ (Op.alloc _) _ _ _ _ :: _) _ _); first | ((with_reducible apply wq_new hm); (exact rfl); infer_instance) | fail)); clear hm; (first | (have hx_ := g1; clear hx_; (first | (have hx_ := g2; clear hx_; (first | (have hx_ := g3; clear hx_; (first | (have hx_ := g4; clear hx_; (first | (have hx_ := g5; clear hx_; (first | (have hx_ := g6; clear hx_; (first | (have hx_ := g7; clear hx_; (first | (have hx_ := g8; clear hx_; (first | (have hx_ := g9; clear hx_; intro g10) | intro g9)) | intro g8)) | intro g7)) | intro g6)) | intro g5)) | intro g4)) | intro g3)) | intro g2)) | intro g1); intro w hm) | fail)
    rw [← CH0.out] at hm
    go_loopw [9] (fun i wr => ∃ k t : Nat, k ≤ nbk N ∧ t = 128 * k ∧ i = .int .i64 (t : Int) ∧ Own w0 wr (⟨g1, 38, (chF ST D k).map v64⟩ :: (M1 ++ []))) (fun i _ => N + 1 - (intOf i).toNat)
    case atStart => exact ⟨0, 0, by omega, rfl, rfl, hm⟩
    case round =>
      obtain ⟨k, t, hk, ht, rfl, hm⟩ := hrel
      have HT := Lib.hid ht
      have lch := LCH.out k
      have ltN : t ≤ N := by have := nbk_le N; omega
      obtain ⟨r, hr⟩ : ∃ r, r = N - t := ⟨_, rfl⟩
      have x1 : (N : Int) - (t : Int) = (r : Int) := by omega
      have x2 : N - t = r := hr.symm
      by_cases hlt : k < nbk N
      · have h128 : 128 < r := by rw [hr, ht]; exact nbk_lt N k hlt
        have b1 : decide ((128 : Int) < (r : Int)) = true := decide_eq_true (by omega)
        have b2 : (128 : Int) < (r : Int) := by omega
        obtain ⟨u, hu⟩ : ∃ u, u = t + 128 := ⟨_, rfl⟩
        have y1 : (t : Int) + 128 = (u : Int) := by omega
        have y2 : u - t = 128 := by omega
        have y3 : (t : Int) ≤ (u : Int) := by omega
        have y4 : (u : Int) ≤ (c_v1 : Int) := by omega
        have y5 : t ≤ u := by omega
        have y6 : u ≤ c_v1 := by omega
        have y7 : ¬ c_v1 = t := by omega
        have y8 : (u : Int) ≤ 700 := by omega
        obtain ⟨BB, hBB⟩ : ∃ BB, BB = (D.drop t).take 128 := ⟨_, rfl⟩
        have lBB : BB.length = 128 := by rw [hBB, List.length_take, List.length_drop]; have := HLD.out; omega
        have CT := Lib.hid fun ww hw => CST.out k t u ht hu (by omega) BB hBB (by have := HLD.out; omega) ww hw
        have lch2 := LCH.out (k + 1)
        obtain ⟨a, rfl⟩ : ∃ a, p_v1 = some a := by
          cases p_v1 with
          | none => exact absurd (hpn rfl) (by omega)
          | some a => exact ⟨a, rfl⟩
        have hxm := hm.x
        have BLK := Lib.hid fun wx (h : Own w0 wx (⟨g1, 38, (chF ST D k).map v64⟩ :: (M1 ++ []))) => BL.out BB (some (a.add t)) (c_v1 - t) (by omega) wx (hBB ▸ ((hmP.out wx [_] h).drop8 t).take 128)
        rw [lBB] at BLK
        have c1 := fun wx (hwx : Ext _ wx) => BLK.out wx (hm.ext hwx)
        have c2 := fun wx (hwx : Ext _ wx) => CT.out wx (HC.out.ext (hxm.trans hwx))
        have HCH := Lib.hid lch2
        generalize hC2 : chF ST D (k + 1) = C2 at *
        have HC2 := Lib.hid hC2
        generalize chF ST D k = C1 at *
        generalize blkF BB 128 = BF at *
        have HU := Lib.hid hu
        clear hC2 hBB lBB ht hr hu x2 hpn
        go_wp2_with fail
        refine region_at 12 (fun w' => Ext _ w') 106 (by kernel_rfl) (by kernel_rfl) rfl (fun _ _ h k => h.trans k) (drew_ext _) ?_
        simp only [List.take_succ_cons, List.take_zero, List.drop_succ_cons, List.drop_zero, List.map_cons, List.map_nil]
        repeat (first
            | (apply walk_is rfl rfl rfl; (intro wx hwx; (with_reducible apply gq_build1 (BW.out (u : Int))); exact rfl); (simp only [Act.put, List.setIfInBounds_toArray, List.set_cons_succ, List.set_cons_zero]; rfl))
            | (apply walk_is rfl rfl rfl
               · (intro wx hwx; first | ((with_reducible show gives _ _ _ (Sem.run _ (execOp _ (Oper.mk _ (Op.load _ _) _ _ _ _)) _)); first | ((with_reducible apply gq_ldv (hm.ext hwx)); infer_instance; (exact rfl); (focus ((repeat (first | exact .hd | assumption | apply Has.tl | apply Has.app)); done)); (focus (first | omega | (simp; omega) | (refine Nat.lt_of_lt_of_le (BitVec.isLt _) ?_; first | omega | (simp; done) | (simp; omega) | fail) | fail))) | ((with_reducible apply gq_ldW (hm.ext hwx)); infer_instance; (exact rfl); (focus ((repeat (first | exact .hd | assumption | apply Has.tl | apply Has.app)); done)); (focus (first | rfl | omega | (simp; done) | (simp; omega) | fail))) | ((with_reducible apply gq_ld1 (hm.ext hwx)); infer_instance; (exact rfl); (focus ((repeat (first | exact .hd | assumption | apply Has.tl | apply Has.app)); done)); (exact rfl)) | fail) | (go_simp; (try go_bits); first | exact gives_same | exact gives_skip | with_reducible exact gives_call (c1 wx hwx) | with_reducible exact gives_call (c2 wx hwx)))
               · (simp only [Act.put, List.setIfInBounds_toArray, List.set_cons_succ, List.set_cons_zero]; rfl))
            | (apply walk_not rfl rfl rfl
               · (simp only [Act.put, List.setIfInBounds_toArray, List.set_cons_succ, List.set_cons_zero]; rfl)))
        intro wz hwz
        simp only [List.zip_cons_cons, List.zip_nil_right]
        repeat (first | rw [fin_is] | (rw [fin_cons]; intro _ _))
        rw [fin_nil]
        try (replace hm := hm.ext hwz)
        simp only [Act.put, List.setIfInBounds_toArray, List.set_cons_succ, List.set_cons_zero]
        clear c1 c2 hxm
        go_wp2_with (first | ((((with_reducible show wpList _ _ _ (Oper.mk _ (Op.store _ _ _) _ _ _ _ :: _) _ _); first | ((with_reducible apply wq_stW hm); (exact rfl); infer_instance; (exact rfl); (exact rfl); (focus ((repeat (first | exact .hd | assumption | apply Swap.tl | apply Swap.app)); done)); (focus (first | rfl | omega | (simp; done) | (simp; omega) | fail)); (focus (first | rfl | omega | (simp; done) | (simp; omega) | fail)); (focus (first | exact one_map _ | (simp [one8, one32, one64]; done) | fail))) | fail)); clear hm; intro w hm) | fail)
        go_roundw
        case rel => exact ⟨k + 1, u, hlt, by have := HU.out; have := HT.out; omega, by go_num, by rw [HC2.out]; exact hm⟩
        case measure => simp [intOf] <;> omega
      · obtain rfl : k = nbk N := by omega
        have h128 : r ≤ 128 := by rw [hr, ht]; exact nbk_rest N
        have b1 : decide ((128 : Int) < (r : Int)) = false := decide_eq_false (by omega)
        have b2 : ¬ (128 : Int) < (r : Int) := by omega
        obtain ⟨BB, hBB⟩ : ∃ BB, BB = D.drop t := ⟨_, rfl⟩
        have lBB : BB.length = r := by rw [hBB, List.length_drop]; have := HLD.out; omega
        have CT := Lib.hid fun ww hw => CLA.out t ht BB hBB r lBB.symm ww hw
        have y1 : (t : Int) ≤ (N : Int) := by omega
        have y2 : (t : Int) ≤ (c_v1 : Int) := by omega
        have y3 : t ≤ c_v1 := by omega
        have y4 : (N : Int) ≤ (c_v1 : Int) := by omega
        have y5 : (N : Int) ≤ 700 := by omega
        have hrn : BB.length = 0 ∨ c_v1 ≠ t := by omega
        generalize chF ST D (nbk N) = C1 at *
        generalize hBF : blkF BB r = BF at *
        have HBF := Lib.hid hBF
        have HBB := Lib.hid hBB
        have HLB := Lib.hid lBB
        clear hBF hBB lBB ht hr
        have HBLK := Lib.hid fun wx (h : Own w0 wx (⟨g1, 38, C1.map v64⟩ :: (M1 ++ []))) => show Gives Tryd.prog 14 #[.slice (slP p_v1 c_v1 t) r (c_v1 - t)] wx (A8 BF) from by
          have := BL.out BB _ (c_v1 - t) (by have := HLB.out; omega) wx (HBB.out ▸ (hmP.out wx [_] h).slL c_v1 t (by have := HLD.out; omega))
          rw [HLB.out, HBF.out] at this
          exact this
        have hxm := hm.x
        have c1 := fun wx (hwx : Ext _ wx) => HBLK.out wx (hm.ext hwx)
        have c2 := fun wx (hwx : Ext _ wx) => CT.out wx (HC.out.ext (hxm.trans hwx))
        clear hrn hpn
        go_wp2_with fail
        refine region_at 10 (fun w' => Ext _ w') 106 (by kernel_rfl) (by kernel_rfl) rfl (fun _ _ h k => h.trans k) (drew_ext _) ?_
        simp only [List.take_succ_cons, List.take_zero, List.drop_succ_cons, List.drop_zero, List.map_cons, List.map_nil]
        repeat (first
            | (apply walk_is rfl rfl rfl; (intro wx hwx; (with_reducible apply gq_build1 (BW.out (N : Int))); exact rfl); (simp only [Act.put, List.setIfInBounds_toArray, List.set_cons_succ, List.set_cons_zero]; rfl))
            | (apply walk_is rfl rfl rfl; (intro wx hwx; (with_reducible apply gq_slL (l := t) (r := r) Tryd.underlying22); infer_instance; exact rfl; exact rfl; exact ltN; exact x2); (simp only [Act.put, List.setIfInBounds_toArray, List.set_cons_succ, List.set_cons_zero]; rfl))
            | (apply walk_is rfl rfl rfl
               · (intro wx hwx; first | ((with_reducible show gives _ _ _ (Sem.run _ (execOp _ (Oper.mk _ (Op.load _ _) _ _ _ _)) _)); first | ((with_reducible apply gq_ldv (hm.ext hwx)); infer_instance; (exact rfl); (focus ((repeat (first | exact .hd | assumption | apply Has.tl | apply Has.app)); done)); (focus (first | omega | (simp; omega) | (refine Nat.lt_of_lt_of_le (BitVec.isLt _) ?_; first | omega | (simp; done) | (simp; omega) | fail) | fail))) | ((with_reducible apply gq_ldW (hm.ext hwx)); infer_instance; (exact rfl); (focus ((repeat (first | exact .hd | assumption | apply Has.tl | apply Has.app)); done)); (focus (first | rfl | omega | (simp; done) | (simp; omega) | fail))) | ((with_reducible apply gq_ld1 (hm.ext hwx)); infer_instance; (exact rfl); (focus ((repeat (first | exact .hd | assumption | apply Has.tl | apply Has.app)); done)); (exact rfl)) | fail) | (go_simp; (try go_bits); first | exact gives_same | exact gives_skip | with_reducible exact gives_call (c1 wx hwx) | with_reducible exact gives_call (c2 wx hwx)))
               · (simp only [Act.put, List.setIfInBounds_toArray, List.set_cons_succ, List.set_cons_zero]; rfl))
            | (apply walk_not rfl rfl rfl
               · (simp only [Act.put, List.setIfInBounds_toArray, List.set_cons_succ, List.set_cons_zero]; rfl)))
        intro wz hwz
        simp only [List.zip_cons_cons, List.zip_nil_right]
        repeat (first | rw [fin_is] | (rw [fin_cons]; intro _ _))
        rw [fin_nil]
        try (replace hm := hm.ext hwz)
        simp only [Act.put, List.setIfInBounds_toArray, List.set_cons_succ, List.set_cons_zero]
        clear c1 c2 hxm HBLK
        go_wp2_with (first | ((((with_reducible show wpList _ _ _ (Oper.mk _ (Op.store _ _ _) _ _ _ _ :: _) _ _); first | ((with_reducible apply wq_stW hm); (exact rfl); infer_instance; (exact rfl); (exact rfl); (focus ((repeat (first | exact .hd | assumption | apply Swap.tl | apply Swap.app)); done)); (focus (first | rfl | omega | (simp; done) | (simp; omega) | fail)); (focus (first | rfl | omega | (simp; done) | (simp; omega) | fail)); (focus (first | exact one_map _ | (simp [one8, one32, one64]; done) | fail))) | fail)); clear hm; intro w hm) | fail)
        refine (CS.out _ (HC.out.ext hm.x) (HK.out.ext hm.x) (HB.out.ext hm.x) (by omega)).mono ?_
        rintro e w ⟨x, rfl, ⟨pw, cw, rfl, hcw, hrw⟩, Mb, hmb⟩
        replace hm := hm.ext hmb.x
        clear hmb
        rw [lZ] at hcw
        have EW := Lib.hid (show Value.slice pw (OU.take sz).length cw = .slice pw sz cw by rw [lZ])
        rw [EW.out]
        have HRW := Lib.hid hrw
        have HLZ := Lib.hid lZ
        generalize OU.take sz = Z at *
        clear hrw EW lZ
        obtain ⟨aw, rfl⟩ := Option.isSome_iff_exists.1 (HRW.out.1 (by rw [HLZ.out]; omega))
        have HM2 := Lib.hid hm.x
        have HOW := Lib.hid (hm.perm (List.perm_append_comm (l₁ := [_]) (l₂ := M1 ++ []))).dropN
        obtain ⟨wz, rfl⟩ : ∃ w', w' = w := ⟨_, rfl⟩
        clear hm
        have hm := HOW.out
        go_wp2_with fail
        go_loopw [12] (fun i wr => ∃ j : Nat, j ≤ sz ∧ i = .int .i64 j ∧ Ext wz wr ∧ Own w0 wr [⟨g1, 38, FN.map v64⟩]) (fun i _ => sz - (intOf i).toNat)
        case atStart => exact ⟨0, by omega, rfl, Ext.refl _, hm⟩
        case round =>
          obtain ⟨j, hj, rfl, hxr, hm⟩ := hrel
          have HXR := Lib.hid hxr
          clear hxr
          by_cases hlt : j < sz
          · have d1 : decide ((j : Int) < (sz : Int)) = true := decide_eq_true (by omega)
            have d2 : (j : Int) < (sz : Int) := by omega
            have d3 : (j : Int) < (cw : Int) := by omega
            obtain ⟨q8, hq8⟩ : ∃ q8, q8 = j / 8 := ⟨_, rfl⟩
            obtain ⟨r8, hr8⟩ : ∃ r8, r8 = j % 8 := ⟨_, rfl⟩
            obtain ⟨m8, hm8⟩ : ∃ m8, m8 = 8 * r8 := ⟨_, rfl⟩
            have z1 : (j : Int) / 8 = (q8 : Int) := by omega
            have z2 : (j : Int).tdiv 8 = (q8 : Int) := by rw [Int.tdiv_eq_ediv_of_nonneg (by omega)]; exact z1
            have z3 : (j : Int) % 8 = (r8 : Int) := by omega
            have z4 : (j : Int).tmod 8 = (r8 : Int) := by rw [Int.tmod_eq_emod_of_nonneg (by omega)]; exact z3
            have z5 : (r8 : Int) * 8 = (m8 : Int) := by omega
            have z6 : (q8 : Int) < 8 := by omega
            have z7 : q8 < 8 := by omega
            have z8 : m8 < 64 := by omega
            have z9 : (m8 : Int) < 64 := by omega
            have hz := HZ.out j hlt
            rw [HO.out j (by omega), ← hr8, ← hq8, ← hm8] at hz
            have RL := Lib.hid fun wx (h : Ext wr wx) => (HRW.out.ext HXR.out).ext h
            have lFj : j < Z.length := by rw [HLZ.out]; exact hlt
            have HQ := Lib.hid (show (nth Z j != (nth FN q8 >>> m8).setWidth 8) = false from by rw [hz]; simp)
            clear hz
            clear hq8 hr8 hm8
            go_wp2_with fail
            refine region_at 15 (fun w' => Ext _ w') 106 (by kernel_rfl) (by kernel_rfl) rfl (fun _ _ h k => h.trans k) (drew_ext _) ?_
            simp only [List.take_succ_cons, List.take_zero, List.drop_succ_cons, List.drop_zero, List.map_cons, List.map_nil]
            repeat (first
                | (apply walk_is rfl rfl rfl
                   · (intro wx hwx; (with_reducible apply gq_rdb ((RL.out) wx hwx)); infer_instance; (exact rfl); (focus (first | omega | (simp; omega) | (refine Nat.lt_of_lt_of_le (BitVec.isLt _) ?_; first | omega | (simp; done) | (simp; omega) | fail) | fail)))
                   · (simp only [Act.put, List.setIfInBounds_toArray, List.set_cons_succ, List.set_cons_zero]; rfl))
                | (apply walk_is rfl rfl rfl
                   · (intro wx hwx; first | ((with_reducible show gives _ _ _ (Sem.run _ (execOp _ (Oper.mk _ (Op.load _ _) _ _ _ _)) _)); first | ((with_reducible apply gq_ldv (hm.ext hwx)); infer_instance; (exact rfl); (focus ((repeat (first | exact .hd | assumption | apply Has.tl | apply Has.app)); done)); (focus (first | omega | (simp; omega) | (refine Nat.lt_of_lt_of_le (BitVec.isLt _) ?_; first | omega | (simp; done) | (simp; omega) | fail) | fail))) | ((with_reducible apply gq_ldW (hm.ext hwx)); infer_instance; (exact rfl); (focus ((repeat (first | exact .hd | assumption | apply Has.tl | apply Has.app)); done)); (focus (first | rfl | omega | (simp; done) | (simp; omega) | fail))) | ((with_reducible apply gq_ld1 (hm.ext hwx)); infer_instance; (exact rfl); (focus ((repeat (first | exact .hd | assumption | apply Has.tl | apply Has.app)); done)); (exact rfl)) | fail) | (go_simp; (try go_bits); first | exact gives_same | exact gives_skip))
                   · (simp only [Act.put, List.setIfInBounds_toArray, List.set_cons_succ, List.set_cons_zero]; rfl))
                | (apply walk_not rfl rfl rfl
                   · (simp only [Act.put, List.setIfInBounds_toArray, List.set_cons_succ, List.set_cons_zero]; rfl)))
            intro wz hwz
            simp only [List.zip_cons_cons, List.zip_nil_right]
            repeat (first | rw [fin_is] | (rw [fin_cons]; intro _ _))
            rw [fin_nil]
            try (replace hm := hm.ext hwz)
            simp only [Act.put, List.setIfInBounds_toArray, List.set_cons_succ, List.set_cons_zero]
            rw [HQ.out]
            go_wp2_with fail
            go_roundw
            case rel => exact ⟨j + 1, by omega, by go_num, HXR.out.trans hwz, hm⟩
            case measure => simp [intOf] <;> omega
          · obtain rfl : j = sz := by omega
            have d1 : decide ((j : Int) < (j : Int)) = false := decide_eq_false (by omega)
            go_wp2_with (first | (go_at_call 10; (with_reducible refine (awake6 _ (HC.out.ext hm.x)).mono ?_); rintro e_ w ⟨rfl, hx_⟩; replace hm := hm.ext hx_; clear hx_) | fail)
            go_ret
            exact ⟨rfl, hm.x⟩
  · have b1 : decide ((0 : Int) < (key.length : Int)) = true := decide_eq_true (by omega)
    have b2 : (0 : Int) < (key.length : Int) := by omega
    have b3 : 0 < key.length := by omega
    have eK : KL = pad key 128 := by rw [hKL, keyL, if_neg hk0]
    clear hKL hk0
    go_enter Tryd.func4, Tryd.ntmps4
    go_wp2_with fail
    refine (padded_new key p c 128 _ (HK.out.ext hm.x) (by omega) (by decide) (by decide)).mono ?_
    rintro e w ⟨gp, rfl, hgp, hrp, hx_⟩
    rw [← eK] at hrp ⊢
    replace hm := hm.push hx_ hgp hrp
    have SN := Lib.hid (SlO.whole gp 5 1 KL.length (KL.map v8) (by simp) (by unfold maxLen; omega))
    clear eK hx_ hgp hrp
    go_wp2_with (first | ((with_reducible show wpList _ _ _ (Oper.mk _ (Op.call _) _ _ _ _ :: _) _ _); refine wplO_app (M := [⟨gp, 5, KL.map v8⟩]) (R := []) (ds := b.map v8) hm SN.out rfl rfl rfl rfl Tryd.underlying22 (by simp) (cells_b (HB.out.ext hm.x)) (one_map _) FIT.out ?_; clear hm; intro v1 w M1 hm hs1; obtain ⟨p_v1, c_v1, rfl⟩ := hs1.form) | fail)
    rw [← List.map_append, ← ED.out, ← HN.out] at hs1
    rw [← HN.out]
    have HS1 := Lib.hid hs1
    have hmP := Lib.hid fun (w : World) (L : List Blk) (h : Own w0 w (L ++ (M1 ++ []))) => show RdB w p_v1 D from slo_rdB hs1 h.dropN
    have hcap : N ≤ c_v1 := by
      obtain ⟨_, _, hv, h, _⟩ := hs1.cells hm
      cases hv; exact h
    have hcmx : c_v1 ≤ maxLen := by
      obtain ⟨_, _, hv, _, h, _⟩ := hs1.cells hm
      cases hv; exact h
    have hpn : p_v1 = none → c_v1 = 0 := by
      rcases hs1.2 with ⟨h1, h2, _⟩ | ⟨g', o, cap', cur, h1, _⟩
      · cases h1; intro _; rfl
      · cases h1; intro h; cases h
    clear hs1
    go_wp2_with (first | (go_at_call 12; (with_reducible refine (FI.out _).mono ?_); rintro e_ w ⟨rfl, hx_⟩; replace hm := hm.ext hx_; clear hx_) | ((((with_reducible show wpList _ _ _ (Oper.mk _ (Op.store _ _ _) _ _ _ _ :: _) _ _); first | ((with_reducible apply wq_stW hm); (exact rfl); infer_instance; (exact rfl); (exact rfl); (focus ((repeat (first | exact .hd | assumption | apply Swap.tl | apply Swap.app)); done)); (focus (first | rfl | omega | (simp; done) | (simp; omega) | fail)); (focus (first | rfl | omega | (simp; done) | (simp; omega) | fail)); (focus (first | exact one_map _ | (simp [one8, one32, one64]; done) | fail))) | fail)); clear hm; intro w hm) | ((first | ((with_reducible show wpList _ _ _ (Oper.mk _ (Op.alloc _) _ _ _ _ :: _) _ _); first | ((with_reducible apply wq_new hm); (exact rfl); infer_instance) | fail)); clear hm; (first | (have hx_ := g1; clear hx_; (first | (have hx_ := g2; clear hx_; (first | (have hx_ := g3; clear hx_; (first | (have hx_ := g4; clear hx_; (first | (have hx_ := g5; clear hx_; (first | (have hx_ := g6; clear hx_; (first | (have hx_ := g7; clear hx_; (first | (have hx_ := g8; clear hx_; (first | (have hx_ := g9; clear hx_; intro g10) | intro g9)) | intro g8)) | intro g7)) | intro g6)) | intro g5)) | intro g4)) | intro g3)) | intro g2)) | intro g1); intro w hm) | fail)
    rw [← CH0.out] at hm
    go_loopw [9] (fun i wr => ∃ k t : Nat, k ≤ nbk N ∧ t = 128 * k ∧ i = .int .i64 (t : Int) ∧ Own w0 wr (⟨g1, 38, (chF ST D k).map v64⟩ :: (M1 ++ []))) (fun i _ => N + 1 - (intOf i).toNat)
    case atStart => exact ⟨0, 0, by omega, rfl, rfl, hm⟩
    case round =>
      obtain ⟨k, t, hk, ht, rfl, hm⟩ := hrel
      have HT := Lib.hid ht
      have lch := LCH.out k
      have ltN : t ≤ N := by have := nbk_le N; omega
      obtain ⟨r, hr⟩ : ∃ r, r = N - t := ⟨_, rfl⟩
      have x1 : (N : Int) - (t : Int) = (r : Int) := by omega
      have x2 : N - t = r := hr.symm
      by_cases hlt : k < nbk N
      · have h128 : 128 < r := by rw [hr, ht]; exact nbk_lt N k hlt
        have b1 : decide ((128 : Int) < (r : Int)) = true := decide_eq_true (by omega)
        have b2 : (128 : Int) < (r : Int) := by omega
        obtain ⟨u, hu⟩ : ∃ u, u = t + 128 := ⟨_, rfl⟩
        have y1 : (t : Int) + 128 = (u : Int) := by omega
        have y2 : u - t = 128 := by omega
        have y3 : (t : Int) ≤ (u : Int) := by omega
        have y4 : (u : Int) ≤ (c_v1 : Int) := by omega
        have y5 : t ≤ u := by omega
        have y6 : u ≤ c_v1 := by omega
        have y7 : ¬ c_v1 = t := by omega
        have y8 : (u : Int) ≤ 700 := by omega
        obtain ⟨BB, hBB⟩ : ∃ BB, BB = (D.drop t).take 128 := ⟨_, rfl⟩
        have lBB : BB.length = 128 := by rw [hBB, List.length_take, List.length_drop]; have := HLD.out; omega
        have CT := Lib.hid fun ww hw => CST.out k t u ht hu (by omega) BB hBB (by have := HLD.out; omega) ww hw
        have lch2 := LCH.out (k + 1)
        obtain ⟨a, rfl⟩ : ∃ a, p_v1 = some a := by
          cases p_v1 with
          | none => exact absurd (hpn rfl) (by omega)
          | some a => exact ⟨a, rfl⟩
        have hxm := hm.x
        have BLK := Lib.hid fun wx (h : Own w0 wx (⟨g1, 38, (chF ST D k).map v64⟩ :: (M1 ++ []))) => BL.out BB (some (a.add t)) (c_v1 - t) (by omega) wx (hBB ▸ ((hmP.out wx [_] h).drop8 t).take 128)
        rw [lBB] at BLK
        have c1 := fun wx (hwx : Ext _ wx) => BLK.out wx (hm.ext hwx)
        have c2 := fun wx (hwx : Ext _ wx) => CT.out wx (HC.out.ext (hxm.trans hwx))
        have HCH := Lib.hid lch2
        generalize hC2 : chF ST D (k + 1) = C2 at *
        have HC2 := Lib.hid hC2
        generalize chF ST D k = C1 at *
        generalize blkF BB 128 = BF at *
        have HU := Lib.hid hu
        clear hC2 hBB lBB ht hr hu x2 hpn
        go_wp2_with fail
        refine region_at 12 (fun w' => Ext _ w') 106 (by kernel_rfl) (by kernel_rfl) rfl (fun _ _ h k => h.trans k) (drew_ext _) ?_
        simp only [List.take_succ_cons, List.take_zero, List.drop_succ_cons, List.drop_zero, List.map_cons, List.map_nil]
        repeat (first
            | (apply walk_is rfl rfl rfl; (intro wx hwx; (with_reducible apply gq_build1 (BW.out (u : Int))); exact rfl); (simp only [Act.put, List.setIfInBounds_toArray, List.set_cons_succ, List.set_cons_zero]; rfl))
            | (apply walk_is rfl rfl rfl
               · (intro wx hwx; first | ((with_reducible show gives _ _ _ (Sem.run _ (execOp _ (Oper.mk _ (Op.load _ _) _ _ _ _)) _)); first | ((with_reducible apply gq_ldv (hm.ext hwx)); infer_instance; (exact rfl); (focus ((repeat (first | exact .hd | assumption | apply Has.tl | apply Has.app)); done)); (focus (first | omega | (simp; omega) | (refine Nat.lt_of_lt_of_le (BitVec.isLt _) ?_; first | omega | (simp; done) | (simp; omega) | fail) | fail))) | ((with_reducible apply gq_ldW (hm.ext hwx)); infer_instance; (exact rfl); (focus ((repeat (first | exact .hd | assumption | apply Has.tl | apply Has.app)); done)); (focus (first | rfl | omega | (simp; done) | (simp; omega) | fail))) | ((with_reducible apply gq_ld1 (hm.ext hwx)); infer_instance; (exact rfl); (focus ((repeat (first | exact .hd | assumption | apply Has.tl | apply Has.app)); done)); (exact rfl)) | fail) | (go_simp; (try go_bits); first | exact gives_same | exact gives_skip | with_reducible exact gives_call (c1 wx hwx) | with_reducible exact gives_call (c2 wx hwx)))
               · (simp only [Act.put, List.setIfInBounds_toArray, List.set_cons_succ, List.set_cons_zero]; rfl))
            | (apply walk_not rfl rfl rfl
               · (simp only [Act.put, List.setIfInBounds_toArray, List.set_cons_succ, List.set_cons_zero]; rfl)))
        intro wz hwz
        simp only [List.zip_cons_cons, List.zip_nil_right]
        repeat (first | rw [fin_is] | (rw [fin_cons]; intro _ _))
        rw [fin_nil]
        try (replace hm := hm.ext hwz)
        simp only [Act.put, List.setIfInBounds_toArray, List.set_cons_succ, List.set_cons_zero]
        clear c1 c2 hxm
        go_wp2_with (first | ((((with_reducible show wpList _ _ _ (Oper.mk _ (Op.store _ _ _) _ _ _ _ :: _) _ _); first | ((with_reducible apply wq_stW hm); (exact rfl); infer_instance; (exact rfl); (exact rfl); (focus ((repeat (first | exact .hd | assumption | apply Swap.tl | apply Swap.app)); done)); (focus (first | rfl | omega | (simp; done) | (simp; omega) | fail)); (focus (first | rfl | omega | (simp; done) | (simp; omega) | fail)); (focus (first | exact one_map _ | (simp [one8, one32, one64]; done) | fail))) | fail)); clear hm; intro w hm) | fail)
        go_roundw
        case rel => exact ⟨k + 1, u, hlt, by have := HU.out; have := HT.out; omega, by go_num, by rw [HC2.out]; exact hm⟩
        case measure => simp [intOf] <;> omega
      · obtain rfl : k = nbk N := by omega
        have h128 : r ≤ 128 := by rw [hr, ht]; exact nbk_rest N
        have b1 : decide ((128 : Int) < (r : Int)) = false := decide_eq_false (by omega)
        have b2 : ¬ (128 : Int) < (r : Int) := by omega
        obtain ⟨BB, hBB⟩ : ∃ BB, BB = D.drop t := ⟨_, rfl⟩
        have lBB : BB.length = r := by rw [hBB, List.length_drop]; have := HLD.out; omega
        have CT := Lib.hid fun ww hw => CLA.out t ht BB hBB r lBB.symm ww hw
        have y1 : (t : Int) ≤ (N : Int) := by omega
        have y2 : (t : Int) ≤ (c_v1 : Int) := by omega
        have y3 : t ≤ c_v1 := by omega
        have y4 : (N : Int) ≤ (c_v1 : Int) := by omega
        have y5 : (N : Int) ≤ 700 := by omega
        have hrn : BB.length = 0 ∨ c_v1 ≠ t := by omega
        generalize chF ST D (nbk N) = C1 at *
        generalize hBF : blkF BB r = BF at *
        have HBF := Lib.hid hBF
        have HBB := Lib.hid hBB
        have HLB := Lib.hid lBB
        clear hBF hBB lBB ht hr
        have HBLK := Lib.hid fun wx (h : Own w0 wx (⟨g1, 38, C1.map v64⟩ :: (M1 ++ []))) => show Gives Tryd.prog 14 #[.slice (slP p_v1 c_v1 t) r (c_v1 - t)] wx (A8 BF) from by
          have := BL.out BB _ (c_v1 - t) (by have := HLB.out; omega) wx (HBB.out ▸ (hmP.out wx [_] h).slL c_v1 t (by have := HLD.out; omega))
          rw [HLB.out, HBF.out] at this
          exact this
        have hxm := hm.x
        have c1 := fun wx (hwx : Ext _ wx) => HBLK.out wx (hm.ext hwx)
        have c2 := fun wx (hwx : Ext _ wx) => CT.out wx (HC.out.ext (hxm.trans hwx))
        clear hrn hpn
        go_wp2_with fail
        refine region_at 10 (fun w' => Ext _ w') 106 (by kernel_rfl) (by kernel_rfl) rfl (fun _ _ h k => h.trans k) (drew_ext _) ?_
        simp only [List.take_succ_cons, List.take_zero, List.drop_succ_cons, List.drop_zero, List.map_cons, List.map_nil]
        repeat (first
            | (apply walk_is rfl rfl rfl; (intro wx hwx; (with_reducible apply gq_build1 (BW.out (N : Int))); exact rfl); (simp only [Act.put, List.setIfInBounds_toArray, List.set_cons_succ, List.set_cons_zero]; rfl))
            | (apply walk_is rfl rfl rfl; (intro wx hwx; (with_reducible apply gq_slL (l := t) (r := r) Tryd.underlying22); infer_instance; exact rfl; exact rfl; exact ltN; exact x2); (simp only [Act.put, List.setIfInBounds_toArray, List.set_cons_succ, List.set_cons_zero]; rfl))
            | (apply walk_is rfl rfl rfl
               · (intro wx hwx; first | ((with_reducible show gives _ _ _ (Sem.run _ (execOp _ (Oper.mk _ (Op.load _ _) _ _ _ _)) _)); first | ((with_reducible apply gq_ldv (hm.ext hwx)); infer_instance; (exact rfl); (focus ((repeat (first | exact .hd | assumption | apply Has.tl | apply Has.app)); done)); (focus (first | omega | (simp; omega) | (refine Nat.lt_of_lt_of_le (BitVec.isLt _) ?_; first | omega | (simp; done) | (simp; omega) | fail) | fail))) | ((with_reducible apply gq_ldW (hm.ext hwx)); infer_instance; (exact rfl); (focus ((repeat (first | exact .hd | assumption | apply Has.tl | apply Has.app)); done)); (focus (first | rfl | omega | (simp; done) | (simp; omega) | fail))) | ((with_reducible apply gq_ld1 (hm.ext hwx)); infer_instance; (exact rfl); (focus ((repeat (first | exact .hd | assumption | apply Has.tl | apply Has.app)); done)); (exact rfl)) | fail) | (go_simp; (try go_bits); first | exact gives_same | exact gives_skip | with_reducible exact gives_call (c1 wx hwx) | with_reducible exact gives_call (c2 wx hwx)))
               · (simp only [Act.put, List.setIfInBounds_toArray, List.set_cons_succ, List.set_cons_zero]; rfl))
            | (apply walk_not rfl rfl rfl
               · (simp only [Act.put, List.setIfInBounds_toArray, List.set_cons_succ, List.set_cons_zero]; rfl)))
        intro wz hwz
        simp only [List.zip_cons_cons, List.zip_nil_right]
        repeat (first | rw [fin_is] | (rw [fin_cons]; intro _ _))
        rw [fin_nil]
        try (replace hm := hm.ext hwz)
        simp only [Act.put, List.setIfInBounds_toArray, List.set_cons_succ, List.set_cons_zero]
        clear c1 c2 hxm HBLK
        go_wp2_with (first | ((((with_reducible show wpList _ _ _ (Oper.mk _ (Op.store _ _ _) _ _ _ _ :: _) _ _); first | ((with_reducible apply wq_stW hm); (exact rfl); infer_instance; (exact rfl); (exact rfl); (focus ((repeat (first | exact .hd | assumption | apply Swap.tl | apply Swap.app)); done)); (focus (first | rfl | omega | (simp; done) | (simp; omega) | fail)); (focus (first | rfl | omega | (simp; done) | (simp; omega) | fail)); (focus (first | exact one_map _ | (simp [one8, one32, one64]; done) | fail))) | fail)); clear hm; intro w hm) | fail)
        refine (CS.out _ (HC.out.ext hm.x) (HK.out.ext hm.x) (HB.out.ext hm.x) (by omega)).mono ?_
        rintro e w ⟨x, rfl, ⟨pw, cw, rfl, hcw, hrw⟩, Mb, hmb⟩
        replace hm := hm.ext hmb.x
        clear hmb
        rw [lZ] at hcw
        have EW := Lib.hid (show Value.slice pw (OU.take sz).length cw = .slice pw sz cw by rw [lZ])
        rw [EW.out]
        have HRW := Lib.hid hrw
        have HLZ := Lib.hid lZ
        generalize OU.take sz = Z at *
        clear hrw EW lZ
        obtain ⟨aw, rfl⟩ := Option.isSome_iff_exists.1 (HRW.out.1 (by rw [HLZ.out]; omega))
        have HM2 := Lib.hid hm.x
        have HOW := Lib.hid (hm.perm (List.perm_append_comm (l₁ := [_]) (l₂ := M1 ++ []))).dropN
        obtain ⟨wz, rfl⟩ : ∃ w', w' = w := ⟨_, rfl⟩
        clear hm
        have hm := HOW.out
        go_wp2_with fail
        go_loopw [12] (fun i wr => ∃ j : Nat, j ≤ sz ∧ i = .int .i64 j ∧ Ext wz wr ∧ Own w0 wr [⟨g1, 38, FN.map v64⟩]) (fun i _ => sz - (intOf i).toNat)
        case atStart => exact ⟨0, by omega, rfl, Ext.refl _, hm⟩
        case round =>
          obtain ⟨j, hj, rfl, hxr, hm⟩ := hrel
          have HXR := Lib.hid hxr
          clear hxr
          by_cases hlt : j < sz
          · have d1 : decide ((j : Int) < (sz : Int)) = true := decide_eq_true (by omega)
            have d2 : (j : Int) < (sz : Int) := by omega
            have d3 : (j : Int) < (cw : Int) := by omega
            obtain ⟨q8, hq8⟩ : ∃ q8, q8 = j / 8 := ⟨_, rfl⟩
            obtain ⟨r8, hr8⟩ : ∃ r8, r8 = j % 8 := ⟨_, rfl⟩
            obtain ⟨m8, hm8⟩ : ∃ m8, m8 = 8 * r8 := ⟨_, rfl⟩
            have z1 : (j : Int) / 8 = (q8 : Int) := by omega
            have z2 : (j : Int).tdiv 8 = (q8 : Int) := by rw [Int.tdiv_eq_ediv_of_nonneg (by omega)]; exact z1
            have z3 : (j : Int) % 8 = (r8 : Int) := by omega
            have z4 : (j : Int).tmod 8 = (r8 : Int) := by rw [Int.tmod_eq_emod_of_nonneg (by omega)]; exact z3
            have z5 : (r8 : Int) * 8 = (m8 : Int) := by omega
            have z6 : (q8 : Int) < 8 := by omega
            have z7 : q8 < 8 := by omega
            have z8 : m8 < 64 := by omega
            have z9 : (m8 : Int) < 64 := by omega
            have hz := HZ.out j hlt
            rw [HO.out j (by omega), ← hr8, ← hq8, ← hm8] at hz
            have RL := Lib.hid fun wx (h : Ext wr wx) => (HRW.out.ext HXR.out).ext h
            have lFj : j < Z.length := by rw [HLZ.out]; exact hlt
            have HQ := Lib.hid (show (nth Z j != (nth FN q8 >>> m8).setWidth 8) = false from by rw [hz]; simp)
            clear hz
            clear hq8 hr8 hm8
            go_wp2_with fail
            refine region_at 15 (fun w' => Ext _ w') 106 (by kernel_rfl) (by kernel_rfl) rfl (fun _ _ h k => h.trans k) (drew_ext _) ?_
            simp only [List.take_succ_cons, List.take_zero, List.drop_succ_cons, List.drop_zero, List.map_cons, List.map_nil]
            repeat (first
                | (apply walk_is rfl rfl rfl
                   · (intro wx hwx; (with_reducible apply gq_rdb ((RL.out) wx hwx)); infer_instance; (exact rfl); (focus (first | omega | (simp; omega) | (refine Nat.lt_of_lt_of_le (BitVec.isLt _) ?_; first | omega | (simp; done) | (simp; omega) | fail) | fail)))
                   · (simp only [Act.put, List.setIfInBounds_toArray, List.set_cons_succ, List.set_cons_zero]; rfl))
                | (apply walk_is rfl rfl rfl
                   · (intro wx hwx; first | ((with_reducible show gives _ _ _ (Sem.run _ (execOp _ (Oper.mk _ (Op.load _ _) _ _ _ _)) _)); first | ((with_reducible apply gq_ldv (hm.ext hwx)); infer_instance; (exact rfl); (focus ((repeat (first | exact .hd | assumption | apply Has.tl | apply Has.app)); done)); (focus (first | omega | (simp; omega) | (refine Nat.lt_of_lt_of_le (BitVec.isLt _) ?_; first | omega | (simp; done) | (simp; omega) | fail) | fail))) | ((with_reducible apply gq_ldW (hm.ext hwx)); infer_instance; (exact rfl); (focus ((repeat (first | exact .hd | assumption | apply Has.tl | apply Has.app)); done)); (focus (first | rfl | omega | (simp; done) | (simp; omega) | fail))) | ((with_reducible apply gq_ld1 (hm.ext hwx)); infer_instance; (exact rfl); (focus ((repeat (first | exact .hd | assumption | apply Has.tl | apply Has.app)); done)); (exact rfl)) | fail) | (go_simp; (try go_bits); first | exact gives_same | exact gives_skip))
                   · (simp only [Act.put, List.setIfInBounds_toArray, List.set_cons_succ, List.set_cons_zero]; rfl))
                | (apply walk_not rfl rfl rfl
                   · (simp only [Act.put, List.setIfInBounds_toArray, List.set_cons_succ, List.set_cons_zero]; rfl)))
            intro wz hwz
            simp only [List.zip_cons_cons, List.zip_nil_right]
            repeat (first | rw [fin_is] | (rw [fin_cons]; intro _ _))
            rw [fin_nil]
            try (replace hm := hm.ext hwz)
            simp only [Act.put, List.setIfInBounds_toArray, List.set_cons_succ, List.set_cons_zero]
            rw [HQ.out]
            go_wp2_with fail
            go_roundw
            case rel => exact ⟨j + 1, by omega, by go_num, HXR.out.trans hwz, hm⟩
            case measure => simp [intOf] <;> omega
          · obtain rfl : j = sz := by omega
            have d1 : decide ((j : Int) < (j : Int)) = false := decide_eq_false (by omega)
            go_wp2_with (first | (go_at_call 10; (with_reducible refine (awake6 _ (HC.out.ext hm.x)).mono ?_); rintro e_ w ⟨rfl, hx_⟩; replace hm := hm.ext hx_; clear hx_) | fail)
            go_ret
            exact ⟨rfl, hm.x⟩

end Go.Proofs.YtmclklhnbmkheaaDoor
