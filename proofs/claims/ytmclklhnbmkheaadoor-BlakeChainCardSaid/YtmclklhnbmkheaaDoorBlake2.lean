/-
  Layer 6: eight numbers compressed. Conditions: the program's first numbers and rows read as its text lays them.
-/
import Derived.Test.YtmclklhnbmkheaaDoorBlake1
import Derived.Test.YtmclklhnbmkheaaDoorOpen
import Derived.RegionTactic
namespace Go.Proofs.YtmclklhnbmkheaaDoor
open Go Go.RowKit
set_option maxRecDepth 100000
set_option linter.unusedVariables false
set_option linter.unusedSimpArgs false

abbrev A64 (l : List (BitVec 64)) : Value := .agg (l.map v64).toArray
/-- The program's first numbers, and the rows, lie as its text lays them. -/
def CoefB (w : World) : Prop := (∀ i, i < 8 → w.cell? ⟨0, i, none⟩ = some (v64 (nth firstL i))) ∧ RdK w (some ⟨1, 0, none⟩) 16 rowsL
theorem CoefB.ext {w w' : World} (h : CoefB w) (hx : Ext w w') : CoefB w' := ⟨fun i hi => hx.cell (h.1 i hi), h.2.ext hx⟩
theorem CoefB.row {w : World} (h : CoefB w) (q : Nat) (hq : q < 10) : RdB w (some ⟨1, q * 16, none⟩) (rowL q) := by
  have := (h.2.at (by omega) q (by rw [rowsL_length]; exact hq)).1
  have e : ((some (⟨1, 0, none⟩ : Addr)).getD default).add (q * 16) = ⟨1, q * 16, none⟩ := by simp [Addr.add]; omega
  rw [e] at this
  rwa [rowL, Nat.mod_eq_of_lt hq]
theorem long_G (b : List Byte) (p : Option Addr) (c n : Nat) (i : Int) (w : World) (hb : b.length = n) (hn : n ≤ 140737488355328) (h0 : -9223372036854775808 ≤ i) (h1 : i ≤ 9223372036854775807) (hr : RdB w p b) : Gives Tryd.prog 18 #[.slice p n c, .int .i64 i] w (v64 (num b i 8)) := by
  subst hb; exact long_any b p c i w hr hn h0 h1
theorem Own.turn64 {w0 w : World} {L L' : List Blk} {g k : Nat} {t : TypeId} {l : List (BitVec 64)} {b : BitVec 64} (h : Own w0 w L) (hs : Swap L ⟨g, t, l.map v64⟩ ⟨g, t, (setN l k b).map v64⟩ L') : Own w0 (w.setCell ⟨g, k, none⟩ (v64 b)) L' := by
  rw [← mapv_set] at hs; exact h.turnC hs
def mF (b : List Byte) (i : Nat) : BitVec 64 := num b (8 * (i : Int)) 8
def mL (b : List Byte) : List (BitVec 64) := tab 16 (mF b)

attribute [local simp] compL_length
set_option maxHeartbeats 4000000 in
theorem compress_any (h : List (BitVec 64)) (b : List Byte) (lo hi : BitVec 64) (last : Bool) (hh : h.length = 8) (hb : b.length = 128) (w0 : World) (hc : CoefB w0) :
    Gives Tryd.prog 13 #[A64 h, A8 b, .agg #[v64 lo, v64 hi], .bool last] w0 (A64 (compL h (mL b) lo hi last)) := by
  unfold Gives
  have hm := Own.start w0
  have HC := Lib.hid hc
  have HB := Lib.hid hb
  have HH := Lib.hid hh
  have hb1 := Nat.le_of_eq hb
  have hb2 := Nat.le_of_eq hb.symm
  have hh1 := Nat.le_of_eq hh
  have hh2 := Nat.le_of_eq hh.symm
  obtain ⟨V, hV⟩ : ∃ V, initL h lo hi last = V := ⟨_, rfl⟩
  have HV := Lib.hid hV
  have HI := Lib.hid (hV ▸ initL_length h lo hi last)
  have EC := Lib.hid (show compL h (mL b) lo hi last = tab 8 fun i => nth h i ^^^ (nth (roundF (mL b) V 12) i ^^^ nth (roundF (mL b) V 12) (i + 8)) by rw [compL, hV])
  have lC : (compL h (mL b) lo hi last).length = 8 := compL_length _ _ _ _ _
  generalize compL h (mL b) lo hi last = CL at *
  clear hc hb hh hV
  go_enter Tryd.func13, Tryd.ntmps13
  go_wp2_with (first | ((first | ((with_reducible show wpList _ _ _ (Oper.mk _ (Op.alloc _) _ _ _ _ :: _) _ _); first | ((with_reducible apply wq_new hm); (exact rfl); infer_instance) | fail) | ((with_reducible show wpList _ _ _ (Oper.mk _ (Op.box _ _) _ _ _ _ :: _) _ _); first | ((with_reducible apply wq_boxN hm); (exact rfl); (exact rfl)) | fail)); clear hm; (first | (have hx_ := g1; clear hx_; (first | (have hx_ := g2; clear hx_; (first | (have hx_ := g3; clear hx_; (first | (have hx_ := g4; clear hx_; (first | (have hx_ := g5; clear hx_; (first | (have hx_ := g6; clear hx_; (first | (have hx_ := g7; clear hx_; (first | (have hx_ := g8; clear hx_; (first | (have hx_ := g9; clear hx_; intro g10) | intro g9)) | intro g8)) | intro g7)) | intro g6)) | intro g5)) | intro g4)) | intro g3)) | intro g2)) | intro g1); intro w hm) | fail)
  go_loopw [17] (fun i wr => ∃ k : Nat, k ≤ 16 ∧ i = .int .i64 k ∧ Own w0 wr [⟨g6, 53, (zer (n := 64) 16).map v64⟩, ⟨g5, 53, (part 16 k (mF b) fun _ => 0).map v64⟩, ⟨g4, 38, (zer (n := 64) 8).map v64⟩, ⟨g3, 44, [v64 lo, v64 hi]⟩, ⟨g2, 41, b.map v8⟩, ⟨g1, 38, h.map v64⟩]) (fun i _ => 16 - (intOf i).toNat)
  case atStart => exact ⟨0, by omega, rfl, by rw [← zer_start]; exact hm⟩
  case round =>
    obtain ⟨k, hk, rfl, hm⟩ := hrel
    by_cases hlt : k < 16
    · go_wp2_with (first | (go_at_call 18; (with_reducible refine (long_G b _ _ _ _ _ HB.out (by omega) (by omega) (by omega) (hm.rdB (by repeat (first | exact Has.hd | assumption | apply Has.tl)))).mono ?_); rintro e_ w ⟨rfl, hx_⟩; replace hm := hm.ext hx_; clear hx_) | ((((with_reducible show wpList _ _ _ (Oper.mk _ (Op.store _ _ _) _ _ _ _ :: _) _ _); first | ((with_reducible apply wq_stv hm); (exact rfl); infer_instance; (exact rfl); (focus ((repeat (first | exact .hd | assumption | apply Swap.tl)); done)); infer_instance; (exact rfl); (focus (first | omega | (simp; omega) | (refine Nat.lt_of_lt_of_le (BitVec.isLt _) ?_; first | omega | (simp; done) | (simp; omega) | fail) | fail))) | fail)); clear hm; intro w hm) | fail)
      go_roundw
      case rel =>
        rw [part_set' (f := mF b) (x := num b (8 * (k : Int)) 8) hlt rfl] at hm
        exact ⟨k + 1, by omega, by go_num, hm⟩
      case measure => simp [intOf] <;> omega
    · obtain rfl : k = 16 := by omega
      rw [part_all] at hm
      go_wp2_with fail
      go_loopw [27] (fun i wr => ∃ k : Nat, k ≤ 8 ∧ i = .int .i64 k ∧ Own w0 wr [⟨g6, 53, (startF h k).map v64⟩, ⟨g5, 53, (mL b).map v64⟩, ⟨g4, 38, (zer (n := 64) 8).map v64⟩, ⟨g3, 44, [v64 lo, v64 hi]⟩, ⟨g2, 41, b.map v8⟩, ⟨g1, 38, h.map v64⟩]) (fun i _ => 8 - (intOf i).toNat)
      case atStart => exact ⟨0, by omega, rfl, hm⟩
      case round =>
        obtain ⟨k, hk, rfl, hm⟩ := hrel
        by_cases hlt : k < 8
        · have hd : decide ((k : Int) < 8) = true := by simp; omega
          go_wp2_with fail
          have sl := startF_length h k
          have o1 := hm.turn64 (g := g6) (k := k) (b := nth h k) (by repeat (first | exact Swap.hd | assumption | apply Swap.tl))
          have o2 := o1.turn64 (g := g6) (k := k + 8) (b := nth firstL k) (by repeat (first | exact Swap.hd | assumption | apply Swap.tl))
          have r6 := hm.row (g := g6) (by repeat (first | exact Has.hd | assumption | apply Has.tl))
          have hcH : wr.cell? ⟨g1, k, none⟩ = some (v64 (nth h k)) := by rw [row_cell (hm.row (g := g1) (by repeat (first | exact Has.hd | assumption | apply Has.tl))), map64_at h (by omega)]
          have hcF := (HC.out.ext hm.x).1 k hlt
          have hcV : wr.cell? ⟨g6, k, none⟩ = some (v64 (nth (startF h k) k)) := by rw [row_cell r6, map64_at _ (by omega)]
          have hcW : wr.cell? ⟨g6, k + 8, none⟩ = some (v64 (nth (startF h k) (k + 8))) := by rw [row_cell r6, map64_at _ (by omega)]
          have hf1 := row_free r6 k
          have hf2 := row_free r6 (k + 8)
          have hne : ¬ k = k + 8 := by omega
          have hk8 : (k : Int) < 8 := by omega
          have O2 := Lib.hid o2
          clear o1 o2 r6 hm
          go_region
          all_goals
            go_wp2_with fail
            go_roundw
            case rel => exact ⟨k + 1, by omega, by go_num, O2.out.drew⟩
            case measure => simp [intOf] <;> omega
        · obtain rfl : k = 8 := by omega
          have hs := startF_length h 8
          have hmb : (mL b).length = 16 := tab_length
          have hi0 := HI.out
          have REST := Lib.hid (show roundF (mL b) V 0 = V from rfl)
          have e2 : ∀ v0, startF h 8 = v0 → V = if last then notN (xorN (xorN v0 12 lo) 13 hi) 14 else xorN (xorN v0 12 lo) 13 hi := by rintro v0 rfl; rw [← HV.out]; rfl
          obtain ⟨v0, hv0⟩ : ∃ v0, startF h 8 = v0 := ⟨_, rfl⟩
          have e3 := e2 v0 hv0
          rw [hv0] at hm hs
          clear e2 hv0
          cases last
          all_goals
            simp only [Bool.false_eq_true, if_true, if_false] at e3
            have E3 := Lib.hid e3
            clear e3
            go_wp2_with (first | ((with_reducible show wpList _ _ _ (Oper.mk _ (Op.load _ _) _ _ _ _ :: _) _ _); first | ((with_reducible apply wq_ldv hm); (exact rfl); infer_instance; (exact rfl); (focus ((repeat (first | exact .hd | assumption | apply Has.tl)); done)); (focus (first | omega | (simp; omega) | (refine Nat.lt_of_lt_of_le (BitVec.isLt _) ?_; first | omega | (simp; done) | (simp; omega) | fail) | fail))) | ((with_reducible apply wq_ld1 hm); (exact rfl); infer_instance; (exact rfl); (focus ((repeat (first | exact .hd | assumption | apply Has.tl)); done)); (exact rfl)) | fail) | ((((with_reducible show wpList _ _ _ (Oper.mk _ (Op.store _ _ _) _ _ _ _ :: _) _ _); first | ((with_reducible apply wq_stv hm); (exact rfl); infer_instance; (exact rfl); (focus ((repeat (first | exact .hd | assumption | apply Swap.tl)); done)); infer_instance; (exact rfl); (focus (first | omega | (simp; omega) | (refine Nat.lt_of_lt_of_le (BitVec.isLt _) ?_; first | omega | (simp; done) | (simp; omega) | fail) | fail))) | fail)); clear hm; intro w hm) | fail)
            first
              | (replace hm : Own w0 w [⟨g6, 53, (xorN (xorN v0 12 lo) 13 hi).map v64⟩, ⟨g5, 53, (mL b).map v64⟩, ⟨g4, 38, (zer (n := 64) 8).map v64⟩, ⟨g3, 44, [v64 lo, v64 hi]⟩, ⟨g2, 41, b.map v8⟩, ⟨g1, 38, h.map v64⟩] := hm
                 rw [← E3.out] at hm)
              | (replace hm : Own w0 w [⟨g6, 53, (notN (xorN (xorN v0 12 lo) 13 hi) 14).map v64⟩, ⟨g5, 53, (mL b).map v64⟩, ⟨g4, 38, (zer (n := 64) 8).map v64⟩, ⟨g3, 44, [v64 lo, v64 hi]⟩, ⟨g2, 41, b.map v8⟩, ⟨g1, 38, h.map v64⟩] := hm
                 rw [← E3.out] at hm)
            rw [← REST.out] at hm
            clear REST E3
            generalize mL b = M at *
            have hm1 := Nat.le_of_eq hmb
            have hm2 := Nat.le_of_eq hmb.symm
            go_wp2_with fail
            go_loopw [59] (fun i wr => ∃ r : Nat, r ≤ 12 ∧ i = .int .i64 r ∧ Own w0 wr [⟨g6, 53, (roundF M V r).map v64⟩, ⟨g5, 53, (M).map v64⟩, ⟨g4, 38, (zer (n := 64) 8).map v64⟩, ⟨g3, 44, [v64 lo, v64 hi]⟩, ⟨g2, 41, b.map v8⟩, ⟨g1, 38, h.map v64⟩]) (fun i _ => 12 - (intOf i).toNat)
            case atStart => exact ⟨0, by omega, rfl, hm⟩
            case round =>
              obtain ⟨r, hr, rfl, hm⟩ := hrel
              by_cases hlt : r < 12
              · have hd : decide ((r : Int) < 12) = true := by simp; omega
                obtain ⟨q, hq, hq4⟩ : ∃ q : Nat, r % 10 = q ∧ q < 10 := ⟨_, rfl, Nat.mod_lt _ (by omega)⟩
                have a1 : (r : Int) % 10 = (q : Int) := by omega
                have a2 : (r : Int).tmod 10 = (q : Int) := by rw [Int.tmod_eq_emod_of_nonneg (by omega)]; exact a1
                have hq10 : (q : Int) < 10 := by omega
                have e1 : roundF M V (r + 1) = stepF M (rowL q) (roundF M V r) 8 := by rw [roundF, ← hq]; simp only [rowL, Nat.mod_mod]
                have lR : (rowL q).length = 16 := rowL_length q
                have ltR := rowL_lt q
                have RQ := Lib.hid (HC.out.row q hq4)
                have lv : (roundF M V r).length = 16 := by rw [roundF_length, hi0]
                generalize roundF M V r = W0 at *
                generalize rowL q = RW at *
                have E1 := Lib.hid e1
                have LTR := Lib.hid ltR
                clear e1 ltR hq
                go_wp2_with (first | ((with_reducible apply wq_rdW (RQ.out.ext (hm.x))); exact rfl; infer_instance; exact rfl; exact lR) | ((((with_reducible show wpList _ _ _ (Oper.mk _ (Op.store _ _ _) _ _ _ _ :: _) _ _); first | ((with_reducible apply wq_stW hm); (exact rfl); infer_instance; (exact rfl); (exact rfl); (focus ((repeat (first | exact .hd | assumption | apply Swap.tl)); done)); (focus (first | rfl | omega | (simp; done) | (simp; omega) | fail)); (focus (first | rfl | omega | (simp; done) | (simp; omega) | fail)); (focus (first | exact one_map _ | (simp [one8, one32, one64]; done) | fail))) | fail)); clear hm; intro w hm) | ((first | ((with_reducible show wpList _ _ _ (Oper.mk _ (Op.alloc _) _ _ _ _ :: _) _ _); first | ((with_reducible apply wq_new hm); (exact rfl); infer_instance) | fail)); clear hm; (first | (have hx_ := g1; clear hx_; (first | (have hx_ := g2; clear hx_; (first | (have hx_ := g3; clear hx_; (first | (have hx_ := g4; clear hx_; (first | (have hx_ := g5; clear hx_; (first | (have hx_ := g6; clear hx_; (first | (have hx_ := g7; clear hx_; (first | (have hx_ := g8; clear hx_; (first | (have hx_ := g9; clear hx_; intro g10) | intro g9)) | intro g8)) | intro g7)) | intro g6)) | intro g5)) | intro g4)) | intro g3)) | intro g2)) | intro g1); intro w hm) | fail)
                go_loopw [66] (fun i wr => ∃ k : Nat, k ≤ 8 ∧ i = .int .i64 k ∧ Own w0 wr [⟨g7, 55, RW.map v8⟩, ⟨g6, 53, (stepF M RW W0 k).map v64⟩, ⟨g5, 53, M.map v64⟩, ⟨g4, 38, (zer (n := 64) 8).map v64⟩, ⟨g3, 44, [v64 lo, v64 hi]⟩, ⟨g2, 41, b.map v8⟩, ⟨g1, 38, h.map v64⟩]) (fun i _ => 8 - (intOf i).toNat)
                case atStart => exact ⟨0, by omega, rfl, hm⟩
                case round =>
                  obtain ⟨k, hk, rfl, hm⟩ := hrel
                  by_cases hlt : k < 8
                  · have hd : decide ((k : Int) < 8) = true := by simp; omega
                    obtain ⟨qi, hqi, hqi4⟩ : ∃ q : Nat, k % 4 = q ∧ q < 4 := ⟨_, rfl, Nat.mod_lt _ (by omega)⟩
                    obtain ⟨di, hdi, hdi4⟩ : ∃ q : Nat, k / 4 = q ∧ q < 2 := ⟨_, rfl, by omega⟩
                    have a1 : (k : Int) % 4 = (qi : Int) := by omega
                    have a2 : (k : Int).tmod 4 = (qi : Int) := by rw [Int.tmod_eq_emod_of_nonneg (by omega)]; exact a1
                    have a3 : (k : Int) / 4 = (di : Int) := by omega
                    have a4 : (k : Int).tdiv 4 = (di : Int) := by rw [Int.tdiv_eq_ediv_of_nonneg (by omega)]; exact a3
                    have b1 : 2 * (k : Int) < 16 := by omega
                    have b2 : 0 ≤ 2 * (k : Int) := by omega
                    have b3 : (2 * (k : Int)).toNat = 2 * k := by omega
                    have b4 : 2 * (k : Int) + 1 < 16 := by omega
                    have b5 : 0 ≤ 2 * (k : Int) + 1 := by omega
                    have b6 : (2 * (k : Int) + 1).toNat = 2 * k + 1 := by omega
                    have c1 := LTR.out (2 * k)
                    have c2 := LTR.out (2 * k + 1)
                    have c3 : ((nth RW (2 * k)).toNat : Int) < 16 := by omega
                    have c4 : ((nth RW (2 * k + 1)).toNat : Int) < 16 := by omega
                    have e2 : stepF M RW W0 (k + 1) = stirL (stepF M RW W0 k) qi di (nth M (nth RW (2 * k)).toNat) (nth M (nth RW (2 * k + 1)).toNat) := by rw [stepF, hqi, hdi]
                    have E2 := Lib.hid e2
                    have lsF : (stepF M RW W0 k).length = 16 := by rw [stepF_length, lv]
                    clear e2 hqi hdi
                    go_wp2_with fail
                    refine region_at 17 (fun w' => Ext _ w') 107 (by kernel_rfl) (by kernel_rfl) rfl (fun _ _ h k => h.trans k) (drew_ext _) ?_
                    simp only [List.take_succ_cons, List.take_zero, List.drop_succ_cons, List.drop_zero, List.map_cons, List.map_nil]
                    repeat (first
                        | (apply walk_is rfl rfl rfl
                           · (intro wx hwx; first | ((with_reducible show gives _ _ _ (Sem.run _ (execOp _ (Oper.mk _ (Op.load _ _) _ _ _ _)) _)); first | ((with_reducible apply gq_ldv (hm.ext hwx)); infer_instance; (exact rfl); (focus ((repeat (first | exact .hd | assumption | apply Has.tl)); done)); (focus (first | omega | (simp; omega) | (refine Nat.lt_of_lt_of_le (BitVec.isLt _) ?_; first | omega | (simp; done) | (simp; omega) | fail) | fail))) | ((with_reducible apply gq_ldW (hm.ext hwx)); infer_instance; (exact rfl); (focus ((repeat (first | exact .hd | assumption | apply Has.tl)); done)); (focus (first | rfl | omega | (simp; done) | (simp; omega) | fail))) | ((with_reducible apply gq_ld1 (hm.ext hwx)); infer_instance; (exact rfl); (focus ((repeat (first | exact .hd | assumption | apply Has.tl)); done)); (exact rfl)) | fail) | (go_simp; (try go_bits); first | exact gives_same | exact gives_skip))
                           · (simp only [Act.put, List.setIfInBounds_toArray, List.set_cons_succ, List.set_cons_zero]; rfl))
                        | (apply walk_not rfl rfl rfl
                           · (simp only [Act.put, List.setIfInBounds_toArray, List.set_cons_succ, List.set_cons_zero]; rfl)))
                    intro wz hwz
                    simp only [List.zip_cons_cons, List.zip_nil_right]
                    repeat (first | rw [fin_is] | (rw [fin_cons]; intro _ _))
                    rw [fin_nil]
                    try (replace hm := hm.ext hwz)
                    simp only [Act.put, List.setIfInBounds_toArray, List.set_cons_succ, List.set_cons_zero]
                    go_wp2_with fail
                    refine (stir_any g6 (stepF M RW W0 k) qi di _ _ lsF hqi4 hdi4 w0 _ _ _ hm (by repeat (first | exact Swap.hd | assumption | apply Swap.tl))).mono ?_
                    rintro e w ⟨rfl, hm⟩
                    rw [← E2.out] at hm
                    go_wp2
                    go_roundw
                    case rel => exact ⟨k + 1, by omega, by go_num, hm⟩
                    case measure => simp [intOf] <;> omega
                  · obtain rfl : k = 8 := by omega
                    rw [← E1.out] at hm
                    go_wp2_with fail
                    go_roundw
                    case rel => exact ⟨r + 1, by omega, by go_num, hm.drop⟩
                    case measure => simp [intOf] <;> omega
              · obtain rfl : r = 12 := by omega
                rw [show ((12 : Nat) : Int) = 12 from rfl]
                have lv : (roundF M V 12).length = 16 := by rw [roundF_length, hi0]
                generalize roundF M V 12 = Z at *
                rw [part_start (f := fun i => nth h i ^^^ (nth Z i ^^^ nth Z (i + 8))) HH.out] at hm
                go_wp2_with fail
                go_loopw [89] (fun i wr => ∃ k : Nat, k ≤ 8 ∧ i = .int .i64 k ∧ Own w0 wr [⟨g6, 53, Z.map v64⟩, ⟨g5, 53, M.map v64⟩, ⟨g4, 38, (zer (n := 64) 8).map v64⟩, ⟨g3, 44, [v64 lo, v64 hi]⟩, ⟨g2, 41, b.map v8⟩, ⟨g1, 38, (part 8 k (fun i => nth h i ^^^ (nth Z i ^^^ nth Z (i + 8))) (nth h)).map v64⟩]) (fun i _ => 8 - (intOf i).toNat)
                case atStart => exact ⟨0, by omega, rfl, hm⟩
                case round =>
                  obtain ⟨k, hk, rfl, hm⟩ := hrel
                  by_cases hlt : k < 8
                  · have e1 : nth (part 8 k (fun i => nth h i ^^^ (nth Z i ^^^ nth Z (i + 8))) (nth h)) k = nth h k := nth_part_ge hlt (Nat.le_refl _)
                    have hd : decide ((k : Int) < 8) = true := by simp; omega
                    have b1 : (k : Int) < 8 := by omega
                    have b2 : (k : Int) < 16 := by omega
                    have b3 : (k : Int) + 8 < 16 := by omega
                    have b4 : 0 ≤ (k : Int) + 8 := by omega
                    have b5 : ((k : Int) + 8).toNat = k + 8 := by omega
                    go_wp2_with fail
                    refine region_at 13 (fun w' => Ext _ w') 107 (by kernel_rfl) (by kernel_rfl) rfl (fun _ _ h k => h.trans k) (drew_ext _) ?_
                    simp only [List.take_succ_cons, List.take_zero, List.drop_succ_cons, List.drop_zero, List.map_cons, List.map_nil]
                    repeat (first
                        | (apply walk_is rfl rfl rfl
                           · (intro wx hwx; first | ((with_reducible show gives _ _ _ (Sem.run _ (execOp _ (Oper.mk _ (Op.load _ _) _ _ _ _)) _)); first | ((with_reducible apply gq_ldv (hm.ext hwx)); infer_instance; (exact rfl); (focus ((repeat (first | exact .hd | assumption | apply Has.tl)); done)); (focus (first | omega | (simp; omega) | (refine Nat.lt_of_lt_of_le (BitVec.isLt _) ?_; first | omega | (simp; done) | (simp; omega) | fail) | fail))) | ((with_reducible apply gq_ldW (hm.ext hwx)); infer_instance; (exact rfl); (focus ((repeat (first | exact .hd | assumption | apply Has.tl)); done)); (focus (first | rfl | omega | (simp; done) | (simp; omega) | fail))) | ((with_reducible apply gq_ld1 (hm.ext hwx)); infer_instance; (exact rfl); (focus ((repeat (first | exact .hd | assumption | apply Has.tl)); done)); (exact rfl)) | fail) | (go_simp; (try go_bits); first | exact gives_same | exact gives_skip))
                           · (simp only [Act.put, List.setIfInBounds_toArray, List.set_cons_succ, List.set_cons_zero]; rfl))
                        | (apply walk_not rfl rfl rfl
                           · (simp only [Act.put, List.setIfInBounds_toArray, List.set_cons_succ, List.set_cons_zero]; rfl)))
                    intro wz hwz
                    simp only [List.zip_cons_cons, List.zip_nil_right]
                    repeat (first | rw [fin_is] | (rw [fin_cons]; intro _ _))
                    rw [fin_nil]
                    try (replace hm := hm.ext hwz)
                    simp only [Act.put, List.setIfInBounds_toArray, List.set_cons_succ, List.set_cons_zero]
                    go_wp2_with (first | ((((with_reducible show wpList _ _ _ (Oper.mk _ (Op.store _ _ _) _ _ _ _ :: _) _ _); first | ((with_reducible apply wq_stv hm); (exact rfl); infer_instance; (exact rfl); (focus ((repeat (first | exact .hd | assumption | apply Swap.tl)); done)); infer_instance; (exact rfl); (focus (first | omega | (simp; omega) | (refine Nat.lt_of_lt_of_le (BitVec.isLt _) ?_; first | omega | (simp; done) | (simp; omega) | fail) | fail))) | fail)); clear hm; intro w hm) | fail)
                    go_roundw
                    case rel =>
                      rw [part_set' hlt rfl] at hm
                      exact ⟨k + 1, by omega, by go_num, hm⟩
                    case measure => simp [intOf] <;> omega
                  · obtain rfl : k = 8 := by omega
                    rw [part_all, ← EC.out] at hm
                    go_wp2_with (first | ((with_reducible show wpList _ _ _ (Oper.mk _ (Op.load _ _) _ _ _ _ :: _) _ _); first | ((with_reducible apply wq_ldW hm); (exact rfl); infer_instance; (exact rfl); (focus ((repeat (first | exact .hd | assumption | apply Has.tl)); done)); (focus (first | rfl | omega | (simp; done) | (simp; omega) | fail))) | fail) | ((((with_reducible show wpList _ _ _ (Oper.mk _ (Op.store _ _ _) _ _ _ _ :: _) _ _); first | ((with_reducible apply wq_stW hm); (exact rfl); infer_instance; (exact rfl); (exact rfl); (focus ((repeat (first | exact .hd | assumption | apply Swap.tl)); done)); (focus (first | rfl | omega | (simp; done) | (simp; omega) | fail)); (focus (first | rfl | omega | (simp; done) | (simp; omega) | fail)); (focus (first | exact one_map _ | (simp [one8, one32, one64]; done) | fail))) | fail)); clear hm; intro w hm) | fail)
                    refine ret_own hm rfl rfl (by infer_instance) (by repeat (first | exact Has.hd | assumption | apply Has.tl)) (by first | rfl | omega | (simp only [zeros_length, zer_length, tab_length, part_length, setN_length, List.length_map, List.length_cons, List.length_nil, List.length_append, List.length_take, List.length_drop, List.length_replicate, blk_length, putL_length] <;> omega) | fail) rfl ⟨rfl, hm.x⟩

end Go.Proofs.YtmclklhnbmkheaaDoor
