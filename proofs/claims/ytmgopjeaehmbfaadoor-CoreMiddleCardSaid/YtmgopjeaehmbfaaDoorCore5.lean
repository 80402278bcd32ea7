/-
  Layer 20: a message, cut into its parts. Conditions: those written in each theorem.
-/
import Derived.Test.YtmgopjeaehmbfaaDoorCore3
import Derived.Test.YtmgopjeaehmbfaaDoorRegQ
namespace Go.Proofs.YtmgopjeaehmbfaaDoor
open Go Go.RowKit
set_option maxRecDepth 100000
set_option linter.unusedVariables false
set_option linter.unusedSimpArgs false

theorem build_msg (x y : List Byte) (hx : x.length = 16) (hy : y.length = 16) (w : World) : (Instr.build 107 #[(3, A8 x), (4, A8 y)]).run Tryd.prog w = .ok (.agg (msgC (.slice none 0 0) (.slice none 0 0) (.slice none 0 0) x y).toArray) w := by
  obtain ⟨a0, a1, a2, a3, a4, a5, a6, a7, a8, a9, a10, a11, a12, a13, a14, a15, rfl⟩ := len16 x hx
  obtain ⟨b0, b1, b2, b3, b4, b5, b6, b7, b8, b9, b10, b11, b12, b13, b14, b15, rfl⟩ := len16 y hy
  kernel_rfl
instance elemP : Elem Tryd.prog 144 32 32 := Elem.of (by kernel_rfl) (by omega)
theorem len32 (b : List Byte) (h : b.length = 32) : ∃ x y, b = x ++ y ∧ x.length = 16 ∧ y.length = 16 := ⟨b.take 16, b.drop 16, (List.take_append_drop 16 b).symm, by rw [List.length_take, h]; rfl, by rw [List.length_drop, h]⟩
theorem bs1_pair (b : List Byte) (hb : b.length = 32) (w : World) : (Instr.buildSlice 105 1 #[(0, A8 b)]).run Tryd.prog w = .ok (.slice (some ⟨w.heap.size, 0, none⟩) 1 1) (w.alloc (.cells (b.map v8).toArray 144)) := by
  obtain ⟨x, y, rfl, hx, hy⟩ := len32 b hb
  obtain ⟨a0, a1, a2, a3, a4, a5, a6, a7, a8, a9, a10, a11, a12, a13, a14, a15, rfl⟩ := len16 x hx
  obtain ⟨b0, b1, b2, b3, b4, b5, b6, b7, b8, b9, b10, b11, b12, b13, b14, b15, rfl⟩ := len16 y hy
  kernel_rfl
/-- A slice of one pair, as long as nothing was appended. -/
def PairP (b : List Byte) : PSlot := fun v vs w => vs = [none] → ∃ g e, v = .slice (some ⟨g, 0, none⟩) 1 1 ∧ Row w g e (b.map v8)
theorem PairP.stable {Sp : List (Option Value) → Nat → Value → World → World → Prop} (b : List Byte) : PStable Sp (PairP b) where
  ext := fun _ _ _ _ h hx he => by obtain ⟨g, e, h1, h2⟩ := h he; exact ⟨g, e, h1, row_ext h2 hx⟩
  mark := fun v vs i x w w' _ hn _ he => by
    have hl := (List.getElem?_eq_some_iff.1 hn).1
    have := congrArg (fun l => l[i]?) he
    simp only [List.getElem?_set_self hl] at this
    rcases i with _ | i
    · cases this
    · simp at this
theorem gqp_bs1 {P : Program} {dst : Option Tmp} {ty : TypeId} {pos : String} {aft : Array Edge} {gd : Option (Nat × Bool)} {a : Act} {w : World} {T e : TypeId} {u0 : Value} {x0 : Operand} {b : List Byte} {s : List (Option Value)} (hb : (Instr.buildSlice T 1 #[(0, u0)]).run P w = .ok (.slice (some ⟨w.heap.size, 0, none⟩) 1 1) (w.alloc (.cells (b.map v8).toArray e))) (hx0 : a.eval x0 = u0) :
    gives P w (fun v w' => PairP b v s w') ((execOp a.eval (Oper.mk dst (.buildSlice T 1 #[(0, x0)]) ty pos aft gd)).run P w) := by
  unfold execOp
  simp [hx0, hb]
  exact gives_val (V := fun v w' => PairP b v s w') (Ext.alloc (Ext.refl _) _) fun _ => ⟨_, e, rfl, row_new w e (b.map v8)⟩

section
variable {P : Program} {ops : Array Oper} {Q : Exit → Act → World → Prop} {rest : List Oper} {dst : Option Tmp} {ty : TypeId} {pos : String} {aft : Array Edge} {gd : Option (Nat × Bool)} {a : Act} {w0 w : World} {L L' : List Blk} {T t : TypeId} {x y : Operand} {g k : Nat} {cs cs' : List Value} {v : Value}
theorem wq_stf (hm : Own w0 w L) (hgd : Region.wanted (Oper.mk dst (.store T x y) ty pos aft gd) (yielded ops a.tmps) = true) (hT : One1 P T) (hx : a.eval x = .pointer (some ⟨g, k, none⟩)) (hy : a.eval y = v) (hval : v.cells = #[v]) (h1 : v.oneCell' = true) (hs : Swap L ⟨g, t, cs⟩ ⟨g, t, cs'⟩ L') (he : cs.set k v = cs') (hk : k < cs.length) (hr : ∀ w', Own w0 w' L' → wpList P ops Q rest (a.put dst undef) w') : wpList P ops Q ((Oper.mk dst (.store T x y) ty pos aft gd) :: rest) a w := wpl_st1 hm hgd rfl hx hy hval h1 hs hk he hr
end
set_option maxHeartbeats 8000000 in
theorem apart_any (l : List Byte) (p : Option Addr) (c : Nat) (h32 : 32 ≤ l.length) (h300 : l.length ≤ 300) (hlc : l.length ≤ c) (w0 : World) (hl : RdB w0 p l) :
    Calls Tryd.prog 67 #[.slice p l.length c] w0 fun e w' => ∃ (pp : Value) (pu pv : Option Addr) (cu cv : Nat) (M : List Blk), e = .returned (.agg (msgC pp (.slice pu (splitT l).u.length cu) (.slice pv (splitT l).v.length cv) (splitT l).x (splitT l).y).toArray) ∧
      RdB w0 pu (splitT l).u ∧ RdB w0 pv (splitT l).v ∧ SlO M 144 32 pp ((l.length - 32) / 32) ((splitT l).ps.map v8) ∧ Own w0 w' M := by
  obtain ⟨a, rfl⟩ := Option.isSome_iff_exists.1 (hl.1 (by omega))
  obtain ⟨f1, f2, f3⟩ := fl_core_at l.length h32 h300
  have L1 := Lib.hid fun w hx => clast_any l (some a) c 32 32 (by omega) rfl h32 f1 f3 hlc (by omega) w (hl.ext hx)
  have L2 := Lib.hid fun w hx => clast_any l (some a) c 16 16 (by omega) rfl (by omega) f2 f3 hlc (by omega) w (hl.ext hx)
  have lX : ((l.drop (l.length - 32)).take 16).length = 16 := by rw [List.length_take, List.length_drop]; omega
  have lY : ((l.drop (l.length - 16)).take 16).length = 16 := by rw [List.length_take, List.length_drop]; omega
  have BM := Lib.hid (build_msg _ _ lX lY)
  have EX : Hid ((splitT l).x = (l.drop (l.length - 32)).take 16) := Lib.hid rfl
  have EY : Hid ((splitT l).y = (l.drop (l.length - 16)).take 16) := Lib.hid (by show l.drop _ = _; rw [List.take_of_length_le (by rw [List.length_drop]; omega)])
  generalize (l.drop (l.length - 32)).take 16 = X at *
  generalize (l.drop (l.length - 16)).take 16 = Y at *
  obtain ⟨L, hL⟩ : ∃ L, L = l.length - 32 := ⟨_, rfl⟩
  have HR0 : Hid (RdB w0 (some a) (l.take L)) := Lib.hid (hl.take L)
  have lm : (l.take L).length = L := by rw [List.length_take]; omega
  have HS := Lib.hid (show (splitT l).ps = (l.take L).take (32 * (L / 32)) ∧ restM l = (l.take L).drop (32 * (L / 32)) from by
    constructor
    · show l.take (32 * ((l.length - 32) / 32)) = _
      rw [List.take_take, hL, Nat.min_eq_left (by omega)]
    · rw [restM, List.drop_take, hL])
  have hLc : (l.length : Int) - 32 = (L : Int) := by omega
  have b1 : (0 : Int) ≤ (L : Int) := by omega
  have b2 : (L : Int) ≤ (c : Int) := by omega
  have b3 : L + 32 ≤ c := by omega
  have b4 : L ≤ 300 := by omega
  have HL := Lib.hid hL
  have lS := fun pp u v => msg_length (pp := pp) (u := u) (v := v) lX lY
  clear hl f1 f2 f3 h300 hlc hL
  have hm := Own.start w0
  go_enter Tryd.func67, Tryd.ntmps67
  go_wp2_with (first | ((first | ((with_reducible show wpList _ _ _ (Oper.mk _ (Op.alloc _) _ _ _ _ :: _) _ _); first | ((with_reducible apply wq_new hm); (exact rfl); infer_instance) | fail)); clear hm; (first | (have hx_ := g1; clear hx_; (first | (have hx_ := g2; clear hx_; (first | (have hx_ := g3; clear hx_; (first | (have hx_ := g4; clear hx_; (first | (have hx_ := g5; clear hx_; (first | (have hx_ := g6; clear hx_; (first | (have hx_ := g7; clear hx_; (first | (have hx_ := g8; clear hx_; (first | (have hx_ := g9; clear hx_; intro g10) | intro g9)) | intro g8)) | intro g7)) | intro g6)) | intro g5)) | intro g4)) | intro g3)) | intro g2)) | intro g1); intro w hm) | fail)
  refine wp_scope_goto 0 (fun a_ w_ => ∃ (k m cq g1 g2 : Nat) (q : Addr) (pp : Value) (M : List Blk) (Z : List Value) (u1 u4 u5 u6 u7 u8 u9 u10 u11 u12 u13 u14 u15 u16 u17 u18 u19 u20 u21 u22 u23 u24 u25 u26 u27 u28 u29 u30 u31 u32 u33 u34 u35 u36 u37 u38 u39 u40 u41 u42 : Value), a_ = { tmps := #[(.slice (some q) m cq), u1, (.pointer (some ⟨g1, 0, none⟩)), (.pointer (some ⟨g2, 0, none⟩)), u4, u5, u6, u7, u8, u9, u10, u11, u12, u13, u14, u15, u16, u17, u18, u19, u20, u21, u22, u23, u24, u25, u26, u27, u28, u29, u30, u31, u32, u33, u34, u35, u36, u37, u38, u39, u40, u41, u42], defers := [] } ∧ m + 32 * k = L ∧ m + 32 ≤ cq ∧ RdB w0 (some q) ((l.take L).drop (32 * k)) ∧ SlO M 144 32 pp k (((l.take L).take (32 * k)).map v8) ∧ Z.length = 35 ∧ Own w0 w_ (M ++ [⟨g2, 107, msgC pp (.slice none 0 0) (.slice none 0 0) X Y⟩, ⟨g1, 107, Z⟩])) (fun a_ _ => slen (a_.tmps.getD 0 undef)) rfl ?_ ?_
  · clear hm
    rintro a' w ⟨k, m, cq, g1, g2, q, pp, M, Z, u1, u4, u5, u6, u7, u8, u9, u10, u11, u12, u13, u14, u15, u16, u17, u18, u19, u20, u21, u22, u23, u24, u25, u26, u27, u28, u29, u30, u31, u32, u33, u34, u35, u36, u37, u38, u39, u40, u41, u42, rfl, ⟨hmk, hmc, hrd, hso, hZ, hm⟩⟩
    by_cases h : 32 ≤ m
    · have d1 : decide ((32 : Int) ≤ (m : Int)) = true := decide_eq_true (by omega)
      have d2 : decide ((m : Int) ≥ 32) = true := decide_eq_true (by omega)
      have d3 : (32 : Int) ≤ (m : Int) := by omega
      have d4 : (16 : Int) ≤ (m : Int) := by omega
      obtain ⟨pa, ca, rfl⟩ := hso.form
      have lR : ((l.take L).drop (32 * k)).length = m := by rw [List.length_drop, lm]; omega
      have lR2 : (((l.take L).drop (32 * k)).drop 16).length = m - 16 := by rw [List.length_drop, lR]
      have A1 : q.add 16 = { block := q.block, off := q.off + 16 } := by unfold Addr.add; split <;> first | rfl | omega | (simp_all; done)
      have A2 : q.add 32 = { block := q.block, off := q.off + 32 } := by unfold Addr.add; split <;> first | rfl | omega | (simp_all; done)
      have r2 := hrd.drop 16
      have r3 := hrd.drop 32
      rw [A1] at r2
      rw [A2, List.drop_drop, show 32 * k + 32 = 32 * (k + 1) by omega] at r3
      have B1 := Lib.hid fun (wx : World) (hx : Ext w0 wx) => show Gives Tryd.prog 53 #[.slice (some q) m cq] wx (A8 (blk ((l.take L).drop (32 * k)))) from by
        have := oblock_any _ (some q) cq wx (hrd.ext hx)
        rwa [lR] at this
      have B2 := Lib.hid fun (wx : World) (hx : Ext w0 wx) => show Gives Tryd.prog 53 #[.slice (some { block := q.block, off := q.off + 16 }) (m - 16) (cq - 16)] wx (A8 (blk (((l.take L).drop (32 * k)).drop 16))) from by
        have := oblock_any _ (some { block := q.block, off := q.off + 16 }) (cq - 16) wx (r2.ext hx)
        rwa [lR2] at this
      have HR3 := Lib.hid r3
      have lP := blk_length ((l.take L).drop (32 * k))
      have lP2 := blk_length (((l.take L).drop (32 * k)).drop 16)
      have eT : (l.take L).take (32 * (k + 1)) = (l.take L).take (32 * k) ++ (blk ((l.take L).drop (32 * k)) ++ blk (((l.take L).drop (32 * k)).drop 16)) := by
        have e1 : blk ((l.take L).drop (32 * k)) = ((l.take L).drop (32 * k)).take 16 := blk_sub _ _ (by rw [lm]; omega)
        have e2 : blk (((l.take L).drop (32 * k)).drop 16) = (((l.take L).drop (32 * k)).drop 16).take 16 := blk_sub _ _ (by rw [lR]; omega)
        rw [e1, e2, show 32 * (k + 1) = 32 * k + (16 + 16) by omega, List.take_add, List.take_add]
      have ET := Lib.hid eT
      have lPP : (blk ((l.take L).drop (32 * k)) ++ blk (((l.take L).drop (32 * k)).drop 16)).length = 32 := by rw [List.length_append, lP, lP2]
      have BP := Lib.hid (build_pair _ _ lP lP2)
      have BS := Lib.hid (bs1_pair _ lPP)
      have LY := Lib.hid (show ((blk ((l.take L).drop (32 * k)) ++ blk (((l.take L).drop (32 * k)).drop 16)).map v8).length = 1 * 32 by rw [List.length_map, lPP])
      have FIT := Lib.hid (show (k + 1) * (32 + 1) ≤ 140737488355328 by omega)
      have FP := Lib.hid (msg_pp (pp := .slice pa k ca) (u := .slice none 0 0) (v := .slice none 0 0) (x := X) (y := Y))
      have HM := Lib.hid hmk
      have HC := Lib.hid hmc
      have hc1 : ¬ (cq : Int) = 16 := by omega
      have hc4 : ¬ cq = 16 := by omega
      have hc5 : ¬ cq = 32 := by omega
      have hc2 : ¬ (cq : Int) = 32 := by omega
      have hc3 : (m : Int) ≤ (cq : Int) := by omega
      have HSO := Lib.hid hso
      have HZ := Lib.hid hZ
      clear hrd r2 r3 eT lPP lR lR2 hmk hso hmc hZ
      generalize hPP : blk ((l.take L).drop (32 * k)) ++ blk (((l.take L).drop (32 * k)).drop 16) = PP at *
      have HPP := Lib.hid hPP
      clear hPP
      generalize blk ((l.take L).drop (32 * k)) = P at *
      generalize blk (((l.take L).drop (32 * k)).drop 16) = P2 at *
      go_wp2_with fail
      refine pregion 11 (JA1 w0 [⟨g2, 107, msgC (.slice pa k ca) (.slice none 0 0) (.slice none 0 0) X Y⟩, ⟨g1, 107, Z⟩] 144 32 (.slice pa k ca) k (((l.take L).take (32 * k)).map v8) (k + 1) (((l.take L).take (32 * k)).map v8 ++ PP.map v8)) [9] 43 (by kernel_rfl) (by kernel_rfl) rfl (⟨none, rfl, M, hm.ext (drew_ext _), HSO.out⟩) ?_
      simp only [List.take_succ_cons, List.take_zero, List.drop_succ_cons, List.drop_zero, List.map_cons, List.map_nil]
      repeat (first
          | (apply pwalk_is rfl rfl rfl rfl; (intro vs_ wx hJ_; obtain ⟨a_, rfl, hX_⟩ := hJ_; have hm := hX_.low; (with_reducible apply gq_ld1 hm); infer_instance; (exact rfl); (focus ((repeat (first | exact .hd | assumption | apply Has.tl | apply Has.app)); done)); (exact FP.out)); (simp only [Act.put, List.setIfInBounds_toArray, List.set_cons_succ, List.set_cons_zero]; rfl))
          | (apply pwalk_is rfl rfl rfl rfl; (intro vs_ wx hJ_; obtain ⟨a_, rfl, hX_⟩ := hJ_; have hm := hX_.low; (with_reducible apply gq_build BP.out); (first | rfl | simp [Act.eval] | kernel_rfl)); (simp only [Act.put, List.setIfInBounds_toArray, List.set_cons_succ, List.set_cons_zero]; rfl))
          | (apply pwalk_some (PairP PP) 25 (PairP.stable _) rfl rfl rfl rfl rfl; (intro vs_ wx hJ_; exact gqp_bs1 (BS.out wx) rfl))
          | (apply pwalk_mark (T := [(25, PairP PP)]) 0 [] rfl rfl rfl (by kernel_rfl) rfl
             · (intro vs_ wx hJ_ hn_ hD_; simp only [pwithS]; obtain ⟨a_, rfl, hX_⟩ := hJ_; obtain rfl : a_ = none := (by simpa using hn_); obtain ⟨M_, hm, hs_⟩ := hX_; intro x_ hx_; obtain ⟨gx_, ex_, rfl, hrow_⟩ := hx_ rfl; refine ⟨rfl, ?_⟩; refine wplO_app (M := M_) (ds := PP.map v8) hm hs_ rfl rfl rfl rfl Tryd.underlying105 LY.out (cellsB (RdB.of_row hrow_)) (one_map _) FIT.out ?_; intro v_ w_ M1_ hm1_ hs1_; exact mark_end rfl (X1.j0 hm1_ hs1_)))
          | (apply pwalk_is rfl rfl rfl rfl
             · (intro vs_ wx hJ_; obtain ⟨a_, rfl, hX_⟩ := hJ_; have hm := hX_.low; first | ((with_reducible show gives _ _ _ (Sem.run _ (execOp _ (Oper.mk _ (Op.load _ _) _ _ _ _)) _)); first | ((with_reducible apply gq_ldv hm); infer_instance; (exact rfl); (focus ((repeat (first | exact .hd | assumption | apply Has.tl | apply Has.app)); done)); (focus (first | omega | (simp; omega) | (refine Nat.lt_of_lt_of_le (BitVec.isLt _) ?_; first | omega | (simp; done) | (simp; omega) | fail) | fail))) | ((with_reducible apply gq_ldW hm); infer_instance; (exact rfl); (focus ((repeat (first | exact .hd | assumption | apply Has.tl | apply Has.app)); done)); (focus (first | rfl | omega | (simp; done) | (simp; omega) | fail))) | ((with_reducible apply gq_ld1 hm); infer_instance; (exact rfl); (focus ((repeat (first | exact .hd | assumption | apply Has.tl | apply Has.app)); done)); (exact rfl)) | fail) | (go_simp; (try go_bits); first | exact gives_same | exact gives_skip | with_reducible exact gives_call (B1.out wx hm.x) | with_reducible exact gives_call (B2.out wx hm.x)))
             · (simp only [Act.put, List.setIfInBounds_toArray, List.set_cons_succ, List.set_cons_zero]; rfl)))
      intro vs_ wz hJ_ hl_ hall_
      simp only [List.zip_cons_cons, List.zip_nil_right]
      repeat rw [pfin_is]
      rw [pfin_cons]; intro y25 hy25
      repeat rw [pfin_is]
      rw [pfin_cons]; intro x26 hx26
      repeat rw [pfin_is]
      rw [pfin_nil]
      simp only [Act.put, List.setIfInBounds_toArray, List.set_cons_succ, List.set_cons_zero]
      obtain ⟨a_, rfl, hX_⟩ := hJ_
      obtain ⟨p_, rfl⟩ := some1 hall_
      obtain rfl := pmk0 hx26
      clear hm
      obtain ⟨M1, hm, hs1⟩ := hX_
      obtain ⟨p1, c1, rfl⟩ := hs1.form
      clear hy25 hx26 hl_ hall_
      have lM := lS (.slice pa k ca) (.slice none 0 0) (.slice none 0 0)
      go_wp2_with (first | ((((with_reducible show wpList _ _ _ (Oper.mk _ (Op.store _ _ _) _ _ _ _ :: _) _ _); first | ((with_reducible apply wq_st1 hm); (exact rfl); infer_instance; (exact rfl); (exact rfl); (exact rfl); (exact rfl); (focus ((repeat (first | exact .hd | assumption | apply Swap.tl | apply Swap.app)); done)); (focus (first | omega | (simp; omega) | (refine Nat.lt_of_lt_of_le (BitVec.isLt _) ?_; first | omega | (simp; done) | (simp; omega) | fail) | fail))) | fail)); clear hm; intro w hm) | fail)
      go_step3
      exact ⟨rfl, ⟨_, _, _, _, _, _, _, _, _, _, _, _, _, _, _, _, _, _, _, _, _, _, _, _, _, _, _, _, _, _, _, _, _, _, _, _, _, _, _, _, _, _, _, _, _, _, _, _, _, rfl, ⟨by have := HM.out; show m - 32 + 32 * (k + 1) = L; omega, by have := HC.out; omega, HR3.out, (by rw [ET.out, List.map_append]; exact hs1), HZ.out, hm⟩⟩, by simp [slen]; omega⟩
    · have d1 : decide ((32 : Int) ≤ (m : Int)) = false := decide_eq_false (by omega)
      have d2 : decide ((m : Int) ≥ 32) = false := decide_eq_false (by omega)
      have d3 : ¬ (32 : Int) ≤ (m : Int) := by omega
      have lR : ((l.take L).drop (32 * k)).length = m := by rw [List.length_drop, lm]; omega
      have hk : L / 32 = k := by omega
      obtain ⟨s1, s2⟩ := HS.out
      rw [hk] at s1 s2
      have HKN := Lib.hid (show (l.length - 32) / 32 = k by rw [← HL.out]; exact hk)
      rw [← s1] at hso
      have su : (splitT l).u = ((l.take L).drop (32 * k)).take 16 := by rw [← s2]; rfl
      have sv : (splitT l).v = ((l.take L).drop (32 * k)).drop 16 := by rw [← s2]; rfl
      have ru := hrd.take 16
      rw [← su] at ru
      have hc1 : ¬ cq = m := by omega
      have hc2 : ¬ cq = 16 := by omega
      obtain ⟨pa, ca, rfl⟩ := hso.form
      by_cases h16 : m ≤ 16
      · have lu : (splitT l).u.length = m := by rw [su, List.length_take, lR]; omega
        have lv : (splitT l).v.length = 0 := by rw [sv, List.length_drop, lR]; omega
        have rv : RdB w0 (some (q.add m)) (splitT l).v := by rw [List.length_eq_zero_iff.1 lv]; exact RdB.nil _ _
        have n1 : (m : Int) ≤ 16 := by omega
        have n2 : decide ((m : Int) ≤ 16) = true := decide_eq_true n1
        go_wp2_with (first | ((with_reducible show wpList _ _ _ (Oper.mk _ (Op.store 22 _ _) _ _ _ _ :: _) _ _); (with_reducible apply wq_stf (v := .slice (some q) m cq) hm); (exact rfl); infer_instance; (exact rfl); (exact rfl); (exact rfl); (exact rfl); (focus ((repeat (first | exact .hd | apply Swap.tl | apply Swap.app | apply Swap.app)); done)); (exact msg_set1 _); (rw [lS]; omega); clear hm; intro w hm) | ((with_reducible show wpList _ _ _ (Oper.mk _ (Op.store 22 _ _) _ _ _ _ :: _) _ _); (with_reducible apply wq_stf (v := .slice (some (q.add m)) 0 (cq - m)) hm); (exact rfl); infer_instance; (exact rfl); (exact rfl); (exact rfl); (exact rfl); (focus ((repeat (first | exact .hd | apply Swap.tl | apply Swap.app | apply Swap.app)); done)); (exact msg_set2 _); (rw [lS]; omega); clear hm; intro w hm) | ((with_reducible show wpList _ _ _ (Oper.mk _ (Op.store 107 _ _) _ _ _ _ :: _) _ _); (with_reducible apply wq_stW hm); (exact rfl); infer_instance; (exact rfl); (exact rfl); (focus ((repeat (first | exact .hd | apply Swap.tl | apply Swap.app | apply Swap.app)); done)); (exact lS (.slice pa k ca) (.slice (some q) m cq) (.slice (some (q.add m)) 0 (cq - m))); (exact hZ); (exact msg_one rfl rfl rfl); clear hm; intro w hm) | ((with_reducible show wpList _ _ _ (Oper.mk _ (Op.load 107 _) _ _ _ _ :: _) _ _); (with_reducible apply wq_ldW hm); (exact rfl); infer_instance; (exact rfl); (focus ((repeat (first | exact .hd | apply Has.tl | apply Has.app | apply Has.app)); done)); (exact lS (.slice pa k ca) (.slice (some q) m cq) (.slice (some (q.add m)) 0 (cq - m)))) | ((with_reducible show wpList _ _ _ (Oper.mk _ (Op.load _ _) _ _ _ _ :: _) _ _); first | ((with_reducible apply wq_ld1 hm); (exact rfl); infer_instance; (exact rfl); (focus ((repeat (first | exact .hd | assumption | apply Has.tl | apply Has.app)); done)); (exact rfl)) | fail) | fail)
        simp only [Exit.jump]
        refine ret_own hm rfl rfl (by infer_instance) (by repeat (first | exact Has.hd | assumption | apply Has.tl | apply Has.app)) (lS (.slice pa k ca) (.slice (some q) m cq) (.slice (some (q.add m)) 0 (cq - m))) rfl ?_
        exact ⟨.slice pa k ca, some q, (some (q.add m)), cq, (cq - m), M, by rw [lu, lv, EX.out, EY.out], ru, rv, HKN.out ▸ hso, (hm.perm List.perm_append_comm).dropN⟩
      · have lu : (splitT l).u.length = 16 := by rw [su, List.length_take, lR]; omega
        have lv : (splitT l).v.length = m - 16 := by rw [sv, List.length_drop, lR]
        have rv := hrd.drop 16
        rw [← sv] at rv
        have n1 : ¬ (m : Int) ≤ 16 := by omega
        have n2 : decide ((m : Int) ≤ 16) = false := decide_eq_false n1
        have n3 : (16 : Int) ≤ (m : Int) := by omega
        go_wp2_with (first | ((with_reducible show wpList _ _ _ (Oper.mk _ (Op.store 22 _ _) _ _ _ _ :: _) _ _); (with_reducible apply wq_stf (v := .slice (some q) 16 cq) hm); (exact rfl); infer_instance; (exact rfl); (exact rfl); (exact rfl); (exact rfl); (focus ((repeat (first | exact .hd | apply Swap.tl | apply Swap.app | apply Swap.app)); done)); (exact msg_set1 _); (rw [lS]; omega); clear hm; intro w hm) | ((with_reducible show wpList _ _ _ (Oper.mk _ (Op.store 22 _ _) _ _ _ _ :: _) _ _); (with_reducible apply wq_stf (v := .slice (some (q.add 16)) (m - 16) (cq - 16)) hm); (exact rfl); infer_instance; (exact rfl); (exact rfl); (exact rfl); (exact rfl); (focus ((repeat (first | exact .hd | apply Swap.tl | apply Swap.app | apply Swap.app)); done)); (exact msg_set2 _); (rw [lS]; omega); clear hm; intro w hm) | ((with_reducible show wpList _ _ _ (Oper.mk _ (Op.store 107 _ _) _ _ _ _ :: _) _ _); (with_reducible apply wq_stW hm); (exact rfl); infer_instance; (exact rfl); (exact rfl); (focus ((repeat (first | exact .hd | apply Swap.tl | apply Swap.app | apply Swap.app)); done)); (exact lS (.slice pa k ca) (.slice (some q) 16 cq) (.slice (some (q.add 16)) (m - 16) (cq - 16))); (exact hZ); (exact msg_one rfl rfl rfl); clear hm; intro w hm) | ((with_reducible show wpList _ _ _ (Oper.mk _ (Op.load 107 _) _ _ _ _ :: _) _ _); (with_reducible apply wq_ldW hm); (exact rfl); infer_instance; (exact rfl); (focus ((repeat (first | exact .hd | apply Has.tl | apply Has.app | apply Has.app)); done)); (exact lS (.slice pa k ca) (.slice (some q) 16 cq) (.slice (some (q.add 16)) (m - 16) (cq - 16)))) | ((with_reducible show wpList _ _ _ (Oper.mk _ (Op.load _ _) _ _ _ _ :: _) _ _); first | ((with_reducible apply wq_ld1 hm); (exact rfl); infer_instance; (exact rfl); (focus ((repeat (first | exact .hd | assumption | apply Has.tl | apply Has.app)); done)); (exact rfl)) | fail) | fail)
        simp only [Exit.jump]
        refine ret_own hm rfl rfl (by infer_instance) (by repeat (first | exact Has.hd | assumption | apply Has.tl | apply Has.app)) (lS (.slice pa k ca) (.slice (some q) 16 cq) (.slice (some (q.add 16)) (m - 16) (cq - 16))) rfl ?_
        exact ⟨.slice pa k ca, some q, (some (q.add 16)), cq, (cq - 16), M, by rw [lu, lv, EX.out, EY.out], ru, rv, HKN.out ▸ hso, (hm.perm List.perm_append_comm).dropN⟩
  · intro hp
    go_wp2_with (first | (go_at_call 100; (with_reducible refine (L1.out _ hm.x).mono ?_); rintro e_ w ⟨rfl, hx_⟩; replace hm := hm.ext hx_; clear hx_) | (go_at_call 100; (with_reducible refine (L2.out _ hm.x).mono ?_); rintro e_ w ⟨rfl, hx_⟩; replace hm := hm.ext hx_; clear hx_) | ((with_reducible apply wq_build2 BM.out); exact rfl; exact rfl; exact rfl) | ((with_reducible show wpList _ _ _ (Oper.mk _ (Op.store 107 _ _) _ _ _ _ :: _) _ _); (with_reducible apply wq_stW hm); (exact rfl); infer_instance; (exact rfl); (exact rfl); (focus ((repeat (first | exact .hd | apply Swap.tl | apply Swap.app | apply Swap.app)); done)); (exact lS _ _ _); (focus (first | assumption | (simp; done))); (exact msg_one rfl rfl rfl); clear hm; intro w hm) | ((first | ((with_reducible show wpList _ _ _ (Oper.mk _ (Op.alloc _) _ _ _ _ :: _) _ _); first | ((with_reducible apply wq_new hm); (exact rfl); infer_instance) | fail)); clear hm; (first | (have hx_ := g1; clear hx_; (first | (have hx_ := g2; clear hx_; (first | (have hx_ := g3; clear hx_; (first | (have hx_ := g4; clear hx_; (first | (have hx_ := g5; clear hx_; (first | (have hx_ := g6; clear hx_; (first | (have hx_ := g7; clear hx_; (first | (have hx_ := g8; clear hx_; (first | (have hx_ := g9; clear hx_; intro g10) | intro g9)) | intro g8)) | intro g7)) | intro g6)) | intro g5)) | intro g4)) | intro g3)) | intro g2)) | intro g1); intro w hm) | fail)
    go_step3
    rename_i hK
    exact hK _ _ (hp _ _ ⟨_, _, _, _, _, _, _, _, _, _, _, _, _, _, _, _, _, _, _, _, _, _, _, _, _, _, _, _, _, _, _, _, _, _, _, _, _, _, _, _, _, _, _, _, _, _, _, _, _, rfl, ⟨(show L + 32 * 0 = L by omega), by omega, (show RdB w0 (some a) ((l.take L).drop (32 * 0)) from HR0.out), SlO.nil _ _, by simp, hm⟩⟩)

end Go.Proofs.YtmgopjeaehmbfaaDoor
