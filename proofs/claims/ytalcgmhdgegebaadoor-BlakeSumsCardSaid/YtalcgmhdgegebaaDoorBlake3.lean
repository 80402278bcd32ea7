/-
  Layer 6: bytes so far, and a block compressed with them. Conditions: the program's first numbers and rows read as its text lays them.
-/
import Derived.Test.YtalcgmhdgegebaaDoorBlakeq
namespace Go.Proofs.YtalcgmhdgegebaaDoor
open Go Go.RowKit
set_option maxRecDepth 100000
set_option linter.unusedVariables false
set_option linter.unusedSimpArgs false

/-- The cells of bytes so far. -/
def hashC (h : List (BitVec 64)) (n : Nat) (v : Value) (sz : Int) : List Value := h.map v64 ++ ([v64 (BitVec.ofNat 64 n), v64 0#64] ++ ([v] ++ [.int .i64 sz]))
section
variable {h h' : List (BitVec 64)} {n n' : Nat} {v v' : Value} {sz : Int} (hh : h.length = 8)
include hh
theorem hashC_length : (hashC h n v sz).length = 12 := by simp [hashC, hh]
theorem hashC_h : ((hashC h n v sz).drop 0).take 8 = h.map v64 := by
  unfold hashC; rw [List.drop_zero, List.take_append_of_le_length (by simp [hh]), List.take_of_length_le (by simp [hh])]
theorem hashC_cnt : ((hashC h n v sz).drop 8).take 2 = [v64 (BitVec.ofNat 64 n), v64 0#64] := by
  unfold hashC; rw [List.drop_append, List.drop_eq_nil_of_le (by simp [hh]), List.nil_append, List.length_map, hh]; rfl
theorem hashC_rest : (hashC h n v sz)[10]? = some v := by
  unfold hashC; rw [List.getElem?_append_right (by simp [hh])]; simp [hh]
theorem hashC_size : (hashC h n v sz)[11]? = some (.int .i64 sz) := by
  unfold hashC; rw [List.getElem?_append_right (by simp [hh])]; simp [hh]
theorem hashC_set_h (k : h'.length = 8) : (hashC h n v sz).take 0 ++ h'.map v64 ++ (hashC h n v sz).drop (0 + 8) = hashC h' n v sz := by
  unfold hashC; rw [List.take_zero, List.nil_append, Nat.zero_add, List.drop_append, List.drop_eq_nil_of_le (by simp [hh]), List.nil_append, List.length_map, hh, Nat.sub_self, List.drop_zero]
theorem hashC_set_cnt : (hashC h n v sz).take 8 ++ [v64 (BitVec.ofNat 64 n'), v64 0#64] ++ (hashC h n v sz).drop (8 + 2) = hashC h n' v sz := by
  unfold hashC; rw [List.take_append_of_le_length (by simp [hh]), List.take_of_length_le (by simp [hh]), List.drop_append, List.drop_eq_nil_of_le (by simp [hh]), List.nil_append, List.length_map, hh, List.append_assoc]; rfl
theorem hashC_set_rest : (hashC h n v sz).set 10 v' = hashC h n v' sz := by
  unfold hashC; rw [List.set_append_right _ _ (by simp [hh]), List.length_map, hh]; rfl
end
section
variable {P : Program} {ops : Array Oper} {Q : Exit → Act → World → Prop} {rest : List Oper} {dst : Option Tmp} {ty : TypeId} {pos : String} {aft : Array Edge} {gd : Option (Nat × Bool)} {a : Act} {w0 w : World} {L L' : List Blk} {T t : TypeId} {x y : Operand} {g k n : Nat} {cs cs' vs : List Value}
/-- A part of a block stored anew. -/
theorem wq_stA (hm : Own w0 w L) (hgd : Region.wanted (Oper.mk dst (.store T x y) ty pos aft gd) (yielded ops a.tmps) = true) (hT : Many P T n) (hx : a.eval x = .pointer (some ⟨g, k, none⟩)) (hy : a.eval y = .agg vs.toArray) (hs : Swap L ⟨g, t, cs⟩ ⟨g, t, cs'⟩ L') (he : cs.take k ++ vs ++ cs.drop (k + n) = cs') (hl : vs.length = n) (hk : k + n ≤ cs.length) (h1 : ∀ v ∈ vs, v.oneCell' = true)
    (hr : ∀ w', Own w0 w' L' → wpList P ops Q rest (a.put dst undef) w') : wpList P ops Q ((Oper.mk dst (.store T x y) ty pos aft gd) :: rest) a w := wpl_stA hm hgd rfl hx hy hs hl hk h1 he hr
end
/-- A block of 128 bytes, and noughts behind. -/
def blkN (b : List Byte) : List Byte := over (zer 128) 0 (b.take 128)
theorem blkN_length (b : List Byte) : (blkN b).length = 128 := by rw [blkN, over_length _ _ _ (by simp; omega)]; exact zer_length
theorem gb_blkN (b : List Byte) (hb : b.length ≤ 128) (j : Int) : gb (blkN b) j = gb b j := by
  unfold gb blkN over
  split
  · rename_i h0
    generalize j.toNat = i
    rw [List.take_zero, List.nil_append, List.take_of_length_le hb, Nat.zero_add, List.getD_eq_getElem?_getD, List.getD_eq_getElem?_getD]
    by_cases hi : i < b.length
    · rw [List.getElem?_append_left hi]
    · rw [List.getElem?_append_right (by omega), List.getElem?_drop, List.getElem?_eq_none (l := b) (by omega)]
      have : (zer (n := 8) 128)[b.length + (i - b.length)]?.getD 0 = 0 := by
        have := nth_tab_ge (n := 8) (m := 128) (f := fun _ => 0) (i := b.length + (i - b.length))
        by_cases hx : b.length + (i - b.length) < 128
        · have := nth_tab (n := 8) (m := 128) (f := fun _ => 0) hx
          simpa [nth, zer] using this
        · have := this (by omega)
          simpa [nth, zer] using this
      simpa using this
  · rfl
theorem num_blkN (b : List Byte) (hb : b.length ≤ 128) : ∀ (r : Nat) (at_ : Int), num (blkN b) at_ r = num b at_ r := by
  intro r at_
  induction r with
  | zero => rfl
  | succ r ih => simp only [num, gb_blkN b hb, ih]
theorem mL_blkN (b : List Byte) (hb : b.length ≤ 128) : mL (blkN b) = mL b := tab_ext fun i _ => num_blkN b hb 8 _
theorem build_wideN (x : BitVec 64) (w : World) : (Instr.build 51 #[(0, v64 x)]).run Tryd.prog w = .ok (.agg #[v64 x, v64 0#64]) w := by kernel_rfl
theorem plus_N (n m : Nat) (h : n + m < 18446744073709551616) (w : World) : Gives Tryd.prog 77 #[.agg #[v64 (BitVec.ofNat 64 n), v64 0#64], .agg #[v64 (BitVec.ofNat 64 m), v64 0#64]] w (.agg #[v64 (BitVec.ofNat 64 (n + m)), v64 0#64]) := by
  have := oplus_any (BitVec.ofNat 64 n) 0#64 (BitVec.ofNat 64 m) 0#64 w
  rwa [carry_none n m h, ofNat_plus] at this

theorem natv64 {a : Nat} (h : a < 18446744073709551616) : Value.int .u64 (a : Int) = v64 (BitVec.ofNat 64 a) := by
  have : (BitVec.ofNat 64 a).toNat = a := by simp; omega
  rw [v64, this]
theorem plus_M (n m : Nat) (h : n + m < 18446744073709551616) (w : World) : Gives Tryd.prog 77 #[.agg #[v64 (BitVec.ofNat 64 n), v64 0#64], .agg #[.int .u64 (m : Int), .int .u64 0]] w (.agg #[v64 (BitVec.ofNat 64 (n + m)), v64 0#64]) := by
  have := plus_N n m h w
  rw [natv64 (a := m) (by omega)]; exact this
set_option maxHeartbeats 2000000 in
theorem hblock_any (g : Nat) (h : List (BitVec 64)) (n : Nat) (v : Value) (sz : Int) (b : List Byte) (p : Option Addr) (c many : Nat) (last : Bool) (hh : h.length = 8) (hb : b.length ≤ 128) (hn : n + many < 9223372036854775808) (w0 w : World) (R : List Blk) (hr : ∀ w' M, Own w0 w' (M ++ R) → RdB w' p b) (hc : CoefB w0) (hv : v.oneCell' = true) (hm : Own w0 w (⟨g, 101, hashC h n v sz⟩ :: R)) :
    Calls Tryd.prog 62 #[.pointer (some ⟨g, 0, none⟩), .slice p b.length c, .int .i64 many, .bool last] w fun e w' => e = .returned (.tuple #[]) ∧ Own w0 w' (⟨g, 101, hashC (compL h (mL b) (BitVec.ofNat 64 (n + many)) 0#64 last) (n + many) v sz⟩ :: R) := by
  have HC := Lib.hid hc
  have HR := Lib.hid hr
  have lB := blkN_length b
  have CC := Lib.hid fun wx hx => compress_any h (blkN b) (BitVec.ofNat 64 (n + many)) 0#64 last hh lB wx hx
  rw [mL_blkN b hb] at CC
  have CP := Lib.hid fun wx => plus_M n many (by omega) wx
  have lC : (compL h (mL b) (BitVec.ofNat 64 (n + many)) 0#64 last).length = 8 := compL_length _ _ _ _ _
  generalize compL h (mL b) (BitVec.ofNat 64 (n + many)) 0#64 last = C at *
  have EB := Lib.hid (show over (zer 128) 0 (b.take 128) = blkN b from rfl)
  generalize blkN b = B at *
  have HH := Lib.hid hh
  have LC := Lib.hid lC
  have lc1 := hashC_length (n := n) (v := v) (sz := sz) hh
  have lc2 := hashC_length (n := n + many) (v := v) (sz := sz) hh
  clear hc hr hh lC
  go_enter Tryd.func62, Tryd.ntmps62
  go_wp2_with (first | ((with_reducible show wpList _ _ _ (Oper.mk _ (Op.call _) _ _ _ _ :: _) _ _); refine wpl_cp8 hm rfl rfl rfl rfl Tryd.underlying53 (by kernel_rfl) (by repeat (first | exact Swap.hd | assumption | apply Swap.tl)) (HR.out _ [_, _] hm) rfl (EB.out) (by simp) ?_; clear hm; intro w hm) | ((with_reducible apply wq_ldN hm); (exact rfl); infer_instance; (exact rfl); (focus ((repeat (first | exact .hd | assumption | apply Has.tl)); done)); (exact hashC_cnt HH.out); (exact rfl)) | ((with_reducible apply wq_build1 (build_wideN (BitVec.ofNat 64 many))); exact rfl; exact rfl) | (go_at_call 77; (with_reducible refine (CP.out _).mono ?_); rintro e_ w ⟨rfl, hx_⟩; replace hm := hm.ext hx_; clear hx_) | ((with_reducible apply wq_stA hm); (exact rfl); infer_instance; (exact rfl); (exact rfl); (focus ((repeat (first | exact .hd | assumption | apply Swap.tl)); done)); (exact hashC_set_cnt HH.out); (exact rfl); (exact (by rw [lc1]; decide)); (exact (by simp [one64])); clear hm; intro w hm) | ((with_reducible show wpList _ _ _ (Oper.mk _ (Op.load _ _) _ _ _ _ :: _) _ _); first | ((with_reducible apply wq_ldv hm); (exact rfl); infer_instance; (exact rfl); (focus ((repeat (first | exact .hd | assumption | apply Has.tl)); done)); (focus (first | omega | (simp; omega) | (refine Nat.lt_of_lt_of_le (BitVec.isLt _) ?_; first | omega | (simp; done) | (simp; omega) | fail) | fail))) | ((with_reducible apply wq_ldW hm); (exact rfl); infer_instance; (exact rfl); (focus ((repeat (first | exact .hd | assumption | apply Has.tl)); done)); (focus (first | rfl | omega | (simp; done) | (simp; omega) | fail))) | ((with_reducible apply wq_ld1 hm); (exact rfl); infer_instance; (exact rfl); (focus ((repeat (first | exact .hd | assumption | apply Has.tl)); done)); (exact rfl)) | fail) | ((((with_reducible show wpList _ _ _ (Oper.mk _ (Op.store _ _ _) _ _ _ _ :: _) _ _); first | ((with_reducible apply wq_stv hm); (exact rfl); infer_instance; (exact rfl); (focus ((repeat (first | exact .hd | assumption | apply Swap.tl)); done)); infer_instance; (exact rfl); (focus (first | omega | (simp; omega) | (refine Nat.lt_of_lt_of_le (BitVec.isLt _) ?_; first | omega | (simp; done) | (simp; omega) | fail) | fail))) | ((with_reducible apply wq_st8i hm); (exact rfl); infer_instance; (exact rfl); (exact rfl); (focus ((repeat (first | exact .hd | assumption | apply Swap.tl)); done)); (focus omega); (focus (first | omega | (simp; omega) | (refine Nat.lt_of_lt_of_le (BitVec.isLt _) ?_; first | omega | (simp; done) | (simp; omega) | fail) | fail))) | ((with_reducible apply wq_st64i hm); (exact rfl); infer_instance; (exact rfl); (exact rfl); (focus ((repeat (first | exact .hd | assumption | apply Swap.tl)); done)); (focus omega); (focus (first | omega | (simp; omega) | (refine Nat.lt_of_lt_of_le (BitVec.isLt _) ?_; first | omega | (simp; done) | (simp; omega) | fail) | fail))) | ((with_reducible apply wq_stW hm); (exact rfl); infer_instance; (exact rfl); (exact rfl); (focus ((repeat (first | exact .hd | assumption | apply Swap.tl)); done)); (focus (first | rfl | omega | (simp; done) | (simp; omega) | fail)); (focus (first | rfl | omega | (simp; done) | (simp; omega) | fail)); (focus (first | exact one_map _ | (simp [one8, one32, one64]; done) | fail))) | ((with_reducible apply wq_s1v (f := v32) hm); (exact rfl); infer_instance; (exact rfl); (exact rfl); infer_instance; (focus ((repeat (first | exact .hd | assumption | apply Swap.tl)); done)); (focus (first | omega | (simp; omega) | (refine Nat.lt_of_lt_of_le (BitVec.isLt _) ?_; first | omega | (simp; done) | (simp; omega) | fail) | fail))) | ((with_reducible apply wq_s1v (f := v8) hm); (exact rfl); infer_instance; (exact rfl); (exact rfl); infer_instance; (focus ((repeat (first | exact .hd | assumption | apply Swap.tl)); done)); (focus (first | omega | (simp; omega) | (refine Nat.lt_of_lt_of_le (BitVec.isLt _) ?_; first | omega | (simp; done) | (simp; omega) | fail) | fail))) | ((with_reducible apply wq_s1v (f := v64) hm); (exact rfl); infer_instance; (exact rfl); (exact rfl); infer_instance; (focus ((repeat (first | exact .hd | assumption | apply Swap.tl)); done)); (focus (first | omega | (simp; omega) | (refine Nat.lt_of_lt_of_le (BitVec.isLt _) ?_; first | omega | (simp; done) | (simp; omega) | fail) | fail))) | ((with_reducible apply wq_st1 hm); (exact rfl); infer_instance; (exact rfl); (exact rfl); (exact rfl); (exact rfl); (focus ((repeat (first | exact .hd | assumption | apply Swap.tl)); done)); (focus (first | omega | (simp; omega) | (refine Nat.lt_of_lt_of_le (BitVec.isLt _) ?_; first | omega | (simp; done) | (simp; omega) | fail) | fail))) | fail)); clear hm; intro w hm) | ((first | ((with_reducible show wpList _ _ _ (Oper.mk _ (Op.alloc _) _ _ _ _ :: _) _ _); first | ((with_reducible apply wq_new hm); (exact rfl); infer_instance) | fail) | ((with_reducible show wpList _ _ _ (Oper.mk _ (Op.box _ _) _ _ _ _ :: _) _ _); first | ((with_reducible apply wq_boxN hm); (exact rfl); (exact rfl)) | ((with_reducible apply wq_box1 hm); (exact rfl); (exact rfl); (exact rfl)) | fail)); clear hm; (first | (have hx_ := g1; clear hx_; (first | (have hx_ := g2; clear hx_; (first | (have hx_ := g3; clear hx_; (first | (have hx_ := g4; clear hx_; (first | (have hx_ := g5; clear hx_; (first | (have hx_ := g6; clear hx_; (first | (have hx_ := g7; clear hx_; (first | (have hx_ := g8; clear hx_; (first | (have hx_ := g9; clear hx_; intro g10) | intro g9)) | intro g8)) | intro g7)) | intro g6)) | intro g5)) | intro g4)) | intro g3)) | intro g2)) | intro g1); intro w hm) | fail)
  have HX := Lib.hid hm.x
  refine region_at 14 (fun w' => Ext _ w') 37 (by kernel_rfl) (by kernel_rfl) rfl (fun _ _ h k => h.trans k) (drew_ext _) ?_
  simp only [List.take_succ_cons, List.take_zero, List.drop_succ_cons, List.drop_zero, List.map_cons, List.map_nil]
  repeat (first
      | (apply walk_is rfl rfl rfl; (intro wx hwx; (with_reducible apply gq_ldN (hm.ext hwx)); infer_instance; (exact rfl); (focus ((repeat (first | exact .hd | assumption | apply Has.tl)); done)); (exact hashC_h HH.out); (exact (List.length_map ..).trans HH.out)); (simp only [Act.put, List.setIfInBounds_toArray, List.set_cons_succ, List.set_cons_zero]; rfl))
      | (apply walk_is rfl rfl rfl; (intro wx hwx; (with_reducible apply gq_ldN (hm.ext hwx)); infer_instance; (exact rfl); (focus ((repeat (first | exact .hd | assumption | apply Has.tl)); done)); (exact hashC_cnt HH.out); (exact rfl)); (simp only [Act.put, List.setIfInBounds_toArray, List.set_cons_succ, List.set_cons_zero]; rfl))
      | (apply walk_is rfl rfl rfl
         · (intro wx hwx; first | ((with_reducible show gives _ _ _ (Sem.run _ (execOp _ (Oper.mk _ (Op.load _ _) _ _ _ _)) _)); first | ((with_reducible apply gq_ldv (hm.ext hwx)); infer_instance; (exact rfl); (focus ((repeat (first | exact .hd | assumption | apply Has.tl)); done)); (focus (first | omega | (simp; omega) | (refine Nat.lt_of_lt_of_le (BitVec.isLt _) ?_; first | omega | (simp; done) | (simp; omega) | fail) | fail))) | ((with_reducible apply gq_ldW (hm.ext hwx)); infer_instance; (exact rfl); (focus ((repeat (first | exact .hd | assumption | apply Has.tl)); done)); (focus (first | rfl | omega | (simp; done) | (simp; omega) | fail))) | ((with_reducible apply gq_ld1 (hm.ext hwx)); infer_instance; (exact rfl); (focus ((repeat (first | exact .hd | assumption | apply Has.tl)); done)); (exact rfl)) | fail) | (go_simp; (try go_bits); first | exact gives_same | exact gives_skip | with_reducible exact gives_call (CC.out wx (HC.out.ext (HX.out.trans hwx)))))
         · (simp only [Act.put, List.setIfInBounds_toArray, List.set_cons_succ, List.set_cons_zero]; rfl))
      | (apply walk_not rfl rfl rfl
         · (simp only [Act.put, List.setIfInBounds_toArray, List.set_cons_succ, List.set_cons_zero]; rfl)))
  intro wz hwz
  simp only [List.zip_cons_cons, List.zip_nil_right]
  repeat (first | rw [fin_is] | (rw [fin_cons]; intro _ _))
  rw [fin_nil]
  try (replace hm := hm.ext hwz)
  simp only [Act.put, List.setIfInBounds_toArray, List.set_cons_succ, List.set_cons_zero]
  go_wp2_with (first | ((with_reducible apply wq_stA hm); (exact rfl); infer_instance; (exact rfl); (exact rfl); (focus ((repeat (first | exact .hd | assumption | apply Swap.tl)); done)); (exact hashC_set_h HH.out LC.out); (exact (List.length_map ..).trans LC.out); (exact (by rw [lc2]; decide)); (exact (one_map _)); clear hm; intro w hm) | ((with_reducible show wpList _ _ _ (Oper.mk _ (Op.load _ _) _ _ _ _ :: _) _ _); first | ((with_reducible apply wq_ldv hm); (exact rfl); infer_instance; (exact rfl); (focus ((repeat (first | exact .hd | assumption | apply Has.tl)); done)); (focus (first | omega | (simp; omega) | (refine Nat.lt_of_lt_of_le (BitVec.isLt _) ?_; first | omega | (simp; done) | (simp; omega) | fail) | fail))) | ((with_reducible apply wq_ldW hm); (exact rfl); infer_instance; (exact rfl); (focus ((repeat (first | exact .hd | assumption | apply Has.tl)); done)); (focus (first | rfl | omega | (simp; done) | (simp; omega) | fail))) | ((with_reducible apply wq_ld1 hm); (exact rfl); infer_instance; (exact rfl); (focus ((repeat (first | exact .hd | assumption | apply Has.tl)); done)); (exact rfl)) | fail) | ((((with_reducible show wpList _ _ _ (Oper.mk _ (Op.store _ _ _) _ _ _ _ :: _) _ _); first | ((with_reducible apply wq_stv hm); (exact rfl); infer_instance; (exact rfl); (focus ((repeat (first | exact .hd | assumption | apply Swap.tl)); done)); infer_instance; (exact rfl); (focus (first | omega | (simp; omega) | (refine Nat.lt_of_lt_of_le (BitVec.isLt _) ?_; first | omega | (simp; done) | (simp; omega) | fail) | fail))) | ((with_reducible apply wq_st8i hm); (exact rfl); infer_instance; (exact rfl); (exact rfl); (focus ((repeat (first | exact .hd | assumption | apply Swap.tl)); done)); (focus omega); (focus (first | omega | (simp; omega) | (refine Nat.lt_of_lt_of_le (BitVec.isLt _) ?_; first | omega | (simp; done) | (simp; omega) | fail) | fail))) | ((with_reducible apply wq_st64i hm); (exact rfl); infer_instance; (exact rfl); (exact rfl); (focus ((repeat (first | exact .hd | assumption | apply Swap.tl)); done)); (focus omega); (focus (first | omega | (simp; omega) | (refine Nat.lt_of_lt_of_le (BitVec.isLt _) ?_; first | omega | (simp; done) | (simp; omega) | fail) | fail))) | ((with_reducible apply wq_stW hm); (exact rfl); infer_instance; (exact rfl); (exact rfl); (focus ((repeat (first | exact .hd | assumption | apply Swap.tl)); done)); (focus (first | rfl | omega | (simp; done) | (simp; omega) | fail)); (focus (first | rfl | omega | (simp; done) | (simp; omega) | fail)); (focus (first | exact one_map _ | (simp [one8, one32, one64]; done) | fail))) | ((with_reducible apply wq_s1v (f := v32) hm); (exact rfl); infer_instance; (exact rfl); (exact rfl); infer_instance; (focus ((repeat (first | exact .hd | assumption | apply Swap.tl)); done)); (focus (first | omega | (simp; omega) | (refine Nat.lt_of_lt_of_le (BitVec.isLt _) ?_; first | omega | (simp; done) | (simp; omega) | fail) | fail))) | ((with_reducible apply wq_s1v (f := v8) hm); (exact rfl); infer_instance; (exact rfl); (exact rfl); infer_instance; (focus ((repeat (first | exact .hd | assumption | apply Swap.tl)); done)); (focus (first | omega | (simp; omega) | (refine Nat.lt_of_lt_of_le (BitVec.isLt _) ?_; first | omega | (simp; done) | (simp; omega) | fail) | fail))) | ((with_reducible apply wq_s1v (f := v64) hm); (exact rfl); infer_instance; (exact rfl); (exact rfl); infer_instance; (focus ((repeat (first | exact .hd | assumption | apply Swap.tl)); done)); (focus (first | omega | (simp; omega) | (refine Nat.lt_of_lt_of_le (BitVec.isLt _) ?_; first | omega | (simp; done) | (simp; omega) | fail) | fail))) | ((with_reducible apply wq_st1 hm); (exact rfl); infer_instance; (exact rfl); (exact rfl); (exact rfl); (exact rfl); (focus ((repeat (first | exact .hd | assumption | apply Swap.tl)); done)); (focus (first | omega | (simp; omega) | (refine Nat.lt_of_lt_of_le (BitVec.isLt _) ?_; first | omega | (simp; done) | (simp; omega) | fail) | fail))) | fail)); clear hm; intro w hm) | ((first | ((with_reducible show wpList _ _ _ (Oper.mk _ (Op.alloc _) _ _ _ _ :: _) _ _); first | ((with_reducible apply wq_new hm); (exact rfl); infer_instance) | fail) | ((with_reducible show wpList _ _ _ (Oper.mk _ (Op.box _ _) _ _ _ _ :: _) _ _); first | ((with_reducible apply wq_boxN hm); (exact rfl); (exact rfl)) | ((with_reducible apply wq_box1 hm); (exact rfl); (exact rfl); (exact rfl)) | fail)); clear hm; (first | (have hx_ := g1; clear hx_; (first | (have hx_ := g2; clear hx_; (first | (have hx_ := g3; clear hx_; (first | (have hx_ := g4; clear hx_; (first | (have hx_ := g5; clear hx_; (first | (have hx_ := g6; clear hx_; (first | (have hx_ := g7; clear hx_; (first | (have hx_ := g8; clear hx_; (first | (have hx_ := g9; clear hx_; intro g10) | intro g9)) | intro g8)) | intro g7)) | intro g6)) | intro g5)) | intro g4)) | intro g3)) | intro g2)) | intro g1); intro w hm) | fail)
  go_end0
  exact ⟨rfl, hm.drop⟩

end Go.Proofs.YtalcgmhdgegebaaDoor
