/-
  Layer 16: the document's hash of a row. Conditions: those written in each theorem.
  Layer 16: the document's hash of a row, of E from -1 on. Conditions: those written in each theorem.
  Layer 19, the document's: a short message, enciphered and deciphered. Conditions: those written in each theorem.
  Layer 19, the document's: a short message, enciphered. Conditions: those written in the theorem.
-/
import Derived.Test.YtaijfigohlkccaaGreatDoorZTinyTurns0
import Derived.Test.YtaijfigohlkccaaGreatDoorZTinyTurns25
import Derived.Test.YtaijfigohlkccaaGreatDoorZTinyTurns26
import Derived.Test.YtaijfigohlkccaaGreatDoorZTinyTurns8
namespace Go.Proofs.YtaijfigohlkccaaGreatDoor
open Go Go.RowKit
set_option maxRecDepth 100000
set_option linter.unusedVariables false
set_option linter.unusedSimpArgs false

theorem gq_cell {P : Program} {a : Act} {w : World} {dst : Option Tmp} {ty : TypeId} {pos : String} {aft : Array Edge} {gd : Option (Nat × Bool)} {T : TypeId} {x : Operand} {p : Addr} {v : Value} (hc : w.cell? p = some v) (hT : One1 P T) (hx : a.eval x = .pointer (some p)) : gives P w (Is v) ((execOp a.eval (Oper.mk dst (.load T x) ty pos aft gd)).run P w) := by
  obtain ⟨d, hu, hd⟩ := Option.map_eq_some_iff.1 hT.row
  have hagg : (isAgg T).run P w = .ok false w := by
    unfold isAgg
    rw [Sem.run_bind, run_underlying hu w]
    cases d <;> simp_all
  have hr : (Instr.loadAt T (.pointer (some p))).run P w = .ok v w := by simp [Instr.loadAt, Instr.sureAddr, loadVar, Sem.run_bind, hagg, hc]
  unfold execOp
  simp only [hx, Sem.run_bind, hr, Result.andThen_ok, Sem.run_pure]
  exact gives_same
end Go.Proofs.YtaijfigohlkccaaGreatDoor
namespace Go.Proofs.YtaijfigohlkccaaGreatDoor
open Go Go.RowKit
set_option maxRecDepth 100000
set_option linter.unusedVariables false
set_option linter.unusedSimpArgs false

set_option maxHeartbeats 8000000 in
theorem rhash_from (R : List Byte) (hR : R.length = 560) (F : Int → Int → List Byte → List Byte) (hF : ∀ j m x, (F j m x).length = 16) (ls : List (List Byte)) (q : Option Addr) (d : Nat) (w0 : World) (hl : RdR w0 q ls) (hld : ls.length ≤ d) (hlm : ls.length ≤ 70368744177000) (hls : ∀ i, (ls.getD i []).length ≤ 70368744177000)
    (CE : ∀ wx, Ext w0 wx → ∀ (j m : Int) (x : List Byte), x.length = 16 → -1 ≤ j → j ≤ 9223372036854775807 → 0 ≤ m → m ≤ 9223372036854775807 → Gives Tryz.prog 44 #[A8 R, .int .i64 j, .int .i64 m, A8 x] wx (A8 (F j m x))) :
    Gives Tryz.prog 41 #[A8 R, .slice q ls.length d] w0 (A8 (hashG F ls)) := by
  unfold Gives
  have hm := Own.start w0
  have HE := Lib.hid CE
  have HF := Lib.hid hF
  have HL := Lib.hid hl
  have HS := Lib.hid hls
  have lG := hashG_length F ls
  have lH := Lib.hid (hashF_length F ls)
  have eG : Hid (hashF F ls ls.length = hashG F ls) := Lib.hid rfl
  generalize hN : ls.length = N at *
  have HN := Lib.hid hN
  clear CE hF hl hls hN
  go_enter Tryz.func41, Tryz.ntmps41
  go_wp2_with (first | ((with_reducible show wpList _ _ _ (Oper.mk _ (Op.load _ _) _ _ _ _ :: _) _ _); first | ((with_reducible apply wq_ldv hm); (exact rfl); infer_instance; (exact rfl); (focus ((repeat (first | exact .hd | assumption | apply Has.tl)); done)); (focus (first | omega | (simp; omega) | (refine Nat.lt_of_lt_of_le (BitVec.isLt _) ?_; first | omega | (simp; done) | (simp; omega) | fail) | fail))) | ((with_reducible apply wq_ldW hm); (exact rfl); infer_instance; (exact rfl); (focus ((repeat (first | exact .hd | assumption | apply Has.tl)); done)); (focus (first | rfl | omega | (simp; done) | (simp; omega) | fail))) | ((with_reducible apply wq_ld1 hm); (exact rfl); infer_instance; (exact rfl); (focus ((repeat (first | exact .hd | assumption | apply Has.tl)); done)); (exact rfl)) | fail) | ((((with_reducible show wpList _ _ _ (Oper.mk _ (Op.store _ _ _) _ _ _ _ :: _) _ _); first | ((with_reducible apply wq_stv hm); (exact rfl); infer_instance; (exact rfl); (focus ((repeat (first | exact .hd | assumption | apply Swap.tl)); done)); infer_instance; (exact rfl); (focus (first | omega | (simp; omega) | (refine Nat.lt_of_lt_of_le (BitVec.isLt _) ?_; first | omega | (simp; done) | (simp; omega) | fail) | fail))) | ((with_reducible apply wq_st8i hm); (exact rfl); infer_instance; (exact rfl); (exact rfl); (focus ((repeat (first | exact .hd | assumption | apply Swap.tl)); done)); (focus omega); (focus (first | omega | (simp; omega) | (refine Nat.lt_of_lt_of_le (BitVec.isLt _) ?_; first | omega | (simp; done) | (simp; omega) | fail) | fail))) | ((with_reducible apply wq_st64i hm); (exact rfl); infer_instance; (exact rfl); (exact rfl); (focus ((repeat (first | exact .hd | assumption | apply Swap.tl)); done)); (focus omega); (focus (first | omega | (simp; omega) | (refine Nat.lt_of_lt_of_le (BitVec.isLt _) ?_; first | omega | (simp; done) | (simp; omega) | fail) | fail))) | ((with_reducible apply wq_stW hm); (exact rfl); infer_instance; (exact rfl); (exact rfl); (focus ((repeat (first | exact .hd | assumption | apply Swap.tl)); done)); (focus (first | rfl | omega | (simp; done) | (simp; omega) | fail)); (focus (first | rfl | omega | (simp; done) | (simp; omega) | fail)); (focus (first | exact one_map _ | (simp [one8, one32, one64]; done) | fail))) | ((with_reducible apply wq_s1v (f := v32) hm); (exact rfl); infer_instance; (exact rfl); (exact rfl); infer_instance; (focus ((repeat (first | exact .hd | assumption | apply Swap.tl)); done)); (focus (first | omega | (simp; omega) | (refine Nat.lt_of_lt_of_le (BitVec.isLt _) ?_; first | omega | (simp; done) | (simp; omega) | fail) | fail))) | ((with_reducible apply wq_s1v (f := v8) hm); (exact rfl); infer_instance; (exact rfl); (exact rfl); infer_instance; (focus ((repeat (first | exact .hd | assumption | apply Swap.tl)); done)); (focus (first | omega | (simp; omega) | (refine Nat.lt_of_lt_of_le (BitVec.isLt _) ?_; first | omega | (simp; done) | (simp; omega) | fail) | fail))) | ((with_reducible apply wq_s1v (f := v64) hm); (exact rfl); infer_instance; (exact rfl); (exact rfl); infer_instance; (focus ((repeat (first | exact .hd | assumption | apply Swap.tl)); done)); (focus (first | omega | (simp; omega) | (refine Nat.lt_of_lt_of_le (BitVec.isLt _) ?_; first | omega | (simp; done) | (simp; omega) | fail) | fail))) | ((with_reducible apply wq_st1 hm); (exact rfl); infer_instance; (exact rfl); (exact rfl); (exact rfl); (exact rfl); (focus ((repeat (first | exact .hd | assumption | apply Swap.tl)); done)); (focus (first | omega | (simp; omega) | (refine Nat.lt_of_lt_of_le (BitVec.isLt _) ?_; first | omega | (simp; done) | (simp; omega) | fail) | fail))) | fail)); clear hm; intro w hm) | ((first | ((with_reducible show wpList _ _ _ (Oper.mk _ (Op.alloc _) _ _ _ _ :: _) _ _); first | ((with_reducible apply wq_new hm); (exact rfl); infer_instance) | fail) | ((with_reducible show wpList _ _ _ (Oper.mk _ (Op.box _ _) _ _ _ _ :: _) _ _); first | ((with_reducible apply wq_boxN hm); (exact rfl); (exact rfl)) | ((with_reducible apply wq_box1 hm); (exact rfl); (exact rfl); (exact rfl)) | fail)); clear hm; (first | (have hx_ := g1; clear hx_; (first | (have hx_ := g2; clear hx_; (first | (have hx_ := g3; clear hx_; intro gx_) | intro g3)) | intro g2)) | intro g1); intro w hm) | fail)
  go_loopw [6] (fun i wr => ∃ k : Nat, k ≤ N ∧ i = .int .i64 (k : Int) ∧ Own w0 wr [⟨g3, 36, (hashF F ls k).map v8⟩, ⟨g2, 36, (zer 16).map v8⟩, ⟨g1, 39, R.map v8⟩]) (fun i _ => N - (intOf i).toNat)
  case atStart => exact ⟨0, by omega, rfl, hm⟩
  case round =>
    obtain ⟨k, hk, rfl, hm⟩ := hrel
    have lk := lH.out k
    by_cases hlt : k < N
    · have d1 : decide ((k : Int) < (N : Int)) = true := decide_eq_true (by omega)
      have d2 : (k : Int) < (N : Int) := by omega
      have d3 : (k : Int) + 3 ≤ 9223372036854775807 := by omega
      obtain ⟨a, rfl⟩ := Option.isSome_iff_exists.1 (HL.out.1 (by rw [HN.out]; omega))
      obtain ⟨p, cp, hcell0, hrd, hcp, _⟩ := HL.out.2 k (by rw [HN.out]; omega)
      have HC := Lib.hid fun (wx : World) (h : Ext w0 wx) => show wx.cell? (a.add k) = some (.slice p (ls.getD k []).length cp) from h.cell hcell0
      have hlb := HS.out k
      have C1 := Lib.hid fun wx hwx => rpart_any R (F ((k : Int) + 3)) (HF.out _) hR ((k : Int) + 3) (ls.getD k []) p cp wx (hrd.ext hwx) hcp hlb (fun wy hy m x h1 h2 h3 => HE.out wy (hwx.trans hy) _ m x h1 (by omega) d3 h2 h3)
      have lP := partG_length (F ((k : Int) + 3)) (ls.getD k [])
      have c2 := fun wx => sixteen_any (hashF F ls k) (partG (F ((k : Int) + 3)) (ls.getD k [])) lk lP wx
      rw [show bothL (hashF F ls k) (partG (F ((k : Int) + 3)) (ls.getD k [])) = hashF F ls (k + 1) from rfl] at c2
      have C2 := Lib.hid c2
      have lk2 := lH.out (k + 1)
      clear c2 hcell0 hrd hcp hlb
      generalize ls.getD k [] = b at *
      generalize partG (F ((k : Int) + 3)) b = Pt at *
      generalize hP2 : hashF F ls (k + 1) = P2 at *
      generalize hashF F ls k = P1 at *
      have HP2 := Lib.hid hP2
      clear hP2
      go_wp2_with (first | ((with_reducible show wpList _ _ _ (Oper.mk _ (Op.load _ _) _ _ _ _ :: _) _ _); first | ((with_reducible apply wq_ldv hm); (exact rfl); infer_instance; (exact rfl); (focus ((repeat (first | exact .hd | assumption | apply Has.tl)); done)); (focus (first | omega | (simp; omega) | (refine Nat.lt_of_lt_of_le (BitVec.isLt _) ?_; first | omega | (simp; done) | (simp; omega) | fail) | fail))) | ((with_reducible apply wq_ldW hm); (exact rfl); infer_instance; (exact rfl); (focus ((repeat (first | exact .hd | assumption | apply Has.tl)); done)); (focus (first | rfl | omega | (simp; done) | (simp; omega) | fail))) | ((with_reducible apply wq_ld1 hm); (exact rfl); infer_instance; (exact rfl); (focus ((repeat (first | exact .hd | assumption | apply Has.tl)); done)); (exact rfl)) | fail) | ((((with_reducible show wpList _ _ _ (Oper.mk _ (Op.store _ _ _) _ _ _ _ :: _) _ _); first | ((with_reducible apply wq_stv hm); (exact rfl); infer_instance; (exact rfl); (focus ((repeat (first | exact .hd | assumption | apply Swap.tl)); done)); infer_instance; (exact rfl); (focus (first | omega | (simp; omega) | (refine Nat.lt_of_lt_of_le (BitVec.isLt _) ?_; first | omega | (simp; done) | (simp; omega) | fail) | fail))) | ((with_reducible apply wq_st8i hm); (exact rfl); infer_instance; (exact rfl); (exact rfl); (focus ((repeat (first | exact .hd | assumption | apply Swap.tl)); done)); (focus omega); (focus (first | omega | (simp; omega) | (refine Nat.lt_of_lt_of_le (BitVec.isLt _) ?_; first | omega | (simp; done) | (simp; omega) | fail) | fail))) | ((with_reducible apply wq_st64i hm); (exact rfl); infer_instance; (exact rfl); (exact rfl); (focus ((repeat (first | exact .hd | assumption | apply Swap.tl)); done)); (focus omega); (focus (first | omega | (simp; omega) | (refine Nat.lt_of_lt_of_le (BitVec.isLt _) ?_; first | omega | (simp; done) | (simp; omega) | fail) | fail))) | ((with_reducible apply wq_stW hm); (exact rfl); infer_instance; (exact rfl); (exact rfl); (focus ((repeat (first | exact .hd | assumption | apply Swap.tl)); done)); (focus (first | rfl | omega | (simp; done) | (simp; omega) | fail)); (focus (first | rfl | omega | (simp; done) | (simp; omega) | fail)); (focus (first | exact one_map _ | (simp [one8, one32, one64]; done) | fail))) | ((with_reducible apply wq_s1v (f := v32) hm); (exact rfl); infer_instance; (exact rfl); (exact rfl); infer_instance; (focus ((repeat (first | exact .hd | assumption | apply Swap.tl)); done)); (focus (first | omega | (simp; omega) | (refine Nat.lt_of_lt_of_le (BitVec.isLt _) ?_; first | omega | (simp; done) | (simp; omega) | fail) | fail))) | ((with_reducible apply wq_s1v (f := v8) hm); (exact rfl); infer_instance; (exact rfl); (exact rfl); infer_instance; (focus ((repeat (first | exact .hd | assumption | apply Swap.tl)); done)); (focus (first | omega | (simp; omega) | (refine Nat.lt_of_lt_of_le (BitVec.isLt _) ?_; first | omega | (simp; done) | (simp; omega) | fail) | fail))) | ((with_reducible apply wq_s1v (f := v64) hm); (exact rfl); infer_instance; (exact rfl); (exact rfl); infer_instance; (focus ((repeat (first | exact .hd | assumption | apply Swap.tl)); done)); (focus (first | omega | (simp; omega) | (refine Nat.lt_of_lt_of_le (BitVec.isLt _) ?_; first | omega | (simp; done) | (simp; omega) | fail) | fail))) | ((with_reducible apply wq_st1 hm); (exact rfl); infer_instance; (exact rfl); (exact rfl); (exact rfl); (exact rfl); (focus ((repeat (first | exact .hd | assumption | apply Swap.tl)); done)); (focus (first | omega | (simp; omega) | (refine Nat.lt_of_lt_of_le (BitVec.isLt _) ?_; first | omega | (simp; done) | (simp; omega) | fail) | fail))) | fail)); clear hm; intro w hm) | ((first | ((with_reducible show wpList _ _ _ (Oper.mk _ (Op.alloc _) _ _ _ _ :: _) _ _); first | ((with_reducible apply wq_new hm); (exact rfl); infer_instance) | fail) | ((with_reducible show wpList _ _ _ (Oper.mk _ (Op.box _ _) _ _ _ _ :: _) _ _); first | ((with_reducible apply wq_boxN hm); (exact rfl); (exact rfl)) | ((with_reducible apply wq_box1 hm); (exact rfl); (exact rfl); (exact rfl)) | fail)); clear hm; (first | (have hx_ := g1; clear hx_; (first | (have hx_ := g2; clear hx_; (first | (have hx_ := g3; clear hx_; intro gx_) | intro g3)) | intro g2)) | intro g1); intro w hm) | fail)
      have hx0 := hm.x
      refine region_at 10 (fun w' => Ext _ w') 24 (by kernel_rfl) (by kernel_rfl) rfl (fun _ _ h k => h.trans k) (drew_ext _) ?_
      simp only [tSC, List.take_zero, dSC, List.drop_zero, List.map_cons, List.map_nil]
      repeat (first
          | (apply walk_is rfl rfl rfl
             · (intro wx hwx; (with_reducible apply gq_cell ((fun wx hwx => HC.out wx (hx0.trans hwx)) wx hwx)); infer_instance; (exact rfl))
             · (simp only [Act.put, sIB, sCS, sCZ]; rfl))
          | (apply walk_is rfl rfl rfl
             · (intro wx hwx; first | ((with_reducible show gives _ _ _ (Sem.run _ (execOp _ (Oper.mk _ (Op.load _ _) _ _ _ _)) _)); first | ((with_reducible apply gq_ldv (hm.ext hwx)); infer_instance; (exact rfl); (focus ((repeat (first | exact .hd | assumption | apply Has.tl)); done)); (focus (first | omega | (simp; omega) | (refine Nat.lt_of_lt_of_le (BitVec.isLt _) ?_; first | omega | (simp; done) | (simp; omega) | fail) | fail))) | ((with_reducible apply gq_ldW (hm.ext hwx)); infer_instance; (exact rfl); (focus ((repeat (first | exact .hd | assumption | apply Has.tl)); done)); (focus (first | rfl | omega | (simp; done) | (simp; omega) | fail))) | ((with_reducible apply gq_ld1 (hm.ext hwx)); infer_instance; (exact rfl); (focus ((repeat (first | exact .hd | assumption | apply Has.tl)); done)); (exact rfl)) | fail) | (go_simp; (try go_bits); first | exact gives_same | exact gives_skip | with_reducible exact gives_call (C1.out wx (hx0.trans hwx)) | with_reducible exact gives_call (C2.out wx)))
             · (simp only [Act.put, sIB, sCS, sCZ]; rfl))
          | (apply walk_not rfl rfl rfl
             · (simp only [Act.put, sIB, sCS, sCZ]; rfl)))
      intro wz hwz
      simp only [zCC, zNR]
      repeat (first | rw [fin_is] | (rw [fin_cons]; intro _ _))
      rw [fin_nil]
      try (replace hm := hm.ext hwz)
      simp only [Act.put, sIB, sCS, sCZ]
      clear hx0
      go_wp2_with (first | ((with_reducible show wpList _ _ _ (Oper.mk _ (Op.load _ _) _ _ _ _ :: _) _ _); first | ((with_reducible apply wq_ldv hm); (exact rfl); infer_instance; (exact rfl); (focus ((repeat (first | exact .hd | assumption | apply Has.tl)); done)); (focus (first | omega | (simp; omega) | (refine Nat.lt_of_lt_of_le (BitVec.isLt _) ?_; first | omega | (simp; done) | (simp; omega) | fail) | fail))) | ((with_reducible apply wq_ldW hm); (exact rfl); infer_instance; (exact rfl); (focus ((repeat (first | exact .hd | assumption | apply Has.tl)); done)); (focus (first | rfl | omega | (simp; done) | (simp; omega) | fail))) | ((with_reducible apply wq_ld1 hm); (exact rfl); infer_instance; (exact rfl); (focus ((repeat (first | exact .hd | assumption | apply Has.tl)); done)); (exact rfl)) | fail) | ((((with_reducible show wpList _ _ _ (Oper.mk _ (Op.store _ _ _) _ _ _ _ :: _) _ _); first | ((with_reducible apply wq_stv hm); (exact rfl); infer_instance; (exact rfl); (focus ((repeat (first | exact .hd | assumption | apply Swap.tl)); done)); infer_instance; (exact rfl); (focus (first | omega | (simp; omega) | (refine Nat.lt_of_lt_of_le (BitVec.isLt _) ?_; first | omega | (simp; done) | (simp; omega) | fail) | fail))) | ((with_reducible apply wq_st8i hm); (exact rfl); infer_instance; (exact rfl); (exact rfl); (focus ((repeat (first | exact .hd | assumption | apply Swap.tl)); done)); (focus omega); (focus (first | omega | (simp; omega) | (refine Nat.lt_of_lt_of_le (BitVec.isLt _) ?_; first | omega | (simp; done) | (simp; omega) | fail) | fail))) | ((with_reducible apply wq_st64i hm); (exact rfl); infer_instance; (exact rfl); (exact rfl); (focus ((repeat (first | exact .hd | assumption | apply Swap.tl)); done)); (focus omega); (focus (first | omega | (simp; omega) | (refine Nat.lt_of_lt_of_le (BitVec.isLt _) ?_; first | omega | (simp; done) | (simp; omega) | fail) | fail))) | ((with_reducible apply wq_stW hm); (exact rfl); infer_instance; (exact rfl); (exact rfl); (focus ((repeat (first | exact .hd | assumption | apply Swap.tl)); done)); (focus (first | rfl | omega | (simp; done) | (simp; omega) | fail)); (focus (first | rfl | omega | (simp; done) | (simp; omega) | fail)); (focus (first | exact one_map _ | (simp [one8, one32, one64]; done) | fail))) | ((with_reducible apply wq_s1v (f := v32) hm); (exact rfl); infer_instance; (exact rfl); (exact rfl); infer_instance; (focus ((repeat (first | exact .hd | assumption | apply Swap.tl)); done)); (focus (first | omega | (simp; omega) | (refine Nat.lt_of_lt_of_le (BitVec.isLt _) ?_; first | omega | (simp; done) | (simp; omega) | fail) | fail))) | ((with_reducible apply wq_s1v (f := v8) hm); (exact rfl); infer_instance; (exact rfl); (exact rfl); infer_instance; (focus ((repeat (first | exact .hd | assumption | apply Swap.tl)); done)); (focus (first | omega | (simp; omega) | (refine Nat.lt_of_lt_of_le (BitVec.isLt _) ?_; first | omega | (simp; done) | (simp; omega) | fail) | fail))) | ((with_reducible apply wq_s1v (f := v64) hm); (exact rfl); infer_instance; (exact rfl); (exact rfl); infer_instance; (focus ((repeat (first | exact .hd | assumption | apply Swap.tl)); done)); (focus (first | omega | (simp; omega) | (refine Nat.lt_of_lt_of_le (BitVec.isLt _) ?_; first | omega | (simp; done) | (simp; omega) | fail) | fail))) | ((with_reducible apply wq_st1 hm); (exact rfl); infer_instance; (exact rfl); (exact rfl); (exact rfl); (exact rfl); (focus ((repeat (first | exact .hd | assumption | apply Swap.tl)); done)); (focus (first | omega | (simp; omega) | (refine Nat.lt_of_lt_of_le (BitVec.isLt _) ?_; first | omega | (simp; done) | (simp; omega) | fail) | fail))) | fail)); clear hm; intro w hm) | ((first | ((with_reducible show wpList _ _ _ (Oper.mk _ (Op.alloc _) _ _ _ _ :: _) _ _); first | ((with_reducible apply wq_new hm); (exact rfl); infer_instance) | fail) | ((with_reducible show wpList _ _ _ (Oper.mk _ (Op.box _ _) _ _ _ _ :: _) _ _); first | ((with_reducible apply wq_boxN hm); (exact rfl); (exact rfl)) | ((with_reducible apply wq_box1 hm); (exact rfl); (exact rfl); (exact rfl)) | fail)); clear hm; (first | (have hx_ := g1; clear hx_; (first | (have hx_ := g2; clear hx_; (first | (have hx_ := g3; clear hx_; intro gx_) | intro g3)) | intro g2)) | intro g1); intro w hm) | fail)
      go_roundw
      case rel => exact ⟨k + 1, by omega, by go_num, by rw [HP2.out]; exact hm⟩
      case measure => simp [intOf] <;> omega
    · obtain rfl : k = N := by omega
      have d1 : decide ((k : Int) < (k : Int)) = false := decide_eq_false (by omega)
      rw [eG.out] at hm lk
      go_wp2_with (first | ((with_reducible show wpList _ _ _ (Oper.mk _ (Op.load _ _) _ _ _ _ :: _) _ _); first | ((with_reducible apply wq_ldv hm); (exact rfl); infer_instance; (exact rfl); (focus ((repeat (first | exact .hd | assumption | apply Has.tl)); done)); (focus (first | omega | (simp; omega) | (refine Nat.lt_of_lt_of_le (BitVec.isLt _) ?_; first | omega | (simp; done) | (simp; omega) | fail) | fail))) | ((with_reducible apply wq_ldW hm); (exact rfl); infer_instance; (exact rfl); (focus ((repeat (first | exact .hd | assumption | apply Has.tl)); done)); (focus (first | rfl | omega | (simp; done) | (simp; omega) | fail))) | ((with_reducible apply wq_ld1 hm); (exact rfl); infer_instance; (exact rfl); (focus ((repeat (first | exact .hd | assumption | apply Has.tl)); done)); (exact rfl)) | fail) | ((((with_reducible show wpList _ _ _ (Oper.mk _ (Op.store _ _ _) _ _ _ _ :: _) _ _); first | ((with_reducible apply wq_stv hm); (exact rfl); infer_instance; (exact rfl); (focus ((repeat (first | exact .hd | assumption | apply Swap.tl)); done)); infer_instance; (exact rfl); (focus (first | omega | (simp; omega) | (refine Nat.lt_of_lt_of_le (BitVec.isLt _) ?_; first | omega | (simp; done) | (simp; omega) | fail) | fail))) | ((with_reducible apply wq_st8i hm); (exact rfl); infer_instance; (exact rfl); (exact rfl); (focus ((repeat (first | exact .hd | assumption | apply Swap.tl)); done)); (focus omega); (focus (first | omega | (simp; omega) | (refine Nat.lt_of_lt_of_le (BitVec.isLt _) ?_; first | omega | (simp; done) | (simp; omega) | fail) | fail))) | ((with_reducible apply wq_st64i hm); (exact rfl); infer_instance; (exact rfl); (exact rfl); (focus ((repeat (first | exact .hd | assumption | apply Swap.tl)); done)); (focus omega); (focus (first | omega | (simp; omega) | (refine Nat.lt_of_lt_of_le (BitVec.isLt _) ?_; first | omega | (simp; done) | (simp; omega) | fail) | fail))) | ((with_reducible apply wq_stW hm); (exact rfl); infer_instance; (exact rfl); (exact rfl); (focus ((repeat (first | exact .hd | assumption | apply Swap.tl)); done)); (focus (first | rfl | omega | (simp; done) | (simp; omega) | fail)); (focus (first | rfl | omega | (simp; done) | (simp; omega) | fail)); (focus (first | exact one_map _ | (simp [one8, one32, one64]; done) | fail))) | ((with_reducible apply wq_s1v (f := v32) hm); (exact rfl); infer_instance; (exact rfl); (exact rfl); infer_instance; (focus ((repeat (first | exact .hd | assumption | apply Swap.tl)); done)); (focus (first | omega | (simp; omega) | (refine Nat.lt_of_lt_of_le (BitVec.isLt _) ?_; first | omega | (simp; done) | (simp; omega) | fail) | fail))) | ((with_reducible apply wq_s1v (f := v8) hm); (exact rfl); infer_instance; (exact rfl); (exact rfl); infer_instance; (focus ((repeat (first | exact .hd | assumption | apply Swap.tl)); done)); (focus (first | omega | (simp; omega) | (refine Nat.lt_of_lt_of_le (BitVec.isLt _) ?_; first | omega | (simp; done) | (simp; omega) | fail) | fail))) | ((with_reducible apply wq_s1v (f := v64) hm); (exact rfl); infer_instance; (exact rfl); (exact rfl); infer_instance; (focus ((repeat (first | exact .hd | assumption | apply Swap.tl)); done)); (focus (first | omega | (simp; omega) | (refine Nat.lt_of_lt_of_le (BitVec.isLt _) ?_; first | omega | (simp; done) | (simp; omega) | fail) | fail))) | ((with_reducible apply wq_st1 hm); (exact rfl); infer_instance; (exact rfl); (exact rfl); (exact rfl); (exact rfl); (focus ((repeat (first | exact .hd | assumption | apply Swap.tl)); done)); (focus (first | omega | (simp; omega) | (refine Nat.lt_of_lt_of_le (BitVec.isLt _) ?_; first | omega | (simp; done) | (simp; omega) | fail) | fail))) | fail)); clear hm; intro w hm) | ((first | ((with_reducible show wpList _ _ _ (Oper.mk _ (Op.alloc _) _ _ _ _ :: _) _ _); first | ((with_reducible apply wq_new hm); (exact rfl); infer_instance) | fail) | ((with_reducible show wpList _ _ _ (Oper.mk _ (Op.box _ _) _ _ _ _ :: _) _ _); first | ((with_reducible apply wq_boxN hm); (exact rfl); (exact rfl)) | ((with_reducible apply wq_box1 hm); (exact rfl); (exact rfl); (exact rfl)) | fail)); clear hm; (first | (have hx_ := g1; clear hx_; (first | (have hx_ := g2; clear hx_; (first | (have hx_ := g3; clear hx_; intro gx_) | intro g3)) | intro g2)) | intro g1); intro w hm) | fail)
      refine ret_own hm rfl rfl (by infer_instance) (by repeat (first | exact Has.hd | assumption | apply Has.tl)) (by first | rfl | omega | (simp only [zeros_length, zer_length, tab_length, part_length, setN_length, List.length_map, List.length_cons, List.length_nil, List.length_append, List.length_take, List.length_drop, List.length_replicate, blk_length, putL_length] <;> omega) | fail) rfl ⟨rfl, hm.x⟩

end Go.Proofs.YtaijfigohlkccaaGreatDoor
namespace Go.Proofs.YtaijfigohlkccaaGreatDoor
open Go Go.RowKit
set_option maxRecDepth 100000
set_option linter.unusedVariables false
set_option linter.unusedSimpArgs false

/-- How many rounds, by a length below 16. -/
def rndC : List Value := [.int .i64 0, .int .i64 24, .int .i64 16, .int .i64 10, .int .i64 10, .int .i64 10, .int .i64 10, .int .i64 10, .int .i64 10, .int .i64 10, .int .i64 10, .int .i64 10, .int .i64 10, .int .i64 10, .int .i64 10, .int .i64 10]
theorem rndC_at (n : Nat) (h1 : 1 ≤ n) (h : n < 16) : rndC[n]? = some (.int .i64 (roundsN n : Int)) := by
  rcases (show n = 1 ∨ n = 2 ∨ n = 3 ∨ n = 4 ∨ n = 5 ∨ n = 6 ∨ n = 7 ∨ n = 8 ∨ n = 9 ∨ n = 10 ∨ n = 11 ∨ n = 12 ∨ n = 13 ∨ n = 14 ∨ n = 15 by omega) with h | h | h | h | h | h | h | h | h | h | h | h | h | h | h <;> subst h <;> rfl
theorem rounds19 (n : Nat) (h1 : 1 ≤ n) (h31 : n ≤ 31) (w0 : World) : Gives Tryz.prog 16 #[.int .i64 (n : Int)] w0 (.int .i64 (roundsN n : Int)) := by
  unfold Gives
  by_cases h16 : n < 16
  · have a1 : decide ((n : Int) < 16) = true := decide_eq_true (by omega)
    have a2 : (n : Int) < 16 := by omega
    have HT := Lib.hid (rndC_at n h1 h16)
    generalize roundsN n = R at *
    go_enter Tryz.func16, Tryz.ntmps16
    go_wp2
    go_ret
    refine ⟨?_, (Ext.refl w0).alloc _⟩
    obtain ⟨_, e⟩ := List.getElem?_eq_some_iff.1 HT.out
    rw [← e]
    rfl
  · have eR : roundsN n = 8 := by
      unfold roundsN
      rw [if_neg (by omega), if_neg (by omega), if_neg (by omega), if_neg h16]
    rw [eR]
    have a1 : decide ((n : Int) < 16) = false := decide_eq_false (by omega)
    have a2 : ¬ (n : Int) < 16 := by omega
    clear eR
    go_enter Tryz.func16, Tryz.ntmps16
    go_wp2
    go_ret
    exact ⟨rfl, (Ext.refl w0).alloc _⟩
theorem number19 (n : Nat) (w0 : World) : Gives Tryz.prog 51 #[.int .i64 (n : Int)] w0 (.int .i64 (numN n)) := by
  unfold Gives numN
  have hm := Own.start w0
  by_cases h16 : n < 16
  · rw [if_pos h16]
    have a1 : decide ((n : Int) < 16) = true := decide_eq_true (by omega)
    have a2 : (n : Int) < 16 := by omega
    go_enter Tryz.func51, Tryz.ntmps51
    go_wp2_with fail
    go_ret
    exact ⟨rfl, hm.x⟩
  · rw [if_neg h16]
    have a1 : decide ((n : Int) < 16) = false := decide_eq_false (by omega)
    have a2 : ¬ (n : Int) < 16 := by omega
    go_enter Tryz.func51, Tryz.ntmps51
    go_wp2_with fail
    go_ret
    exact ⟨rfl, hm.x⟩
theorem halves_take (m : List Byte) (n : Nat) : (halvesL m 0 (2 * n)).take n = halvesL m 0 n := by
  rw [← halves_add, List.take_append_of_le_length (Nat.le_of_eq (halvesL_length _ _ _).symm), List.take_of_length_le (Nat.le_of_eq (halvesL_length _ _ _))]
theorem halves_drop (m : List Byte) (n : Nat) : (halvesL m 0 (2 * n)).drop n = halvesL m n n := by
  rw [← halves_add, List.drop_append_of_le_length (Nat.le_of_eq (halvesL_length _ _ _).symm), List.drop_of_length_le (Nat.le_of_eq (halvesL_length _ _ _)), List.nil_append]
/-- An own slice made of none, with two appends, in a region that draws its order. -/
def Y3 (w0 : World) (R : List Blk) (e : TypeId) (sz n1 : Nat) (cs1 : List Value) (n2 : Nat) (cs2 : List Value) : Option Value → Option Value → Option Value → World → Prop
  | none, none, none, w => Own w0 w R
  | some v, none, none, w => SlAt w0 R e sz v 0 [] w
  | some _, some v, none, w => SlAt w0 R e sz v n1 cs1 w
  | some _, some _, some v, w => SlAt w0 R e sz v n2 cs2 w
  | _, _, _, _ => False
section
variable {w0 w w' : World} {R M : List Blk} {e : TypeId} {sz n1 n2 : Nat} {cs1 cs2 : List Value} {a b c : Option Value} {u v x : Value}
theorem Y3.ext (h : Y3 w0 R e sz n1 cs1 n2 cs2 a b c w) (hx : Ext w w') : Y3 w0 R e sz n1 cs1 n2 cs2 a b c w' := by
  cases a <;> cases b <;> cases c <;> first | exact Own.ext h hx | exact SlAt.ext h hx | exact h
theorem Y3.low (h : Y3 w0 R e sz n1 cs1 n2 cs2 a b c w) : Own w0 w R := by
  cases a <;> cases b <;> cases c <;> first | exact h | exact SlAt.low h | exact h.elim
theorem Y3.at0 (h : Y3 w0 R e sz n1 cs1 n2 cs2 none b c w) : b = none ∧ c = none ∧ Own w0 w R := by
  cases b <;> cases c <;> first | exact ⟨rfl, rfl, h⟩ | exact h.elim
theorem Y3.at1 (h : Y3 w0 R e sz n1 cs1 n2 cs2 (some v) none c w) : c = none ∧ SlAt w0 R e sz v 0 [] w := by
  cases c
  · exact ⟨rfl, h⟩
  · exact h.elim
theorem Y3.at2 (h : Y3 w0 R e sz n1 cs1 n2 cs2 a (some v) none w) : ∃ u, a = some u ∧ SlAt w0 R e sz v n1 cs1 w := by
  cases a
  · exact h.elim
  · exact ⟨_, rfl, h⟩
theorem Y3.at3 (h : Y3 w0 R e sz n1 cs1 n2 cs2 a b (some v) w) : ∃ u x, a = some u ∧ b = some x ∧ SlAt w0 R e sz v n2 cs2 w := by
  cases a <;> cases b <;> first | exact ⟨_, _, rfl, rfl, h⟩ | exact h.elim
def JY3 (w0 : World) (R : List Blk) (e : TypeId) (sz n1 : Nat) (cs1 : List Value) (n2 : Nat) (cs2 : List Value) : Marks :=
  Marks.of (fun s w => ∃ a b c, s = [a, b, c] ∧ Y3 w0 R e sz n1 cs1 n2 cs2 a b c w) fun _ _ _ ⟨a, b, c, e, h⟩ hx => ⟨a, b, c, e, h.ext hx⟩
theorem Y3.j0 (hm : Own w0 w (⟨n1, e, []⟩ :: R)) (hs : SlO [⟨n1, e, []⟩] e sz v 0 []) {k1 : Nat} {c1 : List Value} : (JY3 w0 R e sz k1 c1 n2 cs2).J (([none, none, none] : List (Option Value)).set 0 (some v)) w := ⟨some v, none, none, rfl, _, hm, hs⟩
theorem Y3.j1 (hm : Own w0 w (M ++ R)) (hs : SlO M e sz v n1 cs1) : (JY3 w0 R e sz n1 cs1 n2 cs2).J (([some u, none, none] : List (Option Value)).set 1 (some v)) w := ⟨some u, some v, none, rfl, M, hm, hs⟩
theorem Y3.j2 (hm : Own w0 w (M ++ R)) (hs : SlO M e sz v n2 cs2) : (JY3 w0 R e sz n1 cs1 n2 cs2).J (([some u, some x, none] : List (Option Value)).set 2 (some v)) w := ⟨some u, some x, some v, rfl, M, hm, hs⟩
end
/-- Bytes that a call brings behind all three marks. -/
def BytP (L : List Byte) : PSlot := fun v vs w => (∃ a b c, vs = [some a, some b, some c]) ∧ BytesS L v w
theorem BytP.stable {Sp : List (Option Value) → Nat → Value → World → World → Prop} (C : List Byte) : PStable Sp (BytP C) where
  ext := fun _ _ _ _ ⟨h1, h2⟩ hx => ⟨h1, BytesS.stable _ _ _ _ h2 hx⟩
  mark := fun v vs i x w w' ⟨⟨a, b, c, e⟩, _⟩ hn _ => by subst e; rcases i with _ | _ | _ | i <;> simp at hn
theorem rflipB (R : List Byte) (hR : R.length = 560) (F : Int → Int → List Byte → List Byte) (hF : ∀ j m x, (F j m x).length = 16) (h : List Byte) (hh : h.length = 16) (l : List Byte) (p : Option Addr) (c : Nat) (hl : l.length ≤ 1000) (w0 : World) (hr : RdB w0 p l)
    (CE : ∀ wx, Ext w0 wx → ∀ (j m : Int) (x : List Byte), x.length = 16 → -1 ≤ j → j ≤ 9223372036854775807 → 0 ≤ m → m ≤ 9223372036854775807 → Gives Tryz.prog 44 #[A8 R, .int .i64 j, .int .i64 m, A8 x] wx (A8 (F j m x))) :
    GivesR Tryz.prog 24 #[A8 R, A8 h, .slice p l.length c] w0 (BytesS (flipL F h l)) := by
  refine (rr_flip R hR F hF h hh l p c hl w0 hr CE).mono ?_
  rintro e w' ⟨v, M, rfl, hs, hm⟩
  obtain ⟨q, d, rfl⟩ := hs.form
  obtain ⟨h1, h2, h3⟩ := slo_bytes (R := []) hs (by simpa using hm)
  exact ⟨_, rfl, ⟨q, d, by rw [h2], by rw [← h2]; exact h3, h1⟩, hm.x⟩
theorem rstepB (R : List Byte) (hR : R.length = 560) (F : Int → Int → List Byte → List Byte) (hF : ∀ j m x, (F j m x).length = 16) (h : List Byte) (hh : h.length = 16) (i : Int) (hi : 0 ≤ i) (hi2 : i ≤ 9223372036854775807) (j : Nat) (hj : j ≤ 9223372036854775807) (l : List Byte) (p : Option Addr) (c : Nat) (hl : l.length ≤ 31) (w0 : World) (hr : RdB w0 p l)
    (CE : ∀ wx, Ext w0 wx → ∀ (j m : Int) (x : List Byte), x.length = 16 → -1 ≤ j → j ≤ 9223372036854775807 → 0 ≤ m → m ≤ 9223372036854775807 → Gives Tryz.prog 44 #[A8 R, .int .i64 j, .int .i64 m, A8 x] wx (A8 (F j m x))) :
    GivesR Tryz.prog 25 #[A8 R, A8 h, .int .i64 i, .int .i64 (j : Int), .slice p l.length c] w0 (BytesS (stepL F h i j l)) := by
  refine (rr_step R hR F hF h hh i hi hi2 j hj l p c hl w0 hr CE).mono ?_
  rintro e w' ⟨q, d, rfl, h1, h2, h3⟩
  exact ⟨_, rfl, ⟨q, d, by rw [stepL_length], by rw [stepL_length]; exact h1, h2⟩, h3⟩

end Go.Proofs.YtaijfigohlkccaaGreatDoor
namespace Go.Proofs.YtaijfigohlkccaaGreatDoor
open Go Go.RowKit
set_option maxRecDepth 100000
set_option linter.unusedVariables false
set_option linter.unusedSimpArgs false

set_option maxHeartbeats 16000000 in
theorem rencipher19 (R : List Byte) (hR : R.length = 560) (F : Int → Int → List Byte → List Byte) (hF : ∀ j m x, (F j m x).length = 16) (ls : List (List Byte)) (q : Option Addr) (d : Nat) (l : List Byte) (p : Option Addr) (c : Nat) (w0 : World) (hr : RdR w0 q ls) (hrd : ls.length ≤ d) (hrm : ls.length ≤ 70368744177000) (hrs : ∀ i, (ls.getD i []).length ≤ 70368744177000) (hl : RdB w0 p l) (h1 : 1 ≤ l.length) (h31 : l.length ≤ 31)
    (CE : ∀ wx, Ext w0 wx → ∀ (j m : Int) (x : List Byte), x.length = 16 → -1 ≤ j → j ≤ 9223372036854775807 → 0 ≤ m → m ≤ 9223372036854775807 → Gives Tryz.prog 44 #[A8 R, .int .i64 j, .int .i64 m, A8 x] wx (A8 (F j m x))) :
    GivesR Tryz.prog 19 #[A8 R, .slice q ls.length d, .slice p l.length c] w0 (BytesS (tinyL F (hashG F ls) false l)) := by
  unfold GivesR
  have hm := Own.start w0
  have H1 := Lib.hid fun (wx : World) (hx : Ext w0 wx) => rhash_from R hR F hF ls q d wx (hr.ext hx) hrd hrm hrs (fun wy hy => CE wy (hx.trans hy))
  obtain ⟨H, hH⟩ : ∃ H, H = hashG F ls := ⟨_, rfl⟩
  have lH : H.length = 16 := by rw [hH]; exact hashG_length F ls
  rw [← hH] at H1 ⊢
  obtain ⟨n, hn⟩ : ∃ n, n = l.length := ⟨_, rfl⟩
  obtain ⟨m, hm0⟩ : ∃ m, m = l := ⟨_, rfl⟩
  have lm : m.length = n := by rw [hm0, hn]
  obtain ⟨NN, hNN⟩ : ∃ N, N = numN n := ⟨_, rfl⟩
  have N9 : 0 ≤ NN ∧ NN ≤ 9 := by rw [hNN]; unfold numN; split <;> omega
  obtain ⟨RN, hRN⟩ : ∃ R, R = roundsN n := ⟨_, rfl⟩
  have R24 : RN ≤ 24 := by rw [hRN]; unfold roundsN; split <;> (try split) <;> (try split) <;> (try split) <;> omega
  obtain ⟨RT, hRT⟩ : ∃ RT, RT = rndsT (stepL F H NN) (ordN false RN) (pairT m) := ⟨_, rfl⟩
  have HTW := Lib.hid fun k => show TwoN n (RT k) from by rw [hRT, ← lm]; exact rndsT_two _ (stepL_length F H NN) (stepL_ok F H NN) _ _ _ (pairT_two m) k
  have HST := Lib.hid fun k => show RT (k + 1) = ((RT k).2, xorL (RT k).1 (stepL F H NN (ordN false RN k) (RT k).2)) from by rw [hRT]; rfl
  have H00 := Lib.hid (show RT 0 = (halvesL m 0 n, halvesL m n n) from by rw [hRT, ← lm]; rfl)
  obtain ⟨J, hJ⟩ : ∃ J, J = joinN ((RT RN).2 ++ (RT RN).1) := ⟨_, rfl⟩
  have lJ : J.length = n := by rw [hJ, joinN_length, List.length_append, (HTW.out RN).l, (HTW.out RN).r]; omega
  have eT : tinyL F H false l = flipL F H J := by
    rw [hJ, hRT, hNN, hRN, ← lm, hm0]; rfl
  rw [eT]
  have RC := Lib.hid fun w => (hRN ▸ rounds19 n (by omega) (by omega) w : Gives Tryz.prog 16 #[.int .i64 (n : Int)] w (.int .i64 (RN : Int)))
  have NC := Lib.hid fun w => (hNN ▸ number19 n w : Gives Tryz.prog 51 #[.int .i64 (n : Int)] w (.int .i64 NN))
  have SC := Lib.hid fun (w : World) (x : List Byte) (px : Option Addr) (cx j : Nat) (hx : Ext w0 w) (lx : x.length = n) (hj : j ≤ 9223372036854775807) (hr : RdB w px x) => show GivesR Tryz.prog 25 #[A8 R, A8 H, .int .i64 NN, .int .i64 (j : Int), .slice px n cx] w (BytesS (stepL F H NN j x)) from by
    have := rstepB R hR F hF H lH NN N9.1 (by omega) j hj x px cx (by omega) w hr (fun wx h => CE wx (hx.trans h))
    rwa [lx] at this
  have XC := Lib.hid fun (w : World) (a b : List Byte) (pa pb : Option Addr) (ca cb : Nat) (la : a.length = n) (lb : b.length = n) (ha : RdB w pa a) (hb : RdB w pb b) => show GivesR Tryz.prog 47 #[.slice pa n ca, .slice pb b.length cb] w (BytesS (xorL a b)) from by
    have := rxor_any a b pa pb ca cb w ha hb (by omega) (by omega)
    rwa [la] at this
  have FC := Lib.hid fun (w : World) (a : List Byte) (px : Option Addr) (cx : Nat) (hx : Ext w0 w) (la : a.length = n) (ha : RdB w px a) => show GivesR Tryz.prog 24 #[A8 R, A8 H, .slice px n cx] w (BytesS (flipL F H a)) from by
    have := rflipB R hR F hF H lH a px cx (by omega) w ha (fun wx h => CE wx (hx.trans h))
    rwa [la] at this
  have HVC := Lib.hid fun (w : World) (px : Option Addr) (cx nx : Nat) (ha : RdB w px m ∧ nx = n) => show Calls Tryz.prog 50 #[.slice px nx cx] w fun e w' => ∃ q d, e = .returned (.slice q (2 * n) d) ∧ 2 * n ≤ d ∧ RdB w' q (halvesL m 0 (2 * n)) ∧ Ext w w' from by
    rw [ha.2]
    have := rr_halves m px cx (by omega) w ha.1
    rw [lm] at this
    refine this.mono ?_
    rintro e w' ⟨v, M, rfl, hs, hmM⟩
    obtain ⟨q, d, rfl⟩ := hs.form
    obtain ⟨h1, _, h3⟩ := slo_bytes (R := []) hs (by simpa using hmM)
    exact ⟨q, d, rfl, h3, h1, hmM.x⟩
  have JC := Lib.hid fun (w : World) (p2 : Option Addr) (n2 c2 : Nat) (h : RdB w p2 ((RT RN).2 ++ (RT RN).1) ∧ n2 = ((RT RN).2 ++ (RT RN).1).length ∧ n2 ≤ c2) => show GivesR Tryz.prog 52 #[.slice p2 n2 c2] w (BytesS J) from by
    have := rr_join ((RT RN).2 ++ (RT RN).1) p2 c2 (by rw [List.length_append, (HTW.out RN).l, (HTW.out RN).r]; omega) w h.1
    rw [← hJ] at this
    rw [h.2.1]
    refine this.mono ?_
    rintro e w' ⟨v, M, rfl, hs, hmM⟩
    obtain ⟨q, d, rfl⟩ := hs.form
    obtain ⟨h1, h2, h3⟩ := slo_bytes (R := []) hs (by simpa using hmM)
    exact ⟨_, rfl, ⟨q, d, by rw [h2], by rw [← h2]; exact h3, h1⟩, hmM.x⟩
  have HTK := Lib.hid (halves_take m n)
  have HDR := Lib.hid (halves_drop m n)
  have lHA := halvesL_length m 0 (2 * n)
  obtain ⟨HA, hHA⟩ : ∃ HA, HA = halvesL m 0 (2 * n) := ⟨_, rfl⟩
  rw [← hHA] at HTK HDR HVC lHA
  obtain ⟨N2, hN2⟩ : ∃ N2, N2 = 2 * n := ⟨_, rfl⟩
  rw [← hN2] at HVC lHA
  have HL := Lib.hid hl
  have HM0 := Lib.hid hm0
  have HNL := Lib.hid hn
  have n1 : 1 ≤ n := by omega
  have n31 : n ≤ 31 := by omega
  have e1 : n ≤ N2 := by omega
  have e2 : N2 - n = n := by omega
  clear hH hRN hNN hRT hJ eT CE hF hr hm0 hl hHA
  rw [← hn]
  clear hn h1 h31 hN2
  go_enter Tryz.func19, Tryz.ntmps19
  go_wp2_with (first | (go_at_call 41; (with_reducible refine (H1.out _ hm.x).mono ?_); rintro e_ w ⟨rfl, hx_⟩; replace hm := hm.ext hx_; clear hx_) | ((with_reducible show wpList _ _ _ (Oper.mk _ (Op.load _ _) _ _ _ _ :: _) _ _); first | ((with_reducible apply wq_ldW hm); (exact rfl); infer_instance; (exact rfl); (focus ((repeat (first | exact .hd | assumption | apply Has.tl | apply Has.app)); done)); (focus (first | rfl | omega | (simp; done) | (simp; omega) | fail))) | fail) | ((((with_reducible show wpList _ _ _ (Oper.mk _ (Op.store _ _ _) _ _ _ _ :: _) _ _); first | ((with_reducible apply wq_stW hm); (exact rfl); infer_instance; (exact rfl); (exact rfl); (focus ((repeat (first | exact .hd | assumption | apply Swap.tl | apply Swap.app)); done)); (focus (first | rfl | omega | (simp; done) | (simp; omega) | fail)); (focus (first | rfl | omega | (simp; done) | (simp; omega) | fail)); (focus (first | exact one_map _ | (simp [one8, one32, one64]; done) | fail))) | fail)); clear hm; intro w hm) | ((first | ((with_reducible show wpList _ _ _ (Oper.mk _ (Op.alloc _) _ _ _ _ :: _) _ _); first | ((with_reducible apply wq_new hm); (exact rfl); infer_instance) | fail) | ((with_reducible show wpList _ _ _ (Oper.mk _ (Op.box _ _) _ _ _ _ :: _) _ _); first | ((with_reducible apply wq_boxN hm); (exact rfl); (exact rfl)) | fail)); clear hm; (first | (have hx_ := g1; clear hx_; (first | (have hx_ := g2; clear hx_; intro gx_) | intro g2)) | intro g1); intro w hm) | fail)
  refine (HVC.out _ p c n ⟨HM0.out ▸ HL.out.ext hm.x, rfl⟩).mono ?_
  rintro e w ⟨pa, ca, rfl, hca, hra, hx_⟩
  replace hm := hm.ext hx_
  have HCA := Lib.hid hca
  have HRA := Lib.hid hra
  have n5 : n ≤ ca := by omega
  clear hx_ hca hra
  go_wp2_with fail
  refine region_at 7 (fun w' => Ext _ w') 51 (by kernel_rfl) (by kernel_rfl) rfl (fun _ _ h k => h.trans k) (drew_ext _) ?_
  simp only [tSC, List.take_zero, dSC, List.drop_zero, List.map_cons, List.map_nil]
  repeat (first
      | (apply walk_is rfl rfl rfl; (intro wx hwx; (with_reducible apply gq_slH (h := n) Tryz.underlying22); infer_instance; exact rfl; exact rfl; exact n5); (simp only [Act.put, sIB, sCS, sCZ]; rfl))
      | (apply walk_is rfl rfl rfl; (intro wx hwx; (with_reducible apply gq_slL (l := n) (r := n) Tryz.underlying22); infer_instance; exact rfl; exact rfl; exact e1; exact e2); (simp only [Act.put, sIB, sCS, sCZ]; rfl))
      | (apply walk_is rfl rfl rfl
         · (intro wx hwx; first | ((with_reducible show gives _ _ _ (Sem.run _ (execOp _ (Oper.mk _ (Op.load _ _) _ _ _ _)) _)); first | ((with_reducible apply gq_ldv (hm.ext hwx)); infer_instance; (exact rfl); (focus ((repeat (first | exact .hd | assumption | apply Has.tl | apply Has.app)); done)); (focus (first | omega | (simp; omega) | (refine Nat.lt_of_lt_of_le (BitVec.isLt _) ?_; first | omega | (simp; done) | (simp; omega) | fail) | fail))) | ((with_reducible apply gq_ldW (hm.ext hwx)); infer_instance; (exact rfl); (focus ((repeat (first | exact .hd | assumption | apply Has.tl | apply Has.app)); done)); (focus (first | rfl | omega | (simp; done) | (simp; omega) | fail))) | ((with_reducible apply gq_ld1 (hm.ext hwx)); infer_instance; (exact rfl); (focus ((repeat (first | exact .hd | assumption | apply Has.tl | apply Has.app)); done)); (exact rfl)) | fail) | (go_simp; (try go_bits); first | exact gives_same | exact gives_skip))
         · (simp only [Act.put, sIB, sCS, sCZ]; rfl))
      | (apply walk_not rfl rfl rfl
         · (simp only [Act.put, sIB, sCS, sCZ]; rfl)))
  intro wz hwz
  simp only [zCC, zNR]
  repeat (first | rw [fin_is] | (rw [fin_cons]; intro _ _))
  rw [fin_nil]
  try (replace hm := hm.ext hwz)
  simp only [Act.put, sIB, sCS, sCZ]
  have ra := (HRA.out.ext hwz).take n
  have rb := (HRA.out.ext hwz).slL ca n (by have := HCA.out; omega)
  rw [HTK.out] at ra
  rw [HDR.out] at rb
  have hcb : n ≤ ca - n := by have := HCA.out; omega
  have e00 := H00.out
  have RA := Lib.hid (show RdB wz pa (RT 0).1 from by rw [e00]; exact ra)
  have RB := Lib.hid (show RdB wz (slP pa ca n) (RT 0).2 from by rw [e00]; exact rb)
  clear ra rb e00
  go_wp2_with fail
  go_loopw [10, 11, 12] (fun u v i wr => ∃ (k : Nat) (z : Int) (pl pr : Option Addr) (cl cr : Nat), k ≤ RN ∧ z = k ∧ i = .int .i64 z ∧ u = .slice pl n cl ∧ v = .slice pr n cr ∧ n ≤ cl ∧ n ≤ cr ∧ RdB wr pl (RT k).1 ∧ RdB wr pr (RT k).2 ∧ Own w0 wr [⟨g2, 36, H.map v8⟩, ⟨g1, 39, R.map v8⟩]) (fun _ _ i _ => RN - (intOf i).toNat)
  case atStart => exact ⟨0, 0, pa, slP pa ca n, ca, ca - n, by omega, rfl, rfl, rfl, rfl, n5, hcb, RA.out, RB.out, hm⟩
  case round =>
    obtain ⟨k, z, pl, pr, cl, cr, hk, hz, rfl, rfl, rfl, hcl, hcr, hrl, hrr, hm⟩ := hrel
    have HRL := Lib.hid hrl
    have HRR := Lib.hid hrr
    have HZ := Lib.hid hz
    clear hrl hrr RA RB hz
    go_wp2_with fail
    refine (RC.out _).mono ?_
    rintro e w ⟨rfl, hx_⟩
    replace HRL := Lib.hid (HRL.out.ext hx_)
    replace HRR := Lib.hid (HRR.out.ext hx_)
    replace hm := hm.ext hx_
    clear hx_
    by_cases hlt : k < RN
    · obtain ⟨jj, hjj⟩ : ∃ jj, jj = ordN false RN k := ⟨_, rfl⟩
      obtain rfl : z = (jj : Int) := by have := HZ.out; rw [hjj]; unfold ordN; simp; omega
      have y1 : decide ((jj : Int) ≥ 0) = true := decide_eq_true (by omega)
      have y2 : decide ((0 : Int) ≤ (jj : Int)) = true := decide_eq_true (by omega)
      have y3 : (0 : Int) ≤ (jj : Int) := by omega
      have y4 : decide ((jj : Int) < (RN : Int)) = true := decide_eq_true (by rw [hjj]; unfold ordN; split <;> omega)
      have y5 : (jj : Int) < (RN : Int) := of_decide_eq_true y4
      have TW := HTW.out k
      have ST := HST.out k
      have l1 := TW.l
      have l2 := TW.r
      rw [← hjj] at ST
      have l4 : (stepL F H NN jj (RT k).2).length = n := (stepL_length F H NN jj _).trans l2
      have l3 : (xorL (RT k).1 (stepL F H NN jj (RT k).2)).length = n := by rw [xorL_length, l1, l4, Nat.min_self]
      have XC1 := Lib.hid fun (w : World) (pa pb : Option Addr) (ca cb : Nat) ha hb => XC.out w (RT k).1 (stepL F H NN jj (RT k).2) pa pb ca cb l1 l4 ha hb
      have SC1 := Lib.hid fun (w : World) (px : Option Addr) (cx : Nat) hx hr => SC.out w (RT k).2 px cx jj hx l2 (by omega) hr
      have STH := Lib.hid ST
      clear ST l4 hjj TW
      generalize hX : xorL (RT k).1 (stepL F H NN jj (RT k).2) = X at *
      generalize stepL F H NN jj (RT k).2 = SV at *
      have HK1 := Lib.hid (show ∀ w p, RdB w p (RT k).2 → RdB w p (RT (k + 1)).1 from fun w p h => by rw [STH.out]; exact h)
      have HK2 := Lib.hid (show ∀ w p, RdB w p X → RdB w p (RT (k + 1)).2 from fun w p h => by rw [STH.out]; exact h)
      clear STH
      generalize (RT k).1 = LL at *
      generalize (RT k).2 = RR at *
      clear hX
      go_wp2_with fail
      have hx0 := hm.x
      have c1 := fun wx (hwx : Ext w wx) => SC1.out wx pr cr (hx0.trans hwx) (HRR.out.ext hwx)
      have c2 := fun wx (hwx : Ext w wx) p' c' hr' => XC1.out wx pl p' cl c' (HRL.out.ext hwx) hr'
      have c3 := fun wx (hwx : Ext w wx) => NC.out wx
      refine region_new 10 (fun w' => Ext _ w') 51 (by kernel_rfl) (by kernel_rfl) rfl (fun _ _ h k => h.trans k) (drew_ext _) ?_
      simp only [tSC, List.take_zero, dSC, List.drop_zero, List.map_cons, List.map_nil]
      repeat (first
          | (apply walk_some (BytesS SV) 40 (BytesS.stable _) rfl rfl rfl rfl
             · (intro wx hwx; go_simp; with_reducible exact gives_callR (c1 wx hwx)))
          | (apply walk_from_some (T := [(40, BytesS SV)]) (BytesS X) 41 (BytesS.stable _) rfl rfl rfl
             · (intro wx hwx; simp only [withS]; (rintro x_ ⟨p', c', rfl, hlc, hr'⟩); refine ⟨rfl, ?_⟩; go_simp; with_reducible exact gives_callR (c2 wx hwx p' c' hr')))
          | (apply walk_is rfl rfl rfl
             · (intro wx hwx; first | ((with_reducible show gives _ _ _ (Sem.run _ (execOp _ (Oper.mk _ (Op.load _ _) _ _ _ _)) _)); first | ((with_reducible apply gq_ldv (hm.ext hwx)); infer_instance; (exact rfl); (focus ((repeat (first | exact .hd | assumption | apply Has.tl | apply Has.app)); done)); (focus (first | omega | (simp; omega) | (refine Nat.lt_of_lt_of_le (BitVec.isLt _) ?_; first | omega | (simp; done) | (simp; omega) | fail) | fail))) | ((with_reducible apply gq_ldW (hm.ext hwx)); infer_instance; (exact rfl); (focus ((repeat (first | exact .hd | assumption | apply Has.tl | apply Has.app)); done)); (focus (first | rfl | omega | (simp; done) | (simp; omega) | fail))) | ((with_reducible apply gq_ld1 (hm.ext hwx)); infer_instance; (exact rfl); (focus ((repeat (first | exact .hd | assumption | apply Has.tl | apply Has.app)); done)); (exact rfl)) | fail) | (go_simp; (try go_bits); first | exact gives_same | exact gives_skip | with_reducible exact gives_call (c3 wx hwx)))
             · (simp only [Act.put, sIB, sCS, sCZ]; rfl))
          | (apply walk_not rfl rfl rfl
             · (simp only [Act.put, sIB, sCS, sCZ]; rfl)))
      intro wz hwz
      simp only [zCC, zNR]
      repeat rw [fin_is]
      rw [fin_cons]; intro x40 hx40
      repeat rw [fin_is]
      rw [fin_cons]; intro x41 hx41
      repeat rw [fin_is]
      rw [fin_nil]; intro hap
      simp only [Act.put, sIB, sCS, sCZ] at hap ⊢
      obtain ⟨px, cx, rfl, hcx, hrx⟩ := hx41
      rw [l3] at hcx
      have EX := Lib.hid (show Value.slice px X.length cx = .slice px n cx by rw [l3])
      rw [EX.out]
      have HRX := Lib.hid hrx
      clear hx40 hrx hap c1 c2 c3 hx0
      replace hm := hm.ext hwz
      go_wp2_with fail
      go_roundw
      case rel => exact ⟨k + 1, (jj : Int) + 1, pr, px, cr, cx, hlt, by have := HZ.out; omega, by go_num, rfl, rfl, hcr, hcx, HK1.out _ _ (HRR.out.ext hwz), HK2.out _ _ HRX.out, hm⟩
      case measure => simp [intOf] <;> omega
    · obtain rfl : k = RN := by omega
      obtain rfl : z = (k : Int) := by have := HZ.out; omega
      have d1 : decide ((k : Int) < (k : Int)) = false := decide_eq_false (by omega)
      have FIT0 := Lib.hid (show (0 + n) * (1 + 1) ≤ 140737488355328 by omega)
      have FIT2 := Lib.hid (show (n + n) * (1 + 1) ≤ 140737488355328 by omega)
      have FIT := Lib.hid (show (n + n) * (1 + 1) ≤ 140737488355328 by omega)
      have l1 := (HTW.out k).l
      have l2 := (HTW.out k).r
      have LRR := Lib.hid (show ((RT k).2.map v8).length = n * 1 by rw [List.length_map, l2, Nat.mul_one])
      have LLL := Lib.hid (show ((RT k).1.map v8).length = n * 1 by rw [List.length_map, l1, Nat.mul_one])
      generalize (RT k).1 = LL at *
      generalize (RT k).2 = RR at *
      have FCJ := Lib.hid fun (w : World) (px : Option Addr) (cx : Nat) (hx : Ext w0 w) (ha : RdB w px J) => show GivesR Tryz.prog 24 #[A8 R, A8 H, .slice px n cx] w (BytesS (flipL F H J)) from FC.out w J px cx hx lJ ha
      obtain ⟨FL, hFL⟩ : ∃ FL, FL = flipL F H J := ⟨_, rfl⟩
      rw [← hFL] at FCJ
      have HFL := Lib.hid hFL
      clear hFL
      have EJ := Lib.hid (show [] ++ RR.map v8 ++ LL.map v8 = (RR ++ LL).map v8 by simp)
      have RG1 := Lib.hid fun wx (h : Ext w wx) => (hm.ext h).rdB (g := g1) (l := R) (by repeat (first | exact Has.hd | assumption | apply Has.tl | apply Has.app))
      have RG2 := Lib.hid fun wx (h : Ext w wx) => (hm.ext h).rdB (g := g2) (l := H) (by repeat (first | exact Has.hd | assumption | apply Has.tl | apply Has.app))
      have hx1 := hm.x
      clear hm
      have hm := Own.start w
      go_wp2_with fail
      refine pregion 9 (JY3 w [] 5 1 n ([] ++ RR.map v8) (n + n) ([] ++ RR.map v8 ++ LL.map v8)) [2, 4, 6] 51 (by kernel_rfl) (by kernel_rfl) rfl (⟨none, none, none, rfl, hm.ext (drew_ext _)⟩) ?_
      simp only [tSC, List.take_zero, dSC, List.drop_zero, List.map_cons, List.map_nil]
      repeat (first
          | (apply pwalk_is rfl rfl rfl rfl
             · (intro vs_ wx hJ_; obtain ⟨a_, b_, c_, rfl, hX_⟩ := hJ_; have hm := hX_.low; have hwx := hm.x; (with_reducible apply gq_rdW ((RG1.out) wx hwx)); infer_instance; (exact rfl); (focus (first | rfl | omega | (simp; done) | (simp; omega) | fail)))
             · (simp only [Act.put, sIB, sCS, sCZ]; rfl))
          | (apply pwalk_is rfl rfl rfl rfl
             · (intro vs_ wx hJ_; obtain ⟨a_, b_, c_, rfl, hX_⟩ := hJ_; have hm := hX_.low; have hwx := hm.x; (with_reducible apply gq_rdW ((RG2.out) wx hwx)); infer_instance; (exact rfl); (focus (first | rfl | omega | (simp; done) | (simp; omega) | fail)))
             · (simp only [Act.put, sIB, sCS, sCZ]; rfl))
          | (apply pwalk_mark (T := []) 0 [] rfl rfl rfl (by kernel_rfl) rfl
             · (intro vs_ wx hJ_ hn_ hD_; simp only [pwithS]; obtain ⟨a_, b_, c_, rfl, hX_⟩ := hJ_; obtain rfl : a_ = none := (by simpa using hn_); obtain ⟨rfl, rfl, hm⟩ := hX_.at0; refine ⟨rfl, ?_⟩; (with_reducible apply wq_bs0 bs0_b hm); (exact rfl); clear hm; intro gz w_ hm; exact mark_end rfl (Y3.j0 hm (slo_room0 _ _ 1))))
          | (apply pwalk_mark (T := [(44, PMk 0)]) 1 [0] rfl rfl rfl (by kernel_rfl) rfl
             · (intro vs_ wx hJ_ hn_ hD_; simp only [pwithS]; obtain ⟨a_, b_, c_, rfl, hX_⟩ := hJ_; obtain rfl : b_ = none := (by simpa using hn_); intro x_ hx_; obtain rfl : a_ = some x_ := (by simpa [PMk] using hx_); obtain ⟨rfl, M_, hm, hs_⟩ := hX_.at1; refine ⟨rfl, ?_⟩; refine wplO_app (M := M_) (ds := RR.map v8) hm hs_ rfl rfl rfl rfl Tryz.underlying22 LRR.out (cellsB (HRR.out.ext hm.x)) (one_map _) FIT0.out ?_; intro v_ w_ M1_ hm1_ hs1_; rw [Nat.zero_add] at hs1_; exact mark_end rfl (Y3.j1 hm1_ hs1_)))
          | (apply pwalk_mark (T := [(46, PMk 1)]) 2 [0, 1] rfl rfl rfl (by kernel_rfl) rfl
             · (intro vs_ wx hJ_ hn_ hD_; simp only [pwithS]; obtain ⟨a_, b_, c_, rfl, hX_⟩ := hJ_; obtain rfl : c_ = none := (by simpa using hn_); intro x_ hx_; obtain rfl : b_ = some x_ := (by simpa [PMk] using hx_); obtain ⟨u_, rfl, M_, hm, hs_⟩ := hX_.at2; refine ⟨rfl, ?_⟩; refine wplO_app (M := M_) (ds := LL.map v8) hm hs_ rfl rfl rfl rfl Tryz.underlying22 LLL.out (cellsB (HRL.out.ext hm.x)) (one_map _) FIT.out ?_; intro v_ w_ M1_ hm1_ hs1_; exact mark_end rfl (Y3.j2 hm1_ hs1_)))
          | (apply pwalk_from_some (T := [(48, PMk 2)]) (BytP J) 49 (BytP.stable _) rfl rfl rfl rfl; (intro vs_ wx hJ_; simp only [pwithS]; intro x_ hx_; obtain ⟨a_, b_, c_, rfl, hX_⟩ := hJ_; obtain rfl : c_ = some x_ := (by simpa [PMk] using hx_); obtain ⟨u_, y_, rfl, rfl, M_, hm, hs_⟩ := hX_.at3; rw [EJ.out] at hs_; obtain ⟨ps_, cs_, rfl⟩ := hs_.form; have hr_ := slo_bytes hs_ hm; have gr_ : GivesR Tryz.prog 52 #[.slice ps_ (n + n) cs_] wx (fun v w' => BytP J v [some u_, some y_, some (.slice ps_ (n + n) cs_)] w') := (JC.out wx ps_ _ cs_ hr_).mono (fun e w' ⟨v, h1, h2, h4⟩ => ⟨v, h1, ⟨⟨_, _, _, rfl⟩, h2⟩, h4⟩); clear hr_ hs_; refine ⟨rfl, ?_⟩; go_simp; with_reducible exact gives_callR gr_))
          | (apply pwalk_from_some (T := [(49, BytP J)]) (BytP FL) 50 (BytP.stable _) rfl rfl rfl rfl; (intro vs_ wx hJ_; simp only [pwithS]; rintro x_ ⟨⟨a1_, a2_, a3_, rfl⟩, p', c', rfl, hlc, hr'⟩; obtain ⟨a_, b_, c_, he_, hX_⟩ := hJ_; have hxl_ := hX_.low.x; clear hX_ he_; have gr_ : GivesR Tryz.prog 24 #[A8 R, A8 H, .slice p' n c'] wx (fun v w' => BytP FL v [some a1_, some a2_, some a3_] w') := (FCJ.out wx p' c' (hx1.trans hxl_) hr').mono (fun e w' ⟨v, h1, h2, h4⟩ => ⟨v, h1, ⟨⟨_, _, _, rfl⟩, h2⟩, h4⟩); refine ⟨rfl, ?_⟩; go_simp; with_reducible exact gives_callR gr_))
          | (apply pwalk_is rfl rfl rfl rfl
             · (intro vs_ wx hJ_; obtain ⟨a_, b_, c_, rfl, hX_⟩ := hJ_; have hm := hX_.low; have hwx := hm.x; first | ((with_reducible show gives _ _ _ (Sem.run _ (execOp _ (Oper.mk _ (Op.load _ _) _ _ _ _)) _)); first | ((with_reducible apply gq_ldv hm); infer_instance; (exact rfl); (focus ((repeat (first | exact .hd | assumption | apply Has.tl | apply Has.app)); done)); (focus (first | omega | (simp; omega) | (refine Nat.lt_of_lt_of_le (BitVec.isLt _) ?_; first | omega | (simp; done) | (simp; omega) | fail) | fail))) | ((with_reducible apply gq_ldW hm); infer_instance; (exact rfl); (focus ((repeat (first | exact .hd | assumption | apply Has.tl | apply Has.app)); done)); (focus (first | rfl | omega | (simp; done) | (simp; omega) | fail))) | ((with_reducible apply gq_ld1 hm); infer_instance; (exact rfl); (focus ((repeat (first | exact .hd | assumption | apply Has.tl | apply Has.app)); done)); (exact rfl)) | fail) | (go_simp; (try go_bits); first | exact gives_same | exact gives_skip))
             · (simp only [Act.put, sIB, sCS, sCZ]; rfl)))
      intro vs_ wz hJ_ hl_ hall_
      simp only [zCC, zNR]
      repeat rw [pfin_is]
      rw [pfin_cons]; intro x44 hx44
      repeat rw [pfin_is]
      rw [pfin_cons]; intro x46 hx46
      repeat rw [pfin_is]
      rw [pfin_cons]; intro x48 hx48
      repeat rw [pfin_is]
      rw [pfin_cons]; intro x49 hx49
      repeat rw [pfin_is]
      rw [pfin_cons]; intro x50 hx50
      repeat rw [pfin_is]
      rw [pfin_nil]
      simp only [Act.put, sIB, sCS, sCZ]
      obtain ⟨a_, b_, c_, rfl, hX_⟩ := hJ_
      have hx2 := hx1.trans hX_.low.x
      obtain ⟨_, hbs⟩ := hx50
      have HBS := Lib.hid hbs
      clear hm hx44 hx46 hx48 hx49 hl_ hall_ hX_ hbs
      go_wp2_with fail
      go_ret
      exact ⟨x50, rfl, by rw [← HFL.out]; exact HBS.out, hx2⟩

end Go.Proofs.YtaijfigohlkccaaGreatDoor
