/-
  Layer 16: the document's hash of a row. Conditions: those written in each theorem.
  Layer 16: the document's hash of a row, of E from -1 on. Conditions: those written in each theorem.
-/
import Derived.Test.YtaijfigohlkccaaGreatDoorZCoreTurns0
import Derived.Test.YtaijfigohlkccaaGreatDoorZCoreTurns28
set_option linter.unusedSimpArgs false
set_option linter.unusedVariables false
namespace Go.Proofs.YtaijfigohlkccaaGreatDoor
open Go Go.RowKit
set_option maxRecDepth 100000
theorem gq_cell {P : Program} {a : Act} {w : World} {dst : Option Tmp} {ty : TypeId} {pos : String} {aft : Array Edge} {gd : Option (Nat × Bool)} {T : TypeId} {x : Operand} {p : Addr} {v : Value} (hc : w.cell? p = some v) (hT : One1 P T) (hx : a.eval x = .pointer (some p)) : gives P w (Is v) ((execOp a.eval (Oper.mk dst (.load T x) ty pos aft gd)).run P w) := by
 obtain ⟨d, hu, hd⟩ := Option.map_eq_some_iff.1 hT.row
 have hagg : (isAgg T).run P w = .ok false w := by
   unfold isAgg
   rw [Sem.run_bind, run_underlying hu w]
   cases d <;> simp_all
 have hr : (Instr.loadAt T (.pointer (some p))).run P w = .ok v w := by simp [Instr.loadAt, Instr.sureAddr, loadVar, Sem.run_bind, hagg, hc]
 unfold execOp
 simp only [hx, Sem.run_bind, hr, Result.andThen_ok, Sem.run_pure]
 exact gives_same
end Go.Proofs.YtaijfigohlkccaaGreatDoor
namespace Go.Proofs.YtaijfigohlkccaaGreatDoor
open Go Go.RowKit
set_option maxRecDepth 100000
set_option maxHeartbeats 8000000 in
theorem rhash_from (R : List Byte) (hR : R.length = 560) (F : Int → Int → List Byte → List Byte) (hF : ∀ j m x, (F j m x).length = 16) (ls : List (List Byte)) (q : Option Addr) (d : Nat) (w0 : World) (hl : RdR w0 q ls) (hld : ls.length ≤ d) (hlm : ls.length ≤ 70368744177000) (hls : ∀ i, (ls.getD i []).length ≤ 70368744177000)
   (CE : ∀ wx, Ext w0 wx → ∀ (j m : Int) (x : List Byte), x.length = 16 → -1 ≤ j → j ≤ 9223372036854775807 → 0 ≤ m → m ≤ 9223372036854775807 → Gives Tryz.prog 44 #[A8 R, .int .i64 j, .int .i64 m, A8 x] wx (A8 (F j m x))) :
   Gives Tryz.prog 41 #[A8 R, .slice q ls.length d] w0 (A8 (hashG F ls)) := by
 unfold Gives
 have hm := Own.start w0
 have HE := Lib.hid CE
 have HF := Lib.hid hF
 have HL := Lib.hid hl
 have HS := Lib.hid hls
 have lG := hashG_length F ls
 have lH := Lib.hid (hashF_length F ls)
 have eG : Hid (hashF F ls ls.length = hashG F ls) := Lib.hid rfl
 generalize hN : ls.length = N at *
 have HN := Lib.hid hN
 clear CE hF hl hls hN
 go_enter Tryz.func41, Tryz.ntmps41
 go_wp2_with (first | ((first | ((with_reducible show qAl); first | ((with_reducible apply wq_new hm); exact rfl; infer_instance)) | ((with_reducible show qBx); first | ((with_reducible apply wq_boxN hm); exact rfl; exact rfl))); clear hm; (first | (have hx_ := g1; clear hx_; (first | (have hx_ := g2; clear hx_; (first | (have hx_ := g3; clear hx_; intro gx_) | intro g3)) | intro g2)) | intro g1); intro w hm))
 go_loopw [6] (fun i wr => ∃ k : Nat, k ≤ N ∧ i = .int .i64 (k : Int) ∧ Own w0 wr [⟨g3, 36, (hashF F ls k).map v8⟩, ⟨g2, 36, (zer 16).map v8⟩, ⟨g1, 39, R.map v8⟩]) (fun i _ => N - (intOf i).toNat)
 case atStart => exact ⟨0, by omega, rfl, hm⟩
 case round =>
   obtain ⟨k, hk, rfl, hm⟩ := hrel
   have lk := lH.out k
   by_cases hlt : k < N
   · have d1 : decide ((k : Int) < (N : Int)) = true := decide_eq_true (by omega)
     have d2 : (k : Int) < (N : Int) := by omega
     have d3 : (k : Int) + 3 ≤ 9223372036854775807 := by omega
     obtain ⟨a, rfl⟩ := Option.isSome_iff_exists.1 (HL.out.1 (by rw [HN.out]; omega))
     obtain ⟨p, cp, hcell0, hrd, hcp, _⟩ := HL.out.2 k (by rw [HN.out]; omega)
     have HC := Lib.hid fun (wx : World) (h : Ext w0 wx) => show wx.cell? (a.add k) = some (.slice p (ls.getD k []).length cp) from h.cell hcell0
     have hlb := HS.out k
     have C1 := Lib.hid fun wx hwx => rpart_any R (F ((k : Int) + 3)) (HF.out _) hR ((k : Int) + 3) (ls.getD k []) p cp wx (hrd.ext hwx) hcp hlb (fun wy hy m x h1 h2 h3 => HE.out wy (hwx.trans hy) _ m x h1 (by omega) d3 h2 h3)
     have lP := partG_length (F ((k : Int) + 3)) (ls.getD k [])
     have c2 := fun wx => sixteen_any (hashF F ls k) (partG (F ((k : Int) + 3)) (ls.getD k [])) lk lP wx
     rw [show bothL (hashF F ls k) (partG (F ((k : Int) + 3)) (ls.getD k [])) = hashF F ls (k + 1) from rfl] at c2
     have C2 := Lib.hid c2
     have lk2 := lH.out (k + 1)
     clear c2 hcell0 hrd hcp hlb
     generalize ls.getD k [] = b at *
     generalize partG (F ((k : Int) + 3)) b = Pt at *
     generalize hP2 : hashF F ls (k + 1) = P2 at *
     generalize hashF F ls k = P1 at *
     have HP2 := Lib.hid hP2
     clear hP2
     go_wp2_with fail
     have hx0 := hm.x
     refine region_at 10 (fun w' => Ext _ w') 24 (by kernel_rfl) (by kernel_rfl) rfl (fun _ _ h k => h.trans k) (drew_ext _) ?_
     simp only [tSC, List.take_zero, dSC, List.drop_zero, List.map_cons, List.map_nil]
     repeat (first
         | (apply walk_is rfl rfl rfl
            · (intro wx hwx; (with_reducible apply gq_cell ((fun wx hwx => HC.out wx (hx0.trans hwx)) wx hwx)); infer_instance; exact rfl)
            · (simp only [Act.put, sIB, sCS, sCZ]; rfl))
         | (apply walk_is rfl rfl rfl
            · (intro wx hwx; first | ((with_reducible show gives _ _ _ (Sem.run _ (execOp _ (Oper.mk _ (Op.load _ _) _ _ _ _)) _)); first | ((with_reducible apply gq_ldv (hm.ext hwx)); infer_instance; exact rfl; (focus (repeat first | exact .hd | assumption | apply Has.tl); done); (focus (first | omega | (simp; omega) | (refine ltB ?_; first | omega | (simp; done) | (simp; omega))))) | ((with_reducible apply gq_ldW (hm.ext hwx)); infer_instance; exact rfl; (focus (repeat first | exact .hd | assumption | apply Has.tl); done); (focus (first | rfl | omega | (simp; done) | (simp; omega)))) | ((with_reducible apply gq_ld1 (hm.ext hwx)); infer_instance; exact rfl; (focus (repeat first | exact .hd | assumption | apply Has.tl); done); exact rfl)) | (go_simp; (try go_bits); first | exact gives_same | exact gives_skip | with_reducible exact gives_call (C1.out wx (hx0.trans hwx)) | with_reducible exact gives_call (C2.out wx)))
            · (simp only [Act.put, sIB, sCS, sCZ]; rfl))
         | (apply walk_not rfl rfl rfl
            · (simp only [Act.put, sIB, sCS, sCZ]; rfl)))
     intro wz hwz
     simp only [zCC, zNR]
     repeat (first | rw [fin_is] | (rw [fin_cons]; intro _ _))
     rw [fin_nil]
     try (replace hm := hm.ext hwz)
     simp only [Act.put, sIB, sCS, sCZ]
     clear hx0
     go_wp2_with (first | ((((with_reducible show qSt); first | ((with_reducible apply wq_stW hm); exact rfl; infer_instance; exact rfl; exact rfl; (focus (repeat first | exact .hd | assumption | apply Swap.tl); done); (focus (first | rfl | omega | (simp; done) | (simp; omega))); (focus (first | rfl | omega | (simp; done) | (simp; omega))); (focus (first | exact one_map _ | (simp [one8, one32, one64]; done)))))); clear hm; intro w hm))
     go_roundw
     case rel => exact ⟨k + 1, by omega, by go_num, by rw [HP2.out]; exact hm⟩
     case measure => simp [intOf] <;> omega
   · obtain rfl : k = N := by omega
     have d1 : decide ((k : Int) < (k : Int)) = false := decide_eq_false (by omega)
     rw [eG.out] at hm lk
     go_wp2_with (first | ((with_reducible show qLd); first | ((with_reducible apply wq_ldW hm); exact rfl; infer_instance; exact rfl; (focus (repeat first | exact .hd | assumption | apply Has.tl); done); (focus (first | rfl | omega | (simp; done) | (simp; omega))))) | ((((with_reducible show qSt); first | ((with_reducible apply wq_stW hm); exact rfl; infer_instance; exact rfl; exact rfl; (focus (repeat first | exact .hd | assumption | apply Swap.tl); done); (focus (first | rfl | omega | (simp; done) | (simp; omega))); (focus (first | rfl | omega | (simp; done) | (simp; omega))); (focus (first | exact one_map _ | (simp [one8, one32, one64]; done)))))); clear hm; intro w hm))
     refine ret_own hm rfl rfl (by infer_instance) (by repeat (first | exact Has.hd | assumption | apply Has.tl)) (by first | rfl | omega | (simp only [zeros_length, zer_length, tab_length, part_length, setN_length, List.length_map, List.length_cons, List.length_nil, List.length_append, List.length_take, List.length_drop, List.length_replicate, blk_length, putL_length] <;> omega)) rfl ⟨rfl, hm.x⟩
end Go.Proofs.YtaijfigohlkccaaGreatDoor
