/-
  Layer 16: so many bytes of a row, the program's. Conditions: those written in each theorem.
  Layer 16: so many bytes of a row, the document's. Conditions: those written in each theorem.
-/
import Derived.Test.YtmgopjeaehmbfaaDoorHash4
import Derived.Test.YtmgopjeaehmbfaaDoorHash6
import Derived.Test.YtmgopjeaehmbfaaDoorHashq
import Derived.Test.YtmgopjeaehmbfaaDoorHash5
namespace Go.Proofs.YtmgopjeaehmbfaaDoor
open Go Go.RowKit
set_option maxRecDepth 100000
set_option linter.unusedVariables false
set_option linter.unusedSimpArgs false

theorem prf_nil (s : Value) (n : Int) (w0 : World) : Calls Tryd.prog 31 #[.pointer none, s, .int .i64 n] w0 fun e w' => e = .returned (.tuple #[.slice none 0 0, .int .i64 2]) ∧ w' = w0 := by
  go_enter Tryd.func31, Tryd.ntmps31
  go_wp2
  refine wp_scope_goto 0 (fun _ _ => False) (fun _ _ => 0) rfl (fun _ _ h => h.elim) ?_
  intro _
  go_wp2
  simp only [Exit.jump]
  go_ret2
  exact ⟨rfl, rfl⟩
theorem prf_size (g : Nat) (s : Value) (n : Int) (hn : n < 0 ∨ 65536 < n) (w0 : World) : Calls Tryd.prog 31 #[.pointer (some ⟨g, 0, none⟩), s, .int .i64 n] w0 fun e w' => e = .returned (.tuple #[.slice none 0 0, .int .i64 4]) ∧ w' = w0 := by
  by_cases h : n < 0
  · have a1 : decide (n < 0) = true := decide_eq_true h
    go_enter Tryd.func31, Tryd.ntmps31
    go_wp2
    refine wp_scope_goto 0 (fun _ _ => False) (fun _ _ => 0) rfl (fun _ _ h => h.elim) ?_
    intro _
    go_wp2
    simp only [Exit.jump]
    go_ret2
    exact ⟨rfl, rfl⟩
  · have a1 : decide (n < 0) = false := decide_eq_false h
    have a2 : 65536 < n := by omega
    have a3 : decide (65536 < n) = true := decide_eq_true a2
    go_enter Tryd.func31, Tryd.ntmps31
    go_wp2
    refine wp_scope_goto 0 (fun _ _ => False) (fun _ _ => 0) rfl (fun _ _ h => h.elim) ?_
    intro _
    go_wp2
    simp only [Exit.jump]
    go_ret2
    exact ⟨rfl, rfl⟩
set_option maxHeartbeats 8000000 in
theorem prf_ok (g n : Nat) (F : Int → Int → List Byte → List Byte) (hF : ∀ j m x, (F j m x).length = 16) (ls : List (List Byte)) (q : Option Addr) (d : Nat) (w0 : World) (hl : RdR w0 q ls) (hld : ls.length ≤ d) (hlm : ls.length ≤ 70368744177000) (hls : ∀ i, (ls.getD i []).length ≤ 70368744177000) (hn : n ≤ 65536)
    (CE : ∀ wx, Ext w0 wx → ∀ (j m : Int) (x : List Byte), x.length = 16 → j ≤ 9223372036854775807 → m ≤ 9223372036854775807 → Gives Tryd.prog 29 #[.pointer (some ⟨g, 0, none⟩), .int .i64 j, .int .i64 m, A8 x] wx (A8 (F j m x))) :
    Calls Tryd.prog 31 #[.pointer (some ⟨g, 0, none⟩), .slice q ls.length d, .int .i64 n] w0 fun e w' => ∃ x, e = .returned (.tuple #[x, .int .i64 0]) ∧ BytesS (prfL (F (-1) 3) (hashG F ls) n) x w' ∧ Ext w0 w' := by
  have hm := Own.start w0
  have a1 : decide ((n : Int) < 0) = false := decide_eq_false (by omega)
  have a2 : ¬ (n : Int) < 0 := by omega
  have a3 : decide ((65536 : Int) < (n : Int)) = false := decide_eq_false (by omega)
  have a4 : ¬ (65536 : Int) < (n : Int) := by omega
  have H1 := Lib.hid fun (wx : World) (hx : Ext w0 wx) => hhash_any (.pointer (some ⟨g, 0, none⟩)) rfl rfl F hF ls q d wx (hl.ext hx) hld hlm hls (fun wy hy j m x e1 e2 e3 => CE wy (hx.trans hy) j m x e1 e2 e3)
  have lH := hashG_length F ls
  have HF := Lib.hid (hF (-1) 3)
  have HE := Lib.hid fun wx hx (x : List Byte) (h16 : x.length = 16) => CE wx hx (-1) 3 x h16 (by omega) (by omega)
  generalize F (-1) 3 = E at *
  generalize hashG F ls = H at *
  have HP := Lib.hid (prfF_length E HF.out H)
  have HN := Lib.hid (prfL_length E HF.out H n)
  have HU : Hid (∀ k, k = prfN n → (prfF E H k).take n = prfL E H n) := Lib.hid fun k h => by rw [h]; rfl
  have CC := Lib.hid fun (k : Nat) (hk : k ≤ 9223372036854775807) wx => counted_any H k lH hk wx
  have LC := Lib.hid (cntL_length H)
  have ES : Hid (∀ k, prfF E H (k + 1) = prfF E H k ++ E (cntL H k)) := Lib.hid fun _ => rfl
  have EZ : Hid ((prfF E H 0).map v8 = []) := Lib.hid rfl
  generalize prfL E H n = D at *
  clear CE hF hl hls
  go_enter Tryd.func31, Tryd.ntmps31
  go_wp2_with fail
  refine wp_scope_goto 0 (fun a_ w_ => ∃ (k L c gh : Nat) (p : Option Addr) (M : List Blk) (u3 u4 u5 u10 u11 u12 u13 u14 u15 u16 u17 u18 u19 u20 u21 u22 u23 u24 u25 u26 u27 u28 u29 u30 u31 u32 u33 u34 u35 u36 u37 u38 u39 u40 u41 u42 u43 : Value), a_ = { tmps := #[(.pointer (some ⟨g, 0, none⟩)), (.slice q ls.length d), (.int .i64 (n : Int)), u3, u4, u5, (.slice none 0 0), (.int .i64 0), (.pointer (some ⟨gh, 0, none⟩)), (.slice p L c), u10, u11, u12, u13, u14, u15, u16, u17, u18, u19, u20, u21, u22, u23, u24, u25, u26, u27, u28, u29, u30, u31, u32, u33, u34, u35, u36, u37, u38, u39, u40, u41, u42, u43], defers := [] } ∧ L = 16 * k ∧ 16 * k < n + 16 ∧ SlO M 5 1 (.slice p L c) L ((prfF E H k).map v8) ∧ Own w0 w_ (M ++ [⟨gh, 27, H.map v8⟩])) (fun a_ _ => n + 16 - slen (a_.tmps.getD 9 undef)) rfl ?_ ?_
  · clear hm
    rintro a' w ⟨k, L, c, gh, p, M, u3, u4, u5, u10, u11, u12, u13, u14, u15, u16, u17, u18, u19, u20, u21, u22, u23, u24, u25, u26, u27, u28, u29, u30, u31, u32, u33, u34, u35, u36, u37, u38, u39, u40, u41, u42, u43, rfl, ⟨hL, hk, hso, hm⟩⟩
    have HSO := Lib.hid hso
    have HL := Lib.hid hL
    by_cases hlt : L < n
    · have d1 : decide ((n : Int) ≤ (L : Int)) = false := decide_eq_false (by omega)
      have d2 : decide ((L : Int) ≥ (n : Int)) = false := decide_eq_false (by omega)
      have d3 : ¬ (n : Int) ≤ (L : Int) := by omega
      have x1 : (L : Int) / 16 = (k : Int) := by omega
      have x2 : (L : Int).tdiv 16 = (k : Int) := by rw [Int.tdiv_eq_ediv_of_nonneg (by omega)]; exact x1
      have C1 := Lib.hid (CC.out k (by omega))
      have lc := LC.out k
      have E1 := Lib.hid fun wx hx => HE.out wx hx (cntL H k) lc
      have le := HF.out (cntL H k)
      have es := ES.out k
      have FIT := Lib.hid (show (L + 16) * (1 + 1) ≤ 140737488355328 by omega)
      generalize hY : E (cntL H k) = Y at *
      generalize hX : cntL H k = X at *
      have HES := Lib.hid es
      clear hL hso es hY hX
      have LY := Lib.hid (show (Y.map v8).length = 16 * 1 by simp [le])
      go_wp2_with (first | (go_at_call 66; (with_reducible refine (C1.out _).mono ?_); rintro e_ w ⟨rfl, hx_⟩; replace hm := hm.ext hx_; clear hx_) | (go_at_call 29; (with_reducible refine (E1.out _ hm.x).mono ?_); rintro e_ w ⟨rfl, hx_⟩; replace hm := hm.ext hx_; clear hx_) | ((with_reducible show wpList _ _ _ (Oper.mk _ (Op.call _) _ _ _ _ :: _) _ _); refine wplO_app (M := M) (R := _) (ds := Y.map v8) (hm.perm (List.perm_middle.symm)) HSO.out rfl rfl rfl rfl Tryd.underlying22 LY.out (cells_b (hm.rdB (by repeat (first | exact Has.hd | assumption | apply Has.tl | apply Has.app)))) (one_map _) FIT.out ?_; clear hm; intro v1 w M1 hm hs1; obtain ⟨p_v1, c_v1, rfl⟩ := hs1.form; replace hm := hm.perm (List.perm_middle)) | ((with_reducible show wpList _ _ _ (Oper.mk _ (Op.load _ _) _ _ _ _ :: _) _ _); first | ((with_reducible apply wq_ldW hm); (exact rfl); infer_instance; (exact rfl); (focus ((repeat (first | exact .hd | assumption | apply Has.tl | apply Has.app)); done)); (focus (first | rfl | omega | (simp; done) | (simp; omega) | fail))) | fail) | ((((with_reducible show wpList _ _ _ (Oper.mk _ (Op.store _ _ _) _ _ _ _ :: _) _ _); first | ((with_reducible apply wq_stW hm); (exact rfl); infer_instance; (exact rfl); (exact rfl); (focus ((repeat (first | exact .hd | assumption | apply Swap.tl | apply Swap.app)); done)); (focus (first | rfl | omega | (simp; done) | (simp; omega) | fail)); (focus (first | rfl | omega | (simp; done) | (simp; omega) | fail)); (focus (first | exact one_map _ | (simp [one8, one32, one64]; done) | fail))) | fail)); clear hm; intro w hm) | ((first | ((with_reducible show wpList _ _ _ (Oper.mk _ (Op.alloc _) _ _ _ _ :: _) _ _); first | ((with_reducible apply wq_new hm); (exact rfl); infer_instance) | fail)); clear hm; (first | (have hx_ := g1; clear hx_; (first | (have hx_ := g2; clear hx_; (first | (have hx_ := g3; clear hx_; (first | (have hx_ := g4; clear hx_; (first | (have hx_ := g5; clear hx_; (first | (have hx_ := g6; clear hx_; (first | (have hx_ := g7; clear hx_; (first | (have hx_ := g8; clear hx_; (first | (have hx_ := g9; clear hx_; intro g10) | intro g9)) | intro g8)) | intro g7)) | intro g6)) | intro g5)) | intro g4)) | intro g3)) | intro g2)) | intro g1); intro w hm) | fail)
      go_step3
      exact ⟨rfl, ⟨_, _, _, _, _, _, _, _, _, _, _, _, _, _, _, _, _, _, _, _, _, _, _, _, _, _, _, _, _, _, _, _, _, _, _, _, _, _, _, _, _, _, _, rfl, ⟨by have := HL.out; show _ = 16 * (k + 1); omega, by have := HL.out; show 16 * (k + 1) < n + 16; omega, by show SlO _ _ _ _ _ ((prfF E H (k + 1)).map v8); rw [HES.out, List.map_append]; exact hs1, hm.drop⟩⟩, by simp [slen]; omega⟩
    · have d1 : decide ((n : Int) ≤ (L : Int)) = true := decide_eq_true (by omega)
      have d2 : decide ((L : Int) ≥ (n : Int)) = true := decide_eq_true (by omega)
      have d3 : (n : Int) ≤ (L : Int) := by omega
      have hD := HU.out k (by unfold prfN; omega)
      have hrd := slo_rdB hso hm
      obtain ⟨_, _, hv, hnc0, _, _⟩ := hso.cells hm
      cases hv
      have HRD := Lib.hid hrd
      have hc1 : (n : Int) ≤ (c : Int) := by omega
      have hc2 : n ≤ c := by omega
      clear hrd hso
      go_wp2_with fail
      simp only [Exit.jump]
      go_ret2
      refine ⟨_, rfl, ⟨p, c, by rw [HN.out]; rfl, by rw [HN.out]; exact hc2, by rw [← hD]; exact HRD.out.take n⟩, hm.x⟩
  · intro hp
    go_wp2_with (first | (go_at_call 27; (with_reducible refine (H1.out _ hm.x).mono ?_); rintro e_ w ⟨rfl, hx_⟩; replace hm := hm.ext hx_; clear hx_) | ((with_reducible apply wq_mkR 0 (n + 16) hm); exact rfl; exact rfl; exact rfl; exact rfl; (focus omega); (focus omega); (focus omega); clear hm; intro g2 w hm) | ((((with_reducible show wpList _ _ _ (Oper.mk _ (Op.store _ _ _) _ _ _ _ :: _) _ _); first | ((with_reducible apply wq_stW hm); (exact rfl); infer_instance; (exact rfl); (exact rfl); (focus ((repeat (first | exact .hd | assumption | apply Swap.tl | apply Swap.app)); done)); (focus (first | rfl | omega | (simp; done) | (simp; omega) | fail)); (focus (first | rfl | omega | (simp; done) | (simp; omega) | fail)); (focus (first | exact one_map _ | (simp [one8, one32, one64]; done) | fail))) | fail)); clear hm; intro w hm) | ((first | ((with_reducible show wpList _ _ _ (Oper.mk _ (Op.alloc _) _ _ _ _ :: _) _ _); first | ((with_reducible apply wq_new hm); (exact rfl); infer_instance) | fail)); clear hm; (first | (have hx_ := g1; clear hx_; (first | (have hx_ := g2; clear hx_; (first | (have hx_ := g3; clear hx_; (first | (have hx_ := g4; clear hx_; (first | (have hx_ := g5; clear hx_; (first | (have hx_ := g6; clear hx_; (first | (have hx_ := g7; clear hx_; (first | (have hx_ := g8; clear hx_; (first | (have hx_ := g9; clear hx_; intro g10) | intro g9)) | intro g8)) | intro g7)) | intro g6)) | intro g5)) | intro g4)) | intro g3)) | intro g2)) | intro g1); intro w hm) | fail)
    go_step3
    rename_i hK
    exact hK _ _ (hp _ _ ⟨_, _, _, _, _, _, _, _, _, _, _, _, _, _, _, _, _, _, _, _, _, _, _, _, _, _, _, _, _, _, _, _, _, _, _, _, _, _, _, _, _, _, _, rfl, ⟨rfl, (by show 16 * 0 < n + 16; omega), (by show SlO _ _ _ _ _ ((prfF E H 0).map v8); rw [EZ.out]; exact SlO.room _ _ 1 (n + 16) ((zeros (n + 16)).map v8) (by simp) (by unfold maxLen; omega)), hm⟩⟩)

end Go.Proofs.YtmgopjeaehmbfaaDoor
namespace Go.Proofs.YtmgopjeaehmbfaaDoor
open Go Go.RowKit
set_option maxRecDepth 100000
set_option linter.unusedVariables false
set_option linter.unusedSimpArgs false

/-- The document's three bytes, as its walk writes them. -/
theorem doc_three (h : List Byte) (hh : h.length = 16) (k : Nat) (hk : k < 16777216) :
    setN (setN (setN h 15 (nth h 15 ^^^ BitVec.ofInt 8 ((k : Int) % 256))) 14 (nth (setN h 15 (nth h 15 ^^^ BitVec.ofInt 8 ((k : Int) % 256))) 14 ^^^ BitVec.ofInt 8 ((k : Int) / 256))) 13 (nth (setN (setN h 15 (nth h 15 ^^^ BitVec.ofInt 8 ((k : Int) % 256))) 14 (nth (setN h 15 (nth h 15 ^^^ BitVec.ofInt 8 ((k : Int) % 256))) 14 ^^^ BitVec.ofInt 8 ((k : Int) / 256))) 13 ^^^ BitVec.ofInt 8 ((k : Int) / 65536)) = cntL h k := by
  have b1 : BitVec.ofInt 8 ((k : Int) % 256) = BitVec.ofNat 8 k := by
    rw [show (k : Int) % 256 = ((k % 256 : Nat) : Int) by omega, BitVec.ofInt_natCast]
    apply BitVec.eq_of_toNat_eq; simp
  have b2 : BitVec.ofInt 8 ((k : Int) / 256) = BitVec.ofNat 8 (k >>> 8) := by
    rw [show (k : Int) / 256 = ((k / 256 : Nat) : Int) by omega, BitVec.ofInt_natCast, Nat.shiftRight_eq_div_pow]
  have b3 : BitVec.ofInt 8 ((k : Int) / 65536) = BitVec.ofNat 8 (k >>> 16) := by
    rw [show (k : Int) / 65536 = ((k / 65536 : Nat) : Int) by omega, BitVec.ofInt_natCast, Nat.shiftRight_eq_div_pow]
  have n1 : ∀ y, nth (setN h 15 y) 14 = nth h 14 := fun y => by rw [nth_set (by omega), if_neg (by decide)]
  have n2 : ∀ y z, nth (setN (setN h 15 y) 14 z) 13 = nth h 13 := fun y z => by rw [nth_set (by rw [setN_length]; omega), if_neg (by decide), nth_set (by omega), if_neg (by decide)]
  rw [b1, b2, b3, n1, n2]
  exact cntL_three h hh k hk
set_option maxHeartbeats 8000000 in
theorem rprf_any (R : List Byte) (hR : R.length = 560) (n : Nat) (F : Int → Int → List Byte → List Byte) (hF : ∀ j m x, (F j m x).length = 16) (ls : List (List Byte)) (q : Option Addr) (d : Nat) (w0 : World) (hl : RdR w0 q ls) (hld : ls.length ≤ d) (hlm : ls.length ≤ 70368744177000) (hls : ∀ i, (ls.getD i []).length ≤ 70368744177000) (hn : n ≤ 65536)
    (CE : ∀ wx, Ext w0 wx → ∀ (j m : Int) (x : List Byte), x.length = 16 → -1 ≤ j → j ≤ 9223372036854775807 → 0 ≤ m → m ≤ 9223372036854775807 → Gives Tryd.prog 56 #[A8 R, .int .i64 j, .int .i64 m, A8 x] wx (A8 (F j m x))) :
    GivesR Tryd.prog 32 #[A8 R, .slice q ls.length d, .int .i64 n] w0 (BytesS (prfL (F (-1) 3) (hashG F ls) n)) := by
  unfold GivesR
  have hm := Own.start w0
  have H1 := Lib.hid fun (wx : World) (hx : Ext w0 wx) => rhash_from R hR F hF ls q d wx (hl.ext hx) hld hlm hls (fun wy hy j m x e1 e2 e3 e4 e5 => CE wy (hx.trans hy) j m x e1 e2 e3 e4 e5)
  have lH := hashG_length F ls
  have HF := Lib.hid (hF (-1) 3)
  have HE := Lib.hid fun wx hx (x : List Byte) (h16 : x.length = 16) => CE wx hx (-1) 3 x h16 (by omega) (by omega) (by omega) (by omega)
  generalize F (-1) 3 = E at *
  generalize hashG F ls = H at *
  have HP := Lib.hid (prfF_length E HF.out H)
  have HN := Lib.hid (prfL_length E HF.out H n)
  have HU : Hid (∀ k, k = prfN n → (prfF E H k).take n = prfL E H n) := Lib.hid fun k h => by rw [h]; rfl
  have LC := Lib.hid (cntL_length H)
  have ES : Hid (∀ k, prfF E H (k + 1) = prfF E H k ++ E (cntL H k)) := Lib.hid fun _ => rfl
  have E3 := Lib.hid (doc_three H lH)
  generalize prfL E H n = D at *
  clear CE hF hl hls
  go_enter Tryd.func32, Tryd.ntmps32
  go_wp2_with (first | (go_at_call 30; (with_reducible refine (H1.out _ hm.x).mono ?_); rintro e_ w ⟨rfl, hx_⟩; replace hm := hm.ext hx_; clear hx_) | ((with_reducible show wpList _ _ _ (Oper.mk _ (Op.load _ _) _ _ _ _ :: _) _ _); first | ((with_reducible apply wq_ldW hm); (exact rfl); infer_instance; (exact rfl); (focus ((repeat (first | exact .hd | assumption | apply Has.tl | apply Has.app)); done)); (focus (first | rfl | omega | (simp; done) | (simp; omega) | fail))) | fail) | ((((with_reducible show wpList _ _ _ (Oper.mk _ (Op.store _ _ _) _ _ _ _ :: _) _ _); first | ((with_reducible apply wq_stW hm); (exact rfl); infer_instance; (exact rfl); (exact rfl); (focus ((repeat (first | exact .hd | assumption | apply Swap.tl | apply Swap.app)); done)); (focus (first | rfl | omega | (simp; done) | (simp; omega) | fail)); (focus (first | rfl | omega | (simp; done) | (simp; omega) | fail)); (focus (first | exact one_map _ | (simp [one8, one32, one64]; done) | fail))) | fail)); clear hm; intro w hm) | ((first | ((with_reducible show wpList _ _ _ (Oper.mk _ (Op.alloc _) _ _ _ _ :: _) _ _); first | ((with_reducible apply wq_new hm); (exact rfl); infer_instance) | fail) | ((with_reducible show wpList _ _ _ (Oper.mk _ (Op.box _ _) _ _ _ _ :: _) _ _); first | ((with_reducible apply wq_boxN hm); (exact rfl); (exact rfl)) | fail)); clear hm; (first | (have hx_ := g1; clear hx_; (first | (have hx_ := g2; clear hx_; (first | (have hx_ := g3; clear hx_; (first | (have hx_ := g4; clear hx_; (first | (have hx_ := g5; clear hx_; (first | (have hx_ := g6; clear hx_; (first | (have hx_ := g7; clear hx_; (first | (have hx_ := g8; clear hx_; (first | (have hx_ := g9; clear hx_; intro g10) | intro g9)) | intro g8)) | intro g7)) | intro g6)) | intro g5)) | intro g4)) | intro g3)) | intro g2)) | intro g1); intro w hm) | fail)
  go_loopw [8, 9] (fun v i wr => ∃ (k : Nat) (M : List Blk), 16 * k < n + 16 ∧ i = .int .i64 k ∧ SlO M 5 1 v (16 * k) ((prfF E H k).map v8) ∧ Own w0 wr (M ++ [⟨g2, 27, H.map v8⟩, ⟨g1, 35, R.map v8⟩])) (fun _ i _ => n + 16 - 16 * (intOf i).toNat)
  case atStart => exact ⟨0, [], by omega, rfl, SlO.nil _ _, hm⟩
  case round =>
    obtain ⟨k, M, hk, rfl, hso, hm⟩ := hrel
    obtain ⟨p0, c0, rfl⟩ := hso.form
    have HSO := Lib.hid hso
    obtain ⟨L, hL⟩ : ∃ L : Nat, L = 16 * k := ⟨_, rfl⟩
    rw [← hL] at HSO
    have HL := Lib.hid hL
    by_cases hlt : L < n
    · have d1 : decide ((L : Int) < (n : Int)) = true := decide_eq_true (by omega)
      have d2 : (L : Int) < (n : Int) := by omega
      have lc := LC.out k
      have E1 := Lib.hid fun wx hx => HE.out wx hx (cntL H k) lc
      have le := HF.out (cntL H k)
      have es := ES.out k
      have FIT := Lib.hid (show (L + 16) * (1 + 1) ≤ 140737488355328 by omega)
      have E4 := Lib.hid (E3.out k (by omega))
      generalize hY : E (cntL H k) = Y at *
      generalize hX : cntL H k = X at *
      have HES := Lib.hid es
      have LY := Lib.hid (show (Y.map v8).length = 16 * 1 by simp [le])
      rw [← hL]
      clear hso es hY hX hL
      go_wp2_with (first | ((with_reducible show wpList _ _ _ (Oper.mk _ (Op.load _ _) _ _ _ _ :: _) _ _); first | ((with_reducible apply wq_ldv hm); (exact rfl); infer_instance; (exact rfl); (focus ((repeat (first | exact .hd | assumption | apply Has.tl | apply Has.app)); done)); (focus (first | omega | (simp; omega) | (refine Nat.lt_of_lt_of_le (BitVec.isLt _) ?_; first | omega | (simp; done) | (simp; omega) | fail) | fail))) | ((with_reducible apply wq_ldW hm); (exact rfl); infer_instance; (exact rfl); (focus ((repeat (first | exact .hd | assumption | apply Has.tl | apply Has.app)); done)); (focus (first | rfl | omega | (simp; done) | (simp; omega) | fail))) | fail) | ((((with_reducible show wpList _ _ _ (Oper.mk _ (Op.store _ _ _) _ _ _ _ :: _) _ _); first | ((with_reducible apply wq_stv hm); (exact rfl); infer_instance; (exact rfl); (focus ((repeat (first | exact .hd | assumption | apply Swap.tl | apply Swap.app)); done)); infer_instance; (exact rfl); (focus (first | omega | (simp; omega) | (refine Nat.lt_of_lt_of_le (BitVec.isLt _) ?_; first | omega | (simp; done) | (simp; omega) | fail) | fail))) | ((with_reducible apply wq_stW hm); (exact rfl); infer_instance; (exact rfl); (exact rfl); (focus ((repeat (first | exact .hd | assumption | apply Swap.tl | apply Swap.app)); done)); (focus (first | rfl | omega | (simp; done) | (simp; omega) | fail)); (focus (first | rfl | omega | (simp; done) | (simp; omega) | fail)); (focus (first | exact one_map _ | (simp [one8, one32, one64]; done) | fail))) | fail)); clear hm; intro w hm) | ((first | ((with_reducible show wpList _ _ _ (Oper.mk _ (Op.alloc _) _ _ _ _ :: _) _ _); first | ((with_reducible apply wq_new hm); (exact rfl); infer_instance) | fail)); clear hm; (first | (have hx_ := g1; clear hx_; (first | (have hx_ := g2; clear hx_; (first | (have hx_ := g3; clear hx_; (first | (have hx_ := g4; clear hx_; (first | (have hx_ := g5; clear hx_; (first | (have hx_ := g6; clear hx_; (first | (have hx_ := g7; clear hx_; (first | (have hx_ := g8; clear hx_; (first | (have hx_ := g9; clear hx_; intro g10) | intro g9)) | intro g8)) | intro g7)) | intro g6)) | intro g5)) | intro g4)) | intro g3)) | intro g2)) | intro g1); intro w hm) | fail)
      rw [E4.out] at hm ⊢
      replace hm := hm.drop
      go_wp2_with (first | (go_at_call 56; (with_reducible refine (E1.out _ hm.x).mono ?_); rintro e_ w ⟨rfl, hx_⟩; replace hm := hm.ext hx_; clear hx_) | ((with_reducible show wpList _ _ _ (Oper.mk _ (Op.call _) _ _ _ _ :: _) _ _); refine wplO_app (M := M) (R := _) (ds := Y.map v8) (hm.perm (List.perm_middle.symm)) HSO.out rfl rfl rfl rfl Tryd.underlying22 LY.out (cells_b (hm.rdB (by repeat (first | exact Has.hd | assumption | apply Has.tl | apply Has.app)))) (one_map _) FIT.out ?_; clear hm; intro v1 w M1 hm hs1; obtain ⟨p_v1, c_v1, rfl⟩ := hs1.form; replace hm := hm.perm (List.perm_middle)) | ((((with_reducible show wpList _ _ _ (Oper.mk _ (Op.store _ _ _) _ _ _ _ :: _) _ _); first | ((with_reducible apply wq_stW hm); (exact rfl); infer_instance; (exact rfl); (exact rfl); (focus ((repeat (first | exact .hd | assumption | apply Swap.tl | apply Swap.app)); done)); (focus (first | rfl | omega | (simp; done) | (simp; omega) | fail)); (focus (first | rfl | omega | (simp; done) | (simp; omega) | fail)); (focus (first | exact one_map _ | (simp [one8, one32, one64]; done) | fail))) | fail)); clear hm; intro w hm) | ((first | ((with_reducible show wpList _ _ _ (Oper.mk _ (Op.alloc _) _ _ _ _ :: _) _ _); first | ((with_reducible apply wq_new hm); (exact rfl); infer_instance) | fail)); clear hm; (first | (have hx_ := g1; clear hx_; (first | (have hx_ := g2; clear hx_; (first | (have hx_ := g3; clear hx_; (first | (have hx_ := g4; clear hx_; (first | (have hx_ := g5; clear hx_; (first | (have hx_ := g6; clear hx_; (first | (have hx_ := g7; clear hx_; (first | (have hx_ := g8; clear hx_; (first | (have hx_ := g9; clear hx_; intro g10) | intro g9)) | intro g8)) | intro g7)) | intro g6)) | intro g5)) | intro g4)) | intro g3)) | intro g2)) | intro g1); intro w hm) | fail)
      go_roundw
      case rel => exact ⟨k + 1, M1, by have := HL.out; omega, by go_num, by rw [HES.out, List.map_append, show 16 * (k + 1) = L + 16 by have := HL.out; omega]; exact hs1, hm.drop⟩
      case measure => simp [intOf] <;> omega
    · have d1 : decide ((L : Int) < (n : Int)) = false := decide_eq_false (by omega)
      have d2 : ¬ (L : Int) < (n : Int) := by omega
      have hD := HU.out k (by unfold prfN; omega)
      have hso2 := HSO.out
      clear HSO
      rw [← hL]
      have hrd := slo_rdB hso2 hm
      obtain ⟨_, _, hv, hnc0, _, _⟩ := hso2.cells hm
      cases hv
      have HRD := Lib.hid hrd
      have hc1 : (n : Int) ≤ (c0 : Int) := by omega
      have hc2 : n ≤ c0 := by omega
      clear hrd hso hso2 hL
      go_wp2_with fail
      go_ret
      refine ⟨_, rfl, ⟨p0, c0, by rw [HN.out]; rfl, by rw [HN.out]; exact hc2, by rw [← hD]; exact HRD.out.take n⟩, hm.x⟩

end Go.Proofs.YtmgopjeaehmbfaaDoor
