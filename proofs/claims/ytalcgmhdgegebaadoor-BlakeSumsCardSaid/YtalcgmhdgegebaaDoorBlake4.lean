/-
  Layer 6: bytes written. Conditions: the program's first numbers and rows read as its text lays them.
-/
import Derived.Test.YtalcgmhdgegebaaDoorBlake3
namespace Go.Proofs.YtalcgmhdgegebaaDoor
open Go Go.RowKit
set_option maxRecDepth 100000
set_option linter.unusedVariables false
set_option linter.unusedSimpArgs false

instance elem8 : Elem Tryd.prog 5 1 1 := Elem.of (by kernel_rfl) (by omega)
/-- The cells of a hash of bytes so far, k of whose blocks are compressed. -/
def hashK (h0 : List (BitVec 64)) (d : List Byte) (k : Nat) (v : Value) (sz : Int) : List Value := hashC (chF h0 d k) (128 * k) v sz
/-- What is left of them, in these blocks. -/
def RestO (M : List Blk) (d : List Byte) (k : Nat) (v : Value) : Prop := SlO M 5 1 v (d.length - 128 * k) ((d.drop (128 * k)).map v8)
theorem RestO.rdB {M R N : List Blk} {d : List Byte} {k : Nat} {p : Option Addr} {n c : Nat} {w0 w : World} (h : RestO M d k (.slice p n c)) (hm : Own w0 w (N ++ (M ++ R))) : RdB w p (d.drop (128 * k)) := by
  obtain ⟨p', c', hv, _, _, h0, hc⟩ := SlO.cells h hm.dropN
  cases hv
  refine ⟨fun hl => h0 (by simpa using hl), fun i hi => ?_⟩
  obtain ⟨a, rfl, ha⟩ := hc i (v8 ((d.drop (128 * k)).getD i 0)) (by rw [List.getElem?_map, List.getElem?_eq_getElem hi, List.getD_eq_getElem?_getD, List.getElem?_eq_getElem hi]; rfl)
  exact ha
theorem RestO.len {M : List Blk} {d : List Byte} {k : Nat} {p : Option Addr} {n c : Nat} (h : RestO M d k (.slice p n c)) : n = d.length - 128 * k ∧ n ≤ c ∧ c ≤ maxLen := by
  rcases h.2 with ⟨h1, h2, _⟩ | ⟨g, o, cap, cur, h1, _, h2, h3, _⟩
  · cases h1; exact ⟨h2.symm, Nat.le_refl _, by simp⟩
  · cases h1; exact ⟨rfl, h2, h3⟩
theorem RestO.one {M : List Blk} {d : List Byte} {k : Nat} {v : Value} (h : RestO M d k v) : v.oneCell' = true ∧ v.cells = #[v] := by
  rcases h.2 with ⟨h1, _⟩ | ⟨g, o, cap, cur, h1, _⟩ <;> subst h1 <;> exact ⟨rfl, rfl⟩
theorem RestO.slice {M : List Blk} {d : List Byte} {k : Nat} {v : Value} (h : RestO M d k v) : ∃ p n c, v = .slice p n c := by
  rcases h.2 with ⟨h1, _⟩ | ⟨g, o, cap, cur, h1, _⟩ <;> exact ⟨_, _, _, h1⟩
/-- How long what is left is, as the world has it. -/
def restLen (g : Nat) (w : World) : Nat := match w.cell? ⟨g, 10, none⟩ with | some (.slice _ n _) => n | _ => 0
theorem restLen_is {g : Nat} {w : World} {p : Option Addr} {n c : Nat} (h : w.cell? ⟨g, 10, none⟩ = some (.slice p n c)) : restLen g w = n := by rw [restLen, h]
theorem hashK_rest {h0 : List (BitVec 64)} {d : List Byte} {k : Nat} {v : Value} {sz : Int} (hh : h0.length = 8) : (hashK h0 d k v sz)[10]? = some v := hashC_rest (chF_length h0 d hh k)
theorem hashK_size {h0 : List (BitVec 64)} {d : List Byte} {k : Nat} {v : Value} {sz : Int} (hh : h0.length = 8) : (hashK h0 d k v sz)[11]? = some (.int .i64 sz) := hashC_size (chF_length h0 d hh k)
theorem hashK_set {h0 : List (BitVec 64)} {d : List Byte} {k : Nat} {v v' : Value} {sz : Int} (hh : h0.length = 8) : (hashK h0 d k v sz).set 10 v' = hashK h0 d k v' sz := hashC_set_rest (chF_length h0 d hh k)
theorem hashK_length {h0 : List (BitVec 64)} {d : List Byte} {k : Nat} {v : Value} {sz : Int} (hh : h0.length = 8) : (hashK h0 d k v sz).length = 12 := hashC_length (chF_length h0 d hh k)
theorem hashK_append {h0 : List (BitVec 64)} {d b : List Byte} {k : Nat} {v : Value} {sz : Int} (hk : 128 * k ≤ d.length) : hashK h0 (d ++ b) k v sz = hashK h0 d k v sz := by rw [hashK, chF_append _ _ _ _ hk]; rfl
theorem cells_b {w : World} {p : Option Addr} {b : List Byte} (h : RdB w p b) : ∀ (j : Nat) (u : Value), (b.map v8)[j]? = some u → ∃ a, p = some a ∧ w.cell? (a.add j) = some u := by
  intro j u hj
  rw [List.getElem?_map] at hj
  obtain ⟨x, hx, rfl⟩ := Option.map_eq_some_iff.1 hj
  obtain ⟨hlt, hx'⟩ := List.getElem?_eq_some_iff.1 hx
  obtain ⟨a, rfl⟩ := Option.isSome_iff_exists.1 (h.1 (by omega))
  refine ⟨a, rfl, ?_⟩
  have := h.2 j hlt
  simp only [Option.getD_some] at this
  rw [this, List.getD_eq_getElem?_getD, hx]; rfl

set_option maxHeartbeats 2000000 in
theorem write_any (g : Nat) (h0 : List (BitVec 64)) (d : List Byte) (sz : Int) (b : List Byte) (p : Option Addr) (c : Nat) (hh : h0.length = 8) (hlen : d.length + b.length ≤ 70368744177664) (w0 w : World) (M R : List Blk) (v : Value) (hc : CoefB w0) (hb : RdB w p b)
    (hm : Own w0 w (⟨g, 101, hashK h0 d (nbk d.length) v sz⟩ :: (M ++ R))) (hsl : RestO M d (nbk d.length) v) :
    Calls Tryd.prog 33 #[.pointer (some ⟨g, 0, none⟩), .slice p b.length c] w fun e w' => e = .returned (.tuple #[]) ∧ ∃ v' M', Own w0 w' (⟨g, 101, hashK h0 (d ++ b) (nbk (d ++ b).length) v' sz⟩ :: (M' ++ R)) ∧ RestO M' (d ++ b) (nbk (d ++ b).length) v' := by
  have HC := Lib.hid hc
  have HH := Lib.hid hh
  have HB := Lib.hid hb
  have HS := Lib.hid hsl
  have l1 := hashK_length (d := d) (k := nbk d.length) (v := v) (sz := sz) hh
  have LEN := Lib.hid hlen
  have k0 := nbk_le d.length
  clear hc hh hb hsl hlen
  go_enter Tryd.func33, Tryd.ntmps33
  have FIT := Lib.hid (show (d.length - 128 * nbk d.length + b.length) * (1 + 1) ≤ 140737488355328 by have := LEN.out; omega)
  obtain ⟨D, hD⟩ : ∃ D, d ++ b = D := ⟨_, rfl⟩
  have lD : D.length = d.length + b.length := by rw [← hD, List.length_append]
  have hD46 : D.length ≤ 70368744177664 := by have := LEN.out; omega
  have HD := Lib.hid hD
  have hk0 : nbk d.length ≤ nbk D.length := nbk_mono (by omega)
  rw [hD]
  refine wp_scope_goto 0 (fun a_ w_ => ∃ (k : Nat) (v : Value) (M : List Blk) (u2 u3 u4 u5 u6 u7 u8 u9 u10 u11 u12 u13 u14 u15 u16 u17 u18 u19 u20 u21 u22 u23 u24 u25 u26 u27 u28 u29 u30 u31 u32 u33 u34 u35 : Value), a_ = { tmps := #[(.pointer (some ⟨g, 0, none⟩)), (.slice p b.length c), u2, u3, u4, u5, u6, u7, u8, u9, u10, u11, u12, u13, u14, u15, u16, u17, u18, u19, u20, u21, u22, u23, u24, u25, u26, u27, u28, u29, u30, u31, u32, u33, u34, u35], defers := [] } ∧ k ≤ nbk D.length ∧ Own w0 w_ (⟨g, 101, hashK h0 D k v sz⟩ :: (M ++ R)) ∧ RestO M D k v) (fun _ w_ => restLen g w_) rfl ?_ ?_
  · clear hm
    rintro a' w ⟨k, v, M, u2, u3, u4, u5, u6, u7, u8, u9, u10, u11, u12, u13, u14, u15, u16, u17, u18, u19, u20, u21, u22, u23, u24, u25, u26, u27, u28, u29, u30, u31, u32, u33, u34, u35, rfl, ⟨hk, hm, hsl⟩⟩
    obtain ⟨q, n, cap, rfl⟩ := hsl.slice
    obtain ⟨hn, hnc, hcm⟩ := hsl.len
    have hrl : restLen g w = n := restLen_is (by rw [row_cell (hm.row (by repeat (first | exact Has.hd | assumption | apply Has.tl)))]; exact hashK_rest HH.out)
    have HRL := Lib.hid hrl
    have lk := nbk_le D.length
    have HK := Lib.hid hk
    have HL := Lib.hid lk
    have HN := Lib.hid hn
    have LD := Lib.hid lD
    have HS2 := Lib.hid hsl
    have lh := hashK_length (d := D) (k := k) (v := .slice q n cap) (sz := sz) HH.out
    clear hrl hk lk hn lD hsl
    by_cases hle : n ≤ 128
    · have hke : k = nbk D.length := by
        have h1 := HK.out
        have h2 := HN.out
        rcases Nat.lt_or_ge k (nbk D.length) with h | h
        · have := nbk_lt _ k h; omega
        · omega
      have hd : decide ((n : Int) ≤ 128) = true := by simp; omega
      have hd2 : (n : Int) ≤ 128 := by omega
      go_wp2_with (first | ((with_reducible apply wq_ld1 hm); (exact rfl); infer_instance; (exact rfl); (focus ((repeat (first | exact .hd | assumption | apply Has.tl)); done)); (exact hashK_rest HH.out)) | ((with_reducible show wpList _ _ _ (Oper.mk _ (Op.load _ _) _ _ _ _ :: _) _ _); first | ((with_reducible apply wq_ldv hm); (exact rfl); infer_instance; (exact rfl); (focus ((repeat (first | exact .hd | assumption | apply Has.tl)); done)); (focus (first | omega | (simp; omega) | (refine Nat.lt_of_lt_of_le (BitVec.isLt _) ?_; first | omega | (simp; done) | (simp; omega) | fail) | fail))) | ((with_reducible apply wq_ldW hm); (exact rfl); infer_instance; (exact rfl); (focus ((repeat (first | exact .hd | assumption | apply Has.tl)); done)); (focus (first | rfl | omega | (simp; done) | (simp; omega) | fail))) | ((with_reducible apply wq_ld1 hm); (exact rfl); infer_instance; (exact rfl); (focus ((repeat (first | exact .hd | assumption | apply Has.tl)); done)); (exact rfl)) | fail) | ((((with_reducible show wpList _ _ _ (Oper.mk _ (Op.store _ _ _) _ _ _ _ :: _) _ _); first | ((with_reducible apply wq_stv hm); (exact rfl); infer_instance; (exact rfl); (focus ((repeat (first | exact .hd | assumption | apply Swap.tl)); done)); infer_instance; (exact rfl); (focus (first | omega | (simp; omega) | (refine Nat.lt_of_lt_of_le (BitVec.isLt _) ?_; first | omega | (simp; done) | (simp; omega) | fail) | fail))) | ((with_reducible apply wq_st8i hm); (exact rfl); infer_instance; (exact rfl); (exact rfl); (focus ((repeat (first | exact .hd | assumption | apply Swap.tl)); done)); (focus omega); (focus (first | omega | (simp; omega) | (refine Nat.lt_of_lt_of_le (BitVec.isLt _) ?_; first | omega | (simp; done) | (simp; omega) | fail) | fail))) | ((with_reducible apply wq_st64i hm); (exact rfl); infer_instance; (exact rfl); (exact rfl); (focus ((repeat (first | exact .hd | assumption | apply Swap.tl)); done)); (focus omega); (focus (first | omega | (simp; omega) | (refine Nat.lt_of_lt_of_le (BitVec.isLt _) ?_; first | omega | (simp; done) | (simp; omega) | fail) | fail))) | ((with_reducible apply wq_stW hm); (exact rfl); infer_instance; (exact rfl); (exact rfl); (focus ((repeat (first | exact .hd | assumption | apply Swap.tl)); done)); (focus (first | rfl | omega | (simp; done) | (simp; omega) | fail)); (focus (first | rfl | omega | (simp; done) | (simp; omega) | fail)); (focus (first | exact one_map _ | (simp [one8, one32, one64]; done) | fail))) | ((with_reducible apply wq_s1v (f := v32) hm); (exact rfl); infer_instance; (exact rfl); (exact rfl); infer_instance; (focus ((repeat (first | exact .hd | assumption | apply Swap.tl)); done)); (focus (first | omega | (simp; omega) | (refine Nat.lt_of_lt_of_le (BitVec.isLt _) ?_; first | omega | (simp; done) | (simp; omega) | fail) | fail))) | ((with_reducible apply wq_s1v (f := v8) hm); (exact rfl); infer_instance; (exact rfl); (exact rfl); infer_instance; (focus ((repeat (first | exact .hd | assumption | apply Swap.tl)); done)); (focus (first | omega | (simp; omega) | (refine Nat.lt_of_lt_of_le (BitVec.isLt _) ?_; first | omega | (simp; done) | (simp; omega) | fail) | fail))) | ((with_reducible apply wq_s1v (f := v64) hm); (exact rfl); infer_instance; (exact rfl); (exact rfl); infer_instance; (focus ((repeat (first | exact .hd | assumption | apply Swap.tl)); done)); (focus (first | omega | (simp; omega) | (refine Nat.lt_of_lt_of_le (BitVec.isLt _) ?_; first | omega | (simp; done) | (simp; omega) | fail) | fail))) | ((with_reducible apply wq_st1 hm); (exact rfl); infer_instance; (exact rfl); (exact rfl); (exact rfl); (exact rfl); (focus ((repeat (first | exact .hd | assumption | apply Swap.tl)); done)); (focus (first | omega | (simp; omega) | (refine Nat.lt_of_lt_of_le (BitVec.isLt _) ?_; first | omega | (simp; done) | (simp; omega) | fail) | fail))) | fail)); clear hm; intro w hm) | ((first | ((with_reducible show wpList _ _ _ (Oper.mk _ (Op.alloc _) _ _ _ _ :: _) _ _); first | ((with_reducible apply wq_new hm); (exact rfl); infer_instance) | fail) | ((with_reducible show wpList _ _ _ (Oper.mk _ (Op.box _ _) _ _ _ _ :: _) _ _); first | ((with_reducible apply wq_boxN hm); (exact rfl); (exact rfl)) | ((with_reducible apply wq_box1 hm); (exact rfl); (exact rfl); (exact rfl)) | fail)); clear hm; (first | (have hx_ := g1; clear hx_; (first | (have hx_ := g2; clear hx_; (first | (have hx_ := g3; clear hx_; (first | (have hx_ := g4; clear hx_; (first | (have hx_ := g5; clear hx_; (first | (have hx_ := g6; clear hx_; (first | (have hx_ := g7; clear hx_; (first | (have hx_ := g8; clear hx_; (first | (have hx_ := g9; clear hx_; intro g10) | intro g9)) | intro g8)) | intro g7)) | intro g6)) | intro g5)) | intro g4)) | intro g3)) | intro g2)) | intro g1); intro w hm) | fail)
      simp only [Exit.jump]
      refine bodyPost_ret (results_none rfl _ _ _) rfl ?_
      subst hke
      exact ⟨rfl, _, _, hm, HS2.out⟩
    · have hd : decide ((n : Int) ≤ 128) = false := by simp; omega
      have hd2 : ¬ (n : Int) ≤ 128 := by omega
      have hcap : 128 ≤ (cap : Int) := by omega
      have hc128 : ¬ cap = 128 := by omega
      have lh2 := hashK_length (d := D) (k := k + 1) (v := .slice q n cap) (sz := sz) HH.out
      have hn128 : (128 : Int) ≤ (n : Int) := by omega
      have hcap2 : (cap : Int) ≤ 9223372036854775807 := by unfold maxLen at hcm; omega
      have lb : (bkAt D k).length = 128 := by have := HN.out; unfold bkAt; rw [List.length_take, List.length_drop]; omega
      have hkl : k < nbk D.length := by
        rcases Nat.lt_or_ge k (nbk D.length) with h | h
        · exact h
        · have := nbk_ge D.length k h; have := HN.out; omega
      have CB := fun wx hx => hblock_any g (chF h0 D k) (128 * k) (.slice q n cap) sz (bkAt D k) q cap 128 false (chF_length h0 D HH.out k) (by omega) (by have := HL.out; have := hD46; omega) w0 wx (M ++ R) (fun w' N h => (HS2.out.rdB h).take 128) HC.out rfl hx
      rw [lb, show ((128 : Nat) : Int) = 128 from rfl] at CB
      have CB2 := Lib.hid CB
      obtain ⟨g', o, rfl⟩ : ∃ g' o, q = some ⟨g', o, none⟩ := by
        rcases HS2.out.2 with ⟨h1, h2, _⟩ | ⟨g', o, cap', cur, h1, _⟩
        · cases h1; omega
        · cases h1; exact ⟨_, _, rfl⟩
      clear CB lb
      go_wp2_with (first | ((with_reducible apply wq_ld1 hm); (exact rfl); infer_instance; (exact rfl); (focus ((repeat (first | exact .hd | assumption | apply Has.tl)); done)); (exact hashK_rest HH.out)) | (go_at_call 62; (with_reducible refine (CB2.out _ hm).mono ?_); clear hm; rintro e_ w ⟨rfl, hm⟩; replace hm : Own w0 w (⟨g, 101, hashK h0 D (k + 1) (.slice (some ⟨g', o, none⟩) n cap) sz⟩ :: (M ++ R)) := hm) | ((with_reducible show wpList _ _ _ (Oper.mk _ (Op.load _ _) _ _ _ _ :: _) _ _); first | ((with_reducible apply wq_ldv hm); (exact rfl); infer_instance; (exact rfl); (focus ((repeat (first | exact .hd | assumption | apply Has.tl)); done)); (focus (first | omega | (simp; omega) | (refine Nat.lt_of_lt_of_le (BitVec.isLt _) ?_; first | omega | (simp; done) | (simp; omega) | fail) | fail))) | ((with_reducible apply wq_ldW hm); (exact rfl); infer_instance; (exact rfl); (focus ((repeat (first | exact .hd | assumption | apply Has.tl)); done)); (focus (first | rfl | omega | (simp; done) | (simp; omega) | fail))) | ((with_reducible apply wq_ld1 hm); (exact rfl); infer_instance; (exact rfl); (focus ((repeat (first | exact .hd | assumption | apply Has.tl)); done)); (exact rfl)) | fail) | ((((with_reducible show wpList _ _ _ (Oper.mk _ (Op.store _ _ _) _ _ _ _ :: _) _ _); first | ((with_reducible apply wq_stv hm); (exact rfl); infer_instance; (exact rfl); (focus ((repeat (first | exact .hd | assumption | apply Swap.tl)); done)); infer_instance; (exact rfl); (focus (first | omega | (simp; omega) | (refine Nat.lt_of_lt_of_le (BitVec.isLt _) ?_; first | omega | (simp; done) | (simp; omega) | fail) | fail))) | ((with_reducible apply wq_st8i hm); (exact rfl); infer_instance; (exact rfl); (exact rfl); (focus ((repeat (first | exact .hd | assumption | apply Swap.tl)); done)); (focus omega); (focus (first | omega | (simp; omega) | (refine Nat.lt_of_lt_of_le (BitVec.isLt _) ?_; first | omega | (simp; done) | (simp; omega) | fail) | fail))) | ((with_reducible apply wq_st64i hm); (exact rfl); infer_instance; (exact rfl); (exact rfl); (focus ((repeat (first | exact .hd | assumption | apply Swap.tl)); done)); (focus omega); (focus (first | omega | (simp; omega) | (refine Nat.lt_of_lt_of_le (BitVec.isLt _) ?_; first | omega | (simp; done) | (simp; omega) | fail) | fail))) | ((with_reducible apply wq_stW hm); (exact rfl); infer_instance; (exact rfl); (exact rfl); (focus ((repeat (first | exact .hd | assumption | apply Swap.tl)); done)); (focus (first | rfl | omega | (simp; done) | (simp; omega) | fail)); (focus (first | rfl | omega | (simp; done) | (simp; omega) | fail)); (focus (first | exact one_map _ | (simp [one8, one32, one64]; done) | fail))) | ((with_reducible apply wq_s1v (f := v32) hm); (exact rfl); infer_instance; (exact rfl); (exact rfl); infer_instance; (focus ((repeat (first | exact .hd | assumption | apply Swap.tl)); done)); (focus (first | omega | (simp; omega) | (refine Nat.lt_of_lt_of_le (BitVec.isLt _) ?_; first | omega | (simp; done) | (simp; omega) | fail) | fail))) | ((with_reducible apply wq_s1v (f := v8) hm); (exact rfl); infer_instance; (exact rfl); (exact rfl); infer_instance; (focus ((repeat (first | exact .hd | assumption | apply Swap.tl)); done)); (focus (first | omega | (simp; omega) | (refine Nat.lt_of_lt_of_le (BitVec.isLt _) ?_; first | omega | (simp; done) | (simp; omega) | fail) | fail))) | ((with_reducible apply wq_s1v (f := v64) hm); (exact rfl); infer_instance; (exact rfl); (exact rfl); infer_instance; (focus ((repeat (first | exact .hd | assumption | apply Swap.tl)); done)); (focus (first | omega | (simp; omega) | (refine Nat.lt_of_lt_of_le (BitVec.isLt _) ?_; first | omega | (simp; done) | (simp; omega) | fail) | fail))) | ((with_reducible apply wq_st1 hm); (exact rfl); infer_instance; (exact rfl); (exact rfl); (exact rfl); (exact rfl); (focus ((repeat (first | exact .hd | assumption | apply Swap.tl)); done)); (focus (first | omega | (simp; omega) | (refine Nat.lt_of_lt_of_le (BitVec.isLt _) ?_; first | omega | (simp; done) | (simp; omega) | fail) | fail))) | fail)); clear hm; intro w hm) | ((first | ((with_reducible show wpList _ _ _ (Oper.mk _ (Op.alloc _) _ _ _ _ :: _) _ _); first | ((with_reducible apply wq_new hm); (exact rfl); infer_instance) | fail) | ((with_reducible show wpList _ _ _ (Oper.mk _ (Op.box _ _) _ _ _ _ :: _) _ _); first | ((with_reducible apply wq_boxN hm); (exact rfl); (exact rfl)) | ((with_reducible apply wq_box1 hm); (exact rfl); (exact rfl); (exact rfl)) | fail)); clear hm; (first | (have hx_ := g1; clear hx_; (first | (have hx_ := g2; clear hx_; (first | (have hx_ := g3; clear hx_; (first | (have hx_ := g4; clear hx_; (first | (have hx_ := g5; clear hx_; (first | (have hx_ := g6; clear hx_; (first | (have hx_ := g7; clear hx_; (first | (have hx_ := g8; clear hx_; (first | (have hx_ := g9; clear hx_; intro g10) | intro g9)) | intro g8)) | intro g7)) | intro g6)) | intro g5)) | intro g4)) | intro g3)) | intro g2)) | intro g1); intro w hm) | fail)
      have hm2 : Own w0 w (⟨g, 101, hashK h0 D (k + 1) (.slice (some ⟨g', o + 128, none⟩) (n - 128) (cap - 128)) sz⟩ :: (M ++ R)) := by
        rw [hashK_set HH.out] at hm; exact hm
      have hs3 : RestO M D (k + 1) (.slice (some ⟨g', o + 128, none⟩) (n - 128) (cap - 128)) := by
        have h1 := HN.out
        have h2 : SlO M 5 1 (.slice (some ⟨g', o, none⟩) n cap) n ((D.drop (128 * k)).map v8) := by have := HS2.out; unfold RestO at this; rwa [← h1] at this
        have h3 := h2.behind (k := 128) (by omega)
        unfold RestO
        rw [show D.length - 128 * (k + 1) = n - 128 from by omega, show 128 * (k + 1) = 128 * k + 128 from by omega, ← List.drop_drop, List.map_drop]
        exact h3
      have hrl : restLen g w = n - 128 := restLen_is (by rw [row_cell (hm2.row (by repeat (first | exact Has.hd | assumption | apply Has.tl)))]; exact hashK_rest HH.out)
      have HRL2 := Lib.hid hrl
      clear hrl hm
      go_step3
      exact ⟨rfl, ⟨_, _, _, _, _, _, _, _, _, _, _, _, _, _, _, _, _, _, _, _, _, _, _, _, _, _, _, _, _, _, _, _, _, _, _, _, _, rfl, ⟨hkl, hm2, hs3⟩⟩, by rw [HRL.out, HRL2.out]; omega⟩
  · intro hp
    go_wp2_with (first | ((with_reducible apply wq_ld1 hm); (exact rfl); infer_instance; (exact rfl); (focus ((repeat (first | exact .hd | assumption | apply Has.tl)); done)); (exact hashK_rest HH.out)) | ((with_reducible show wpList _ _ _ (Oper.mk _ (Op.call _) _ _ _ _ :: _) _ _); refine wplO_app (M := M) (R := ⟨g, 101, hashK h0 d (nbk d.length) v sz⟩ :: R) (ds := b.map v8) (hm.perm (List.perm_middle.symm)) HS.out rfl rfl rfl rfl Tryd.underlying53 (by simp) (cells_b HB.out) (one_map _) FIT.out ?_; clear hm; intro v1 w M1 hm hs1; obtain ⟨p_v1, c_v1, rfl⟩ := hs1.form; replace hm := hm.perm (List.perm_middle)) | ((with_reducible show wpList _ _ _ (Oper.mk _ (Op.load _ _) _ _ _ _ :: _) _ _); first | ((with_reducible apply wq_ldv hm); (exact rfl); infer_instance; (exact rfl); (focus ((repeat (first | exact .hd | assumption | apply Has.tl)); done)); (focus (first | omega | (simp; omega) | (refine Nat.lt_of_lt_of_le (BitVec.isLt _) ?_; first | omega | (simp; done) | (simp; omega) | fail) | fail))) | ((with_reducible apply wq_ldW hm); (exact rfl); infer_instance; (exact rfl); (focus ((repeat (first | exact .hd | assumption | apply Has.tl)); done)); (focus (first | rfl | omega | (simp; done) | (simp; omega) | fail))) | ((with_reducible apply wq_ld1 hm); (exact rfl); infer_instance; (exact rfl); (focus ((repeat (first | exact .hd | assumption | apply Has.tl)); done)); (exact rfl)) | fail) | ((((with_reducible show wpList _ _ _ (Oper.mk _ (Op.store _ _ _) _ _ _ _ :: _) _ _); first | ((with_reducible apply wq_stv hm); (exact rfl); infer_instance; (exact rfl); (focus ((repeat (first | exact .hd | assumption | apply Swap.tl)); done)); infer_instance; (exact rfl); (focus (first | omega | (simp; omega) | (refine Nat.lt_of_lt_of_le (BitVec.isLt _) ?_; first | omega | (simp; done) | (simp; omega) | fail) | fail))) | ((with_reducible apply wq_st8i hm); (exact rfl); infer_instance; (exact rfl); (exact rfl); (focus ((repeat (first | exact .hd | assumption | apply Swap.tl)); done)); (focus omega); (focus (first | omega | (simp; omega) | (refine Nat.lt_of_lt_of_le (BitVec.isLt _) ?_; first | omega | (simp; done) | (simp; omega) | fail) | fail))) | ((with_reducible apply wq_st64i hm); (exact rfl); infer_instance; (exact rfl); (exact rfl); (focus ((repeat (first | exact .hd | assumption | apply Swap.tl)); done)); (focus omega); (focus (first | omega | (simp; omega) | (refine Nat.lt_of_lt_of_le (BitVec.isLt _) ?_; first | omega | (simp; done) | (simp; omega) | fail) | fail))) | ((with_reducible apply wq_stW hm); (exact rfl); infer_instance; (exact rfl); (exact rfl); (focus ((repeat (first | exact .hd | assumption | apply Swap.tl)); done)); (focus (first | rfl | omega | (simp; done) | (simp; omega) | fail)); (focus (first | rfl | omega | (simp; done) | (simp; omega) | fail)); (focus (first | exact one_map _ | (simp [one8, one32, one64]; done) | fail))) | ((with_reducible apply wq_s1v (f := v32) hm); (exact rfl); infer_instance; (exact rfl); (exact rfl); infer_instance; (focus ((repeat (first | exact .hd | assumption | apply Swap.tl)); done)); (focus (first | omega | (simp; omega) | (refine Nat.lt_of_lt_of_le (BitVec.isLt _) ?_; first | omega | (simp; done) | (simp; omega) | fail) | fail))) | ((with_reducible apply wq_s1v (f := v8) hm); (exact rfl); infer_instance; (exact rfl); (exact rfl); infer_instance; (focus ((repeat (first | exact .hd | assumption | apply Swap.tl)); done)); (focus (first | omega | (simp; omega) | (refine Nat.lt_of_lt_of_le (BitVec.isLt _) ?_; first | omega | (simp; done) | (simp; omega) | fail) | fail))) | ((with_reducible apply wq_s1v (f := v64) hm); (exact rfl); infer_instance; (exact rfl); (exact rfl); infer_instance; (focus ((repeat (first | exact .hd | assumption | apply Swap.tl)); done)); (focus (first | omega | (simp; omega) | (refine Nat.lt_of_lt_of_le (BitVec.isLt _) ?_; first | omega | (simp; done) | (simp; omega) | fail) | fail))) | ((with_reducible apply wq_st1 hm); (exact rfl); infer_instance; (exact rfl); (exact rfl); (exact rfl); (exact rfl); (focus ((repeat (first | exact .hd | assumption | apply Swap.tl)); done)); (focus (first | omega | (simp; omega) | (refine Nat.lt_of_lt_of_le (BitVec.isLt _) ?_; first | omega | (simp; done) | (simp; omega) | fail) | fail))) | fail)); clear hm; intro w hm) | ((first | ((with_reducible show wpList _ _ _ (Oper.mk _ (Op.alloc _) _ _ _ _ :: _) _ _); first | ((with_reducible apply wq_new hm); (exact rfl); infer_instance) | fail) | ((with_reducible show wpList _ _ _ (Oper.mk _ (Op.box _ _) _ _ _ _ :: _) _ _); first | ((with_reducible apply wq_boxN hm); (exact rfl); (exact rfl)) | ((with_reducible apply wq_box1 hm); (exact rfl); (exact rfl); (exact rfl)) | fail)); clear hm; (first | (have hx_ := g1; clear hx_; (first | (have hx_ := g2; clear hx_; (first | (have hx_ := g3; clear hx_; (first | (have hx_ := g4; clear hx_; (first | (have hx_ := g5; clear hx_; (first | (have hx_ := g6; clear hx_; (first | (have hx_ := g7; clear hx_; (first | (have hx_ := g8; clear hx_; (first | (have hx_ := g9; clear hx_; intro g10) | intro g9)) | intro g8)) | intro g7)) | intro g6)) | intro g5)) | intro g4)) | intro g3)) | intro g2)) | intro g1); intro w hm) | fail)
    have hm2 : Own w0 w (⟨g, 101, hashK h0 d (nbk d.length) (.slice p_v1 (d.length - 128 * nbk d.length + b.length) c_v1) sz⟩ :: (M1 ++ R)) := by
      rw [hashK_set HH.out] at hm; exact hm
    rw [← hashK_append (b := b) k0, HD.out] at hm2
    have hs2 : RestO M1 D (nbk d.length) (.slice p_v1 (d.length - 128 * nbk d.length + b.length) c_v1) := by
      unfold RestO
      rw [← HD.out, List.drop_append_of_le_length k0, List.map_append, List.length_append, show d.length + b.length - 128 * nbk d.length = d.length - 128 * nbk d.length + b.length from by omega]
      exact hs1
    go_step3
    rename_i hK
    exact hK _ _ (hp _ _ ⟨_, _, _, _, _, _, _, _, _, _, _, _, _, _, _, _, _, _, _, _, _, _, _, _, _, _, _, _, _, _, _, _, _, _, _, _, _, rfl, ⟨hk0, hm2, hs2⟩⟩)

end Go.Proofs.YtalcgmhdgegebaaDoor
