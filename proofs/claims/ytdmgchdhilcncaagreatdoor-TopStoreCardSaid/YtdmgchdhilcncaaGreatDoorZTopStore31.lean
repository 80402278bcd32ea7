/-
  Layers 17 to 25 and the top, walked. Conditions: those written in each theorem.
-/
import Derived.Test.YtdmgchdhilcncaaGreatDoorZTopStore0
import Derived.Test.YtdmgchdhilcncaaGreatDoorZTopStore30
import Derived.Test.YtdmgchdhilcncaaGreatDoorZTopStore7
import Derived.ProofKit
import Derived.LaidMore
import Derived.OpenShut
import Derived.Stop.Joined
import Derived.Test.YtdmgchdhilcncaaGreatDoorRows
import Derived.Test.YtdmgchdhilcncaaGreatDoorZTopStore10
set_option linter.unusedSimpArgs false
set_option linter.unusedVariables false
namespace Go.Proofs.YtdmgchdhilcncaaGreatDoor
open Go Go.RowKit
set_option maxRecDepth 100000
set_option maxHeartbeats 4000000 in
theorem alike_any (g gt gc gs g' gt' gc' gs' : Nat) (al : Int) (ld ld' : Value) (st : List Byte) (hl : st.length = 80) (w0 : World) (h1 : Row w0 g 53 (volC gt al gc gs ld)) (h2 : RdB w0 (some ⟨gs, 0, none⟩) st) (h3 : Row w0 g' 53 (volC gt' al gc' gs' ld')) (h4 : RdB w0 (some ⟨gs', 0, none⟩) st) :
   Gives Tryz.prog 6 #[.pointer (some ⟨g, 0, none⟩), .pointer (some ⟨g', 0, none⟩)] w0 (.bool true) := by
 unfold Gives
 have R1 := Lib.hid fun (k : Nat) (hk : k < 4) (w : World) (hx : Ext w0 w) => vraw_any g gt gc gs k al ld st hl hk w (row_ext h1 hx) (h2.ext hx)
 have R2 := Lib.hid fun (k : Nat) (hk : k < 4) (w : World) (hx : Ext w0 w) => vraw_any g' gt' gc' gs' k al ld' st hl hk w (row_ext h3 hx) (h4.ext hx)
 have LP := Lib.hid fun k (hk : k < 4) => (show ((st.drop (k * 20)).take 20).length = 20 from by simp only [List.length_take, List.length_drop]; omega)
 have hx := Ext.refl w0
 clear h1 h2 h3 h4 hl
 go_enter Tryz.func6, Tryz.ntmps6
 go_wp2_with fail
 go_loopw [5] (fun i wr => ∃ k : Nat, k ≤ 4 ∧ i = .int .i64 (k : Int) ∧ Ext w0 wr) (fun i _ => 4 - (intOf i).toNat)
 case atStart => exact ⟨0, by omega, rfl, hx⟩
 case round =>
   obtain ⟨k, hk, rfl, hx⟩ := hrel
   by_cases hlt : k < 4
   · have hd1 : decide ((k : Int) < 4) = true := decide_eq_true (by omega)
     have hd2 : (k : Int) < 4 := by omega
     have Q1 := Lib.hid (R1.out k hlt)
     have Q2 := Lib.hid (R2.out k hlt)
     have LX := LP.out k hlt
     obtain ⟨X, hX⟩ : ∃ x, x = (st.drop (k * 20)).take 20 := ⟨_, rfl⟩
     rw [← hX] at Q1 Q2 LX
     clear hX
     go_wp2_with fail
     refine (Q1.out _ hx).mono ?_
     rintro e_ w ⟨p1, c1, rfl, hr1, hx1⟩
     replace hx := hx.trans hx1
     clear hx1
     go_wp2_with fail
     refine (Q2.out _ hx).mono ?_
     rintro e_ w ⟨p2, c2, rfl, hr2, hx2⟩
     have hr3 := hr1.ext hx2
     have s1 := conv_str p1 X c1 w hr3
     have s2 := conv_str p2 X c2 w hr2
     rw [LX] at s1 s2
     have hx3 := hx.trans hx2
     clear hx2 hr1 hx
     go_wp2_with fail
     go_roundw
     case rel => exact ⟨k + 1, by omega, by go_num, hx3⟩
     case measure => simp [intOf] <;> omega
   · obtain rfl : k = 4 := by omega
     have hd1 : decide (((4 : Nat) : Int) < 4) = false := by decide
     go_wp2_with fail
     go_ret
     exact ⟨rfl, hx⟩
def secO (st : List Byte) (k : Nat) : List Byte := (st.drop (k * 20)).take 20
theorem secO_all (a b : List Byte) (ha : a.length = 80) (hb : b.length = 80) (h : ∀ k, k < 4 → secO a k = secO b k) : a = b := by
 have e : ∀ x : List Byte, x.length = 80 → x = secO x 0 ++ (secO x 1 ++ (secO x 2 ++ secO x 3)) := fun x hx => by
   have h3 : x.drop 60 = secO x 3 := by rw [secO, List.take_of_length_le (by rw [List.length_drop]; omega)]
   have h2 : x.drop 40 = secO x 2 ++ x.drop 60 := by rw [secO]; conv => lhs; rw [← List.take_append_drop 20 (x.drop 40)]; rw [List.drop_drop]
   have h1 : x.drop 20 = secO x 1 ++ x.drop 40 := by rw [secO]; conv => lhs; rw [← List.take_append_drop 20 (x.drop 20)]; rw [List.drop_drop]
   have h0 : x = secO x 0 ++ x.drop 20 := by rw [secO]; conv => lhs; rw [← List.take_append_drop 20 x]
                                             rfl
   rw [← h3, ← h2, ← h1, ← h0]
 rw [e a ha, e b hb, h 0 (by omega), h 1 (by omega), h 2 (by omega), h 3 (by omega)]
theorem secO_put (st x : List Byte) (n k : Nat) (hl : st.length = 80) (hx : x.length = 20) (hn : n < 4) (hk : k < 4) : secO (stP st (n * 20) x) k = if k = n then x else secO st k := by
 apply List.ext_getElem?
 intro i
 have l1 : (stP st (n * 20) x).length = 80 := (stP_length _ _ _ (by omega)).trans hl
 have l2 : (st.take (n * 20)).length = n * 20 := by rw [List.length_take]; omega
 by_cases hi : i < 20
 · rw [secO, List.getElem?_take_of_lt hi, List.getElem?_drop, stP, List.append_assoc]
   by_cases h1 : k = n
   · subst h1
     rw [if_pos rfl, List.getElem?_append_right (by omega), l2, List.getElem?_append_left (by omega)]
     congr 1; omega
   · rw [if_neg h1, secO, List.getElem?_take_of_lt hi, List.getElem?_drop]
     rcases Nat.lt_or_gt_of_ne h1 with h2 | h2
     · rw [List.getElem?_append_left (by omega), List.getElem?_take_of_lt (by omega)]
     · rw [List.getElem?_append_right (by omega), l2, List.getElem?_append_right (by omega), List.getElem?_drop]
       congr 1; omega
 · rw [List.getElem?_eq_none (by rw [secO, List.length_take]; omega), List.getElem?_eq_none (by split; omega; rw [secO, List.length_take]; omega)]
theorem secO_length (st : List Byte) (k : Nat) (hl : st.length = 80) (hk : k < 4) : (secO st k).length = 20 := by
 rw [secO, List.length_take, List.length_drop]; omega
def eN4 (al : Int) (key : List Byte) (k : Nat) (b : List Byte) : List Byte := wideE al key (twL k) b
theorem secO_turn (al : Int) (key st : List Byte) (n k : Nat) (hl : st.length = 80) (hn : n < 4) (hk : k < 4) : secO (stT al key st n) k = if k = n then eN4 al key n (secO st n) else secO st k := by
 have h := secO_length st n hl hn
 exact secO_put st _ n k hl (by rw [wideE_length _ _ _ _ (by rw [show ((st.drop (n * 20)).take 20) = secO st n from rfl, h]; omega)]; exact h) hn hk
theorem secO_write (al : Int) (key st b : List Byte) (n k : Nat) (hl : st.length = 80) (hb : b.length = 20) (hn : n < 4) (hk : k < 4) : secO (stW al key st n b) k = if k = n then eN4 al key n b else secO st k := by
 rw [stW, secO_turn al key _ n k ((stP_length _ _ _ (by omega)).trans hl) hn hk, secO_put st b n n hl hb hn hn, if_pos rfl, secO_put st b n k hl hb hn hk]
 split <;> rfl
theorem secO_zeros (k : Nat) (hk : k < 4) : secO (zeros 80) k = zeros 20 := by
 match k, hk with
 | 0, _ => rfl
 | 1, _ => rfl
 | 2, _ => rfl
 | 3, _ => rfl
theorem secO_F (al : Int) (key : List Byte) (m k : Nat) (hm : m ≤ 4) (hk : k < 4) : secO (stF al key m) k = if k < m then eN4 al key k (zeros 20) else zeros 20 := by
 induction m with
 | zero => rw [if_neg (by omega)]; exact secO_zeros k hk
 | succ m ih =>
   rw [stF, secO_turn al key _ m k (stF_length al key m (by omega)) (by omega) hk]
   by_cases h : k = m
   · subst h
     rw [if_pos rfl, if_pos (by omega), ih (by omega), if_neg (by omega)]
   · rw [if_neg h, ih (by omega)]
     by_cases h2 : k < m
     · rw [if_pos h2, if_pos (by omega)]
     · rw [if_neg h2, if_neg (by omega)]
def lwF (ws : List (List Byte)) (n : Nat) : Nat → Option (List Byte)
 | 0 => none
 | k + 1 => if secN (ws.getD k []) = n then some (ws.getD k []) else lwF ws n k
def lwW (ws : List (List Byte)) (n : Nat) : Option (List Byte) := lwF ws n ws.length
def eW (al : Int) (key : List Byte) (k : Nat) : Option (List Byte) → List Byte
 | none => eN4 al key k (zeros 20)
 | some s => eN4 al key k (s.drop 1)
theorem secO_fil (al : Int) (key : List Byte) (ws : List (List Byte)) (h : ∀ s ∈ ws, s.length = 21) (m k : Nat) (hm : m ≤ ws.length) (hk : k < 4) : secO (filF al key ws m) k = eW al key k (lwF ws k m) := by
 induction m with
 | zero => rw [filF, secO_F al key 4 k (by omega) hk, if_pos hk]; rfl
 | succ m ih =>
   have hs : (ws.getD m []).length = 21 := by
     rw [List.getD_eq_getElem?_getD, List.getElem?_eq_getElem (by omega)]; exact h _ (List.getElem_mem _)
   rw [filF, secO_write al key _ _ _ k (filF_length al key ws h m (by omega)) (by rw [List.length_drop]; omega) (secN_lt _) hk, lwF]
   by_cases h1 : k = secN (ws.getD m [])
   · rw [if_pos h1, if_pos h1.symm, ← h1]; rfl
   · rw [if_neg h1, if_neg (fun h2 => h1 h2.symm), ih (by omega)]
theorem fil_same (al : Int) (key : List Byte) (ws ls : List (List Byte)) (h : ∀ s ∈ ws, s.length = 21) (h2 : ∀ s ∈ ls, s.length = 21) (he : ∀ k, k < 4 → lwW ls k = lwW ws k) : filF al key ls ls.length = filF al key ws ws.length :=
 secO_all _ _ (filF_length al key ls h2 _ (Nat.le_refl _)) (filF_length al key ws h _ (Nat.le_refl _)) fun k hk => by
   rw [secO_fil al key ls h2 _ k (Nat.le_refl _) hk, secO_fil al key ws h _ k (Nat.le_refl _) hk]
   exact congrArg _ (he k hk)
theorem lwF_none (ws : List (List Byte)) (n m : Nat) (h : ∀ j, j < m → secN (ws.getD j []) ≠ n) : lwF ws n m = none := by
 induction m with
 | zero => rfl
 | succ m ih => rw [lwF, if_neg (h m (by omega)), ih fun j hj => h j (by omega)]
theorem lwF_some (ws : List (List Byte)) (n i m : Nat) (hi : i < m) (hs : secN (ws.getD i []) = n) (h : ∀ j, i < j → j < m → secN (ws.getD j []) ≠ n) : lwF ws n m = some (ws.getD i []) := by
 induction m with
 | zero => omega
 | succ m ih =>
   rw [lwF]
   by_cases h1 : i = m
   · subst h1; rw [if_pos hs]
   · rw [if_neg (h m (by omega) (by omega)), ih (by omega) fun j a b => h j a (by omega)]
theorem lwF_app (ls : List (List Byte)) (s : List Byte) (n m : Nat) (hm : m ≤ ls.length) : lwF (ls ++ [s]) n m = lwF ls n m := by
 induction m with
 | zero => rfl
 | succ m ih =>
   have : (ls ++ [s]).getD m [] = ls.getD m [] := by
     rw [List.getD_eq_getElem?_getD, List.getD_eq_getElem?_getD, List.getElem?_append_left (by omega)]
   rw [lwF, lwF, this, ih (by omega)]
theorem lwW_app (ls : List (List Byte)) (s : List Byte) (n : Nat) : lwW (ls ++ [s]) n = if secN s = n then some s else lwW ls n := by
 have : (ls ++ [s]).getD ls.length [] = s := by
   rw [List.getD_eq_getElem?_getD, List.getElem?_append_right (Nat.le_refl _), Nat.sub_self]; rfl
 rw [lwW, List.length_append, List.length_singleton, lwF, this, lwF_app ls s n _ (Nat.le_refl _)]
 rfl
def TopI (ws : List (List Byte)) (x : Int) (k : Nat) (ls : List (List Byte)) : Prop :=
 k = ls.length ∧ (∀ s ∈ ls, s.length = 21) ∧ (k : Int) ≤ 3 - x ∧ -1 ≤ x ∧ x ≤ 3 ∧ (∀ n : Nat, n < 4 → x < (n : Int) → lwW ls n = lwW ws n) ∧ ∀ n : Nat, (n : Int) ≤ x → lwW ls n = none
theorem TopI.start (ws : List (List Byte)) : TopI ws 3 0 [] :=
 ⟨rfl, by simp, by omega, by omega, by omega, fun n h1 h2 => by omega, fun n _ => rfl⟩
theorem TopI.skip {ws ls : List (List Byte)} {x : Int} {k : Nat} (h : TopI ws x k ls) (hx : 0 ≤ x) (hn : ∀ j : Nat, j < ws.length → (secN (ws.getD j []) : Int) ≠ x) : TopI ws (x - 1) k ls := by
 obtain ⟨h1, h2, h3, h4, h5, h6, h7⟩ := h
 refine ⟨h1, h2, by omega, by omega, by omega, fun n a b => ?_, fun n a => h7 n (by omega)⟩
 by_cases hq : (n : Int) = x
 · rw [h7 n (by omega), lwW, lwF_none ws n _ fun j hj e => hn j hj (by omega)]
 · exact h6 n a (by omega)
theorem TopI.add {ws ls : List (List Byte)} {x : Int} {k : Nat} (h : TopI ws x k ls) (hx : 0 ≤ x) (i : Nat) (hi : i < ws.length) (hl : (ws.getD i []).length = 21) (hs : (secN (ws.getD i []) : Int) = x) (hn : ∀ j : Nat, i < j → j < ws.length → (secN (ws.getD j []) : Int) ≠ x) : TopI ws (x - 1) (k + 1) (ls ++ [ws.getD i []]) := by
 obtain ⟨h1, h2, h3, h4, h5, h6, h7⟩ := h
 refine ⟨by rw [List.length_append, List.length_singleton, h1], fun s hs => ?_, by omega, by omega, by omega, fun n a b => ?_, fun n a => ?_⟩
 · rcases List.mem_append.1 hs with h | h
   · exact h2 s h
   · rw [List.mem_singleton.1 h]; exact hl
 · rw [lwW_app]
   by_cases hq : (n : Int) = x
   · rw [if_pos (by omega), lwW, lwF_some ws n i _ hi (by omega) fun j a b e => hn j a b (by omega)]
   · rw [if_neg (by omega)]; exact h6 n a (by omega)
 · rw [lwW_app, if_neg (by omega)]; exact h7 n (by omega)
theorem TopI.all {ws ls : List (List Byte)} {x : Int} {k : Nat} (h : TopI ws x k ls) (hx : ¬ 0 ≤ x) : ∀ n, n < 4 → lwW ls n = lwW ws n := fun n hn => h.2.2.2.2.2.1 n hn (by omega)
theorem TopI.len {ws ls : List (List Byte)} {x : Int} {k : Nat} (h : TopI ws x k ls) : k = ls.length ∧ k ≤ 4 := ⟨h.1, by have := h.2.2.1; have := h.2.2.2.1; omega⟩
instance elemSec : Elem Tryz.prog 31 21 21 := Elem.of (by kernel_rfl) (by omega)
theorem bs_secL (a0 a1 a2 a3 a4 a5 a6 a7 a8 a9 a10 a11 a12 a13 a14 a15 a16 a17 a18 a19 a20 : Byte) (w : World) : (Instr.buildSlice 25 1 #[(0, A8 [a0, a1, a2, a3, a4, a5, a6, a7, a8, a9, a10, a11, a12, a13, a14, a15, a16, a17, a18, a19, a20])]).run Tryz.prog w = .ok (.slice (some ⟨w.heap.size, 0, none⟩) 1 1) (w.alloc (.cells (catV [[a0, a1, a2, a3, a4, a5, a6, a7, a8, a9, a10, a11, a12, a13, a14, a15, a16, a17, a18, a19, a20]]).toArray 31)) := by kernel_rfl
theorem bs_sec (s : List Byte) (h : s.length = 21) (w : World) : (Instr.buildSlice 25 1 #[(0, A8 s)]).run Tryz.prog w = .ok (.slice (some ⟨w.heap.size, 0, none⟩) 1 1) (w.alloc (.cells (catV [s]).toArray 31)) := by
 match s, h with
 | [a0, a1, a2, a3, a4, a5, a6, a7, a8, a9, a10, a11, a12, a13, a14, a15, a16, a17, a18, a19, a20], _ => exact bs_secL a0 a1 a2 a3 a4 a5 a6 a7 a8 a9 a10 a11 a12 a13 a14 a15 a16 a17 a18 a19 a20 w
theorem sec_all {w : World} {A : Addr} {ws : List (List Byte)} (h : RdK w (some A) 21 ws) (k : Nat) (hk : k < ws.length) : RdB w (some (A.add (k * 21))) (ws.getD k []) := (h.at (by omega) k hk).1
set_option maxHeartbeats 8000000 in
theorem topstore_any (al : Int) (key : List Byte) (p : Option Addr) (c : Nat) (hc : key.length ≤ c) (ws : List (List Byte)) (q : Option Addr) (d : Nat) (hd : ws.length ≤ d) (w0 : World) (hcf : Coef w0) (hcb : CoefB w0) (hr : RdB w0 p key) (hs : RdK w0 q 21 ws) :
   Gives Tryz.prog 3 #[.agg #[.int .i64 al, .slice p key.length c], .slice q ws.length d] w0 (.bool true) := by
 unfold Gives
 have hm := Own.start w0
 have MY := Lib.hid fun w => lmay_any al key p c w
 have AW := Lib.hid fun w (hx : Ext w0 w) => awakeT w (hcf.ext hx)
 have FL := Lib.hid fun (hk : SchOk al key) (us : List (List Byte)) (r : Option Addr) (e : Nat) (w : World) (hn : us.length ≤ 10) (he : us.length ≤ e) (hx : Ext w0 w) (hu : RdK w r 21 us) => filled_any al key hk p c hc us r e hn he w (hcf.ext hx) (hcb.ext hx) (hr.ext hx) hu
 have SF := Lib.hid (fil_same al key ws)
 have HS := Lib.hid fun (w : World) (hx : Ext w0 w) => hs.ext hx
 have AL := Lib.hid fun (st : List Byte) (hl : st.length = 80) => alike_any (al := al) (st := st) (hl := hl)
 have FLn := Lib.hid (filF_length al key ws hs.1 ws.length (Nat.le_refl _))
 obtain ⟨TL, hTL⟩ : ∃ x, x = key.length := ⟨_, rfl⟩
 obtain ⟨NN, hNN⟩ : ∃ x, x = ws.length := ⟨_, rfl⟩
 rw [← hTL] at FL MY ⊢
 rw [← hNN] at hd SF FLn ⊢
 have HN := Lib.hid hNN
 clear hcf hcb hr hs hc hTL hNN
 by_cases hn10 : NN ≤ 10
 · have hg1 : decide ((NN : Int) > 10) = false := decide_eq_false (by omega)
   have hg2 : decide ((10 : Int) < (NN : Int)) = false := decide_eq_false (by omega)
   have hg3 : ¬ (10 : Int) < (NN : Int) := by omega
   go_enter Tryz.func3, Tryz.ntmps3
   go_wp2_with (first | ((with_reducible apply wq_boxN (cs := [.int .i64 al, .slice p TL c]) hm); exact rfl; exact rfl; clear hm; intro gl w hm) | ((with_reducible show qLd); first | ((with_reducible apply wq_ldW hm); exact rfl; infer_instance; exact rfl; (focus (repeat first | exact .hd | assumption | apply Has.tl); done); (focus (first | rfl | omega | (simp; done) | (simp; omega))))))
   refine (MY.out w).mono ?_
   rintro e_ w ⟨b, rfl, hb, hx_⟩
   replace hm := hm.ext hx_
   clear hx_
   cases b with
   | false =>
     go_wp2_with fail
     go_ret
     exact ⟨rfl, hm.x⟩
   | true =>
     have HK := Lib.hid (hb rfl)
     clear hb
     have FW := FL.out HK.out ws q d
     rw [← HN.out] at FW
     replace FW := Lib.hid FW
     go_wp2_with (first | ((with_reducible show qLd); first | ((with_reducible apply wq_ldW hm); exact rfl; infer_instance; exact rfl; (focus (repeat first | exact .hd | assumption | apply Has.tl); done); (focus (first | rfl | omega | (simp; done) | (simp; omega))))))
     refine (FW.out _ hn10 hd hm.x (HS.out _ hm.x)).mono ?_
     rintro e_ w ⟨g, gt, gc, gs, ld, rfl, hv1, hs1, hx_⟩
     replace hm := hm.ext hx_
     have VR := Lib.hid hv1
     have VS := Lib.hid hs1
     clear hx_ hv1 hs1 MY FW
     obtain ⟨X1, hX1⟩ : ∃ x, x = filF al key ws NN := ⟨_, rfl⟩
     rw [← hX1] at SF FLn VS
     clear hX1
     have X01 := Lib.hid hm.x
     have RL := Lib.hid (hm.row (g := gl) (t := 24) (cs := [.int .i64 al, .slice p TL c]) .hd)
     clear hm
     obtain ⟨W1, hW1⟩ : ∃ x, x = w := ⟨_, rfl⟩
     rw [← hW1] at VR VS X01 RL
     have hm := Own.start W1
     have hm : Own W1 w [] := by rw [← hW1]; exact hm
     clear hW1
     go_wp2_with fail
     go_loopw [6, 7] (fun va vi wr => ∃ (k e : Nat) (r : Option Addr) (M : List Blk) (ls : List (List Byte)) (x : Int), vi = .int .i64 x ∧ va = .slice r k e ∧ SlO M 31 21 (.slice r k e) k (catV ls) ∧ TopI ws x k ls ∧ Own W1 wr (M ++ [])) (fun _ vi _ => (intOf vi + 1).toNat)
     case atStart => exact ⟨0, 0, none, [], [], 3, rfl, rfl, SlO.nil _ _, TopI.start ws, hm⟩
     case round =>
       obtain ⟨k, e, r, M, ls, x, rfl, rfl, hso, hti, hm⟩ := hrel
       have hx3 : -1 ≤ x ∧ x ≤ 3 := ⟨hti.2.2.2.1, hti.2.2.2.2.1⟩
       have HSO := Lib.hid hso
       have HTI := Lib.hid hti
       clear hso hti
       by_cases hx0 : 0 ≤ x
       · have hd1 : decide (x ≥ 0) = true := decide_eq_true hx0
         have hd2 : decide (0 ≤ x) = true := decide_eq_true hx0
         go_wp2_with fail
         go_loopw [6, 8] (fun va i wj => ∃ y : Int, i = .int .i64 y ∧ va = .slice r k e ∧ -1 ≤ y ∧ y < (NN : Int) ∧ (∀ j : Nat, y < (j : Int) → j < NN → (secN (ws.getD j []) : Int) ≠ x) ∧ Own W1 wj (M ++ [])) (fun _ i _ => (intOf i + 1).toNat)
         case atStart => exact ⟨(NN : Int) - 1, rfl, rfl, by omega, by omega, fun j a b => by omega, hm⟩
         case round =>
           obtain ⟨y, rfl, rfl, hy1, hy2, hno, hm⟩ := hrel
           have HNO := Lib.hid hno
           clear hno
           by_cases hy0 : 0 ≤ y
           · have he1 : decide (y ≥ 0) = true := decide_eq_true hy0
             have he2 : decide (0 ≤ y) = true := decide_eq_true hy0
             obtain ⟨i, rfl⟩ := Int.eq_ofNat_of_zero_le hy0
             have hi : i < NN := by omega
             have hks := HS.out w0 (Ext.refl _)
             obtain ⟨A, rfl⟩ := Option.isSome_iff_exists.1 (hks.2.1 (by rw [flatten_length 21 ws hks.1, ← HN.out]; omega))
             have sA := fun (wx : World) (hx : Ext w0 wx) => sec_at (HS.out wx hx) i (by rw [← HN.out]; exact hi)
             have LA := Lib.hid fun h1 h2 h3 => HTI.out.add hx0 i (by rw [← HN.out]; exact hi) h1 h2 h3
             obtain ⟨s, hs⟩ : ∃ s, s = ws.getD i [] := ⟨_, rfl⟩
             rw [← hs] at sA LA
             have HSI := Lib.hid hs
             have SA := Lib.hid sA
             clear hks hs sA
             have cA := (SA.out _ (X01.out.trans hm.x)).1
             have hb : 0 ≤ (i : Int) ∧ (i : Int) < (NN : Int) := ⟨hy0, hy2⟩
             by_cases heq : ((nth s 0).toNat : Int) % 4 = x
             · have hq : (((nth s 0).toNat : Int) % 4 == x) = true := by rw [heq]; exact beq_self_eq_true x
               have l21 := (SA.out _ (X01.out.trans hm.x)).2.2
               have LI := Lib.hid (LA.out l21 heq (fun j a b => HNO.out j (by omega) (by rw [HN.out]; exact b)))
               have RS := Lib.hid fun w (hx : Ext w0 w) => (show RdB w (some (A.add (i * 21))) s from HSI.out ▸ sec_all (HS.out w hx) i (by rw [← HN.out]; exact hi))
               have BS := Lib.hid (bs_sec s l21)
               have hk4 := HTI.out.len.2
               have hfit : (k + 1) * (21 + 1) ≤ 140737488355328 := by omega
               have L21 := Lib.hid (show ∀ x ∈ [s], x.length = 21 from by intro x hx; rw [List.mem_singleton.1 hx]; exact l21)
               have LC := Lib.hid (show (catV [s]).length = 1 * 21 by rw [catV_length 21 [s] L21.out]; rfl)
               go_wp2_with (first | ((with_reducible apply wq_rdW (RS.out _ (X01.out.trans hm.x))); exact rfl; infer_instance; exact rfl; exact l21) | ((with_reducible apply wq_bs1 (ks := [s]) hm (BS.out _)); exact rfl; exact rfl; clear hm; intro g2 w hm) | ((with_reducible show wpList _ _ _ (Oper.mk _ (Op.call _) _ _ _ _ :: _) _ _); refine wplO_app (M := M) (R := _) (ds := catV [s]) (hm.perm (List.perm_middle.symm)) HSO.out rfl rfl rfl rfl Tryz.underlying25 LC.out ((rdK_row (m := 21) L21.out (hm.row (g := g2) (by repeat (first | exact Has.hd | assumption | apply Has.tl)))).cells) (catV_one _) hfit ?_; clear hm; intro v1 w M1 hm hs1; obtain ⟨p_v1, c_v1, rfl⟩ := hs1.form; replace hm := hm.perm (List.perm_middle)))
               go_roundw
               case rel => exact ⟨k + 1, _, _, M1, ls ++ [s], x - 1, by go_num, rfl, by rw [catV_append]; exact hs1, LI.out, hm.drop⟩
               case measure => simp [intOf] <;> omega
             · have hq : (((nth s 0).toNat : Int) % 4 == x) = false := by rw [beq_eq_false_iff_ne]; exact heq
               have HNI := Lib.hid (show ∀ j : Nat, (i : Int) - 1 < (j : Int) → j < NN → (secN (ws.getD j []) : Int) ≠ x from fun j a b => by
                 by_cases hj : j = i
                 · subst hj; rw [← HSI.out]; exact heq
                 · exact HNO.out j (by omega) b)
               go_wp2_with fail
               go_roundw
               case rel => exact ⟨(i : Int) - 1, by go_num, rfl, by omega, by omega, HNI.out, hm⟩
               case measure => simp [intOf] <;> omega
           · have he1 : decide (y ≥ 0) = false := decide_eq_false hy0
             have he2 : decide (0 ≤ y) = false := decide_eq_false hy0
             have he3 : ¬ y ≥ 0 := hy0
             have SK := Lib.hid (HTI.out.skip hx0 (fun j hj => HNO.out j (by omega) (by rw [HN.out]; exact hj)))
             go_wp2_with fail
             go_roundw
             case rel => exact ⟨k, e, r, M, ls, x - 1, by go_num, rfl, HSO.out, SK.out, hm⟩
             case measure => simp [intOf] <;> omega
       · have hd1 : decide (x ≥ 0) = false := decide_eq_false hx0
         have hd2 : decide (0 ≤ x) = false := decide_eq_false hx0
         have hd3 : ¬ x ≥ 0 := hx0
         go_wp2_with (first | ((with_reducible apply wq_rowN (cs' := [.int .i64 al, .slice p TL c]) (row_ext RL.out hm.x)); exact rfl; infer_instance; exact rfl; exact rfl; exact rfl))
         obtain ⟨hrk, hkl, hke⟩ := slo_rdN (by omega) HSO.out HTI.out.2.1 hm
         have hk4 := HTI.out.len.2
         have F2 := FL.out HK.out ls r e
         rw [← hkl] at F2
         have EX := SF.out ls (HS.out w0 (Ext.refl _)).1 HTI.out.2.1 (HTI.out.all (by omega))
         rw [← hkl] at EX
         rw [EX] at F2
         refine (F2 _ (by omega) hke (X01.out.trans hm.x) hrk).mono ?_
         rintro e_ w ⟨g', gt', gc', gs', ld', rfl, hv2, hs2, hx_⟩
         clear hrk F2 EX hkl
         replace hm := hm.ext hx_
         clear hx_
         go_wp2_with fail
         refine (alike_any g gt gc gs g' gt' gc' gs' al ld ld' X1 FLn.out w (row_ext VR.out hm.x) (VS.out.ext hm.x) hv2 hs2).mono ?_
         rintro e_ w ⟨rfl, hx_⟩
         replace hm := hm.ext hx_
         clear hx_ hv2 hs2
         go_wp2_with fail
         refine (AW.out _ (X01.out.trans hm.x)).mono ?_
         rintro e_ w ⟨rfl, hx_⟩
         replace hm := hm.ext hx_
         clear hx_
         go_wp2_with fail
         go_ret
         exact ⟨rfl, X01.out.trans hm.x⟩
 · have hg1 : decide ((NN : Int) > 10) = true := decide_eq_true (by omega)
   have hg2 : decide ((10 : Int) < (NN : Int)) = true := decide_eq_true (by omega)
   have hg3 : (10 : Int) < (NN : Int) := by omega
   go_enter Tryz.func3, Tryz.ntmps3
   go_wp2_with (first | ((with_reducible apply wq_boxN (cs := [.int .i64 al, .slice p TL c]) hm); exact rfl; exact rfl; clear hm; intro gl w hm) | ((with_reducible show qLd); first | ((with_reducible apply wq_ldW hm); exact rfl; infer_instance; exact rfl; (focus (repeat first | exact .hd | assumption | apply Has.tl); done); (focus (first | rfl | omega | (simp; done) | (simp; omega))))))
   refine (MY.out w).mono ?_
   rintro e_ w ⟨b, rfl, hb, hx_⟩
   replace hm := hm.ext hx_
   clear hx_ hb
   cases b
   all_goals
     go_wp2_with fail
     go_ret
     exact ⟨rfl, hm.x⟩
open Go Go.RowKit Go.ChangeShapes Go.WideShapes Go.ChangeAt Go.Deep
section
variable {H : Type} {enc : TypeId × Value → H} {P : Program} {w : World} {T e : TypeId} {cs : List Value}
theorem Trd.blocksG {n : Nat} (ht : P.underlying T = some (.slice e)) (hc : P.cellsOf e = n) (HB : ∀ cs', Trd enc P w e cs' → ∃ l : List Byte, l.length = n ∧ cs' = l.map v8) (hn : 0 < n) (h : Trd enc P w T cs) :
   ∃ (p : Option Addr) (ks : List (List Byte)) (c : Nat), cs = [.slice p ks.length c] ∧ RdK w p n ks ∧ ks.length ≤ c ∧ ks.length ≤ maxLen := by
 obtain ⟨f, x, hf⟩ := h
 rcases open_slice ht hf with ⟨rfl, _⟩ | ⟨a, len, cap, m, n', D, Pl, rfl, _, hl, hm, hmm, _, hel⟩
 · exact ⟨none, [], 0, rfl, ⟨by simp, RdB.nil _ _⟩, Nat.le_refl _, by simp⟩
 · simp only [if_true] at hmm
   rw [hc] at hel
   have key : ∀ k, k ≤ len → ∃ ks : List (List Byte), ks.length = k ∧ (∀ x ∈ ks, x.length = n) ∧ ∀ i, i < k → ∀ j, j < n → w.cell? (a.add (i * n + j)) = some (v8 ((ks.getD i []).getD j 0)) := by
     intro k
     induction k with
     | zero => intro _; exact ⟨[], rfl, by simp, by intros; omega⟩
     | succ k ih =>
       intro hk
       obtain ⟨ks, h1, h2, h3⟩ := ih (by omega)
       obtain ⟨cs', hcs, htr⟩ := hel k (by omega)
       obtain ⟨l, hl1, rfl⟩ := HB cs' ⟨n', _, htr⟩
       obtain ⟨_, _, hcell⟩ := World.cells?_some hcs
       refine ⟨ks ++ [l], by simp [h1], fun x hx => ?_, fun i hi j hj => ?_⟩
       · rcases List.mem_append.1 hx with hx | hx
         · exact h2 x hx
         · rw [List.mem_singleton.1 hx, hl1]
       · by_cases hik : i < k
         · have : (ks ++ [l]).getD i [] = ks.getD i [] := by simp [List.getElem?_append_left (show i < ks.length by omega)]
           rw [this]; exact h3 i hik j hj
         · have hik' : i = ks.length := by omega
           have : (ks ++ [l]).getD i [] = l := by subst hik'; simp
           rw [this]
           have hik2 : i = k := by omega
           subst hik2
           have := hcell j hj
           rw [List.getElem?_map, List.getElem?_eq_getElem (by omega)] at this
           have e : (a.add (i * n)).add j = a.add (i * n + j) := by unfold Addr.add; split <;> split <;> simp_all <;> omega
           rw [e] at this
           rw [this]; simp [show j < l.length by omega]
   obtain ⟨ks, h1, h2, h3⟩ := key len (Nat.le_refl _)
   subst h1
   refine ⟨some a, ks, cap, rfl, ⟨h2, fun _ => rfl, fun i hi => ?_⟩, hl, by omega⟩
   rw [flatten_length n ks h2] at hi
   have hlt : i / n < ks.length := by rw [Nat.div_lt_iff_lt_mul hn]; exact hi
   have hmod : i % n < n := Nat.mod_lt _ hn
   have e : i / n * n + i % n = i := by rw [Nat.mul_comm]; exact Nat.div_add_mod i n
   have := h3 (i / n) hlt (i % n) hmod
   rw [e] at this
   simp only [Option.getD_some]
   rw [this]
   have := flatten_getD n ks (i / n) (i % n) h2 hlt hmod
   rw [e] at this
   rw [this]
end
section
variable {H : Type} {enc : TypeId × Value → H} {w : World} {cs : List Value}
theorem sec_trd (h : Trd enc Tryz.prog w 31 cs) : ∃ l : List Byte, l.length = 21 ∧ cs = l.map v8 := by
 obtain ⟨hl, g⟩ := h.struct Tryz.underlying31 (by kernel_rfl) (m := 21)
 have f0 : Trd enc Tryz.prog w 5 ((cs.drop 0).take 1) := Trd.field g (i := 0) (off := 0) (n := 1) (by kernel_rfl) (by kernel_rfl)
 have f1 : Trd enc Tryz.prog w 29 ((cs.drop 1).take 20) := Trd.field g (i := 1) (off := 1) (n := 20) (by kernel_rfl) (by kernel_rfl)
 obtain ⟨x, e0⟩ := f0.u8 Tryz.underlying5
 obtain ⟨l, hl1, e1⟩ := f1.arr8 Tryz.underlying29 Tryz.underlying5 (by kernel_rfl) (by kernel_rfl)
 refine ⟨x :: l, by rw [List.length_cons, hl1], ?_⟩
 rw [List.drop_zero] at e0
 rw [List.take_of_length_le (by rw [List.length_drop]; omega)] at e1
 rw [← List.take_append_drop 1 cs, e0, e1]
 rfl
variable {r : Reach} {b0 : Nat} {v : Value} {d : DataW H} {ps : List MemPlace}
theorem val_secs (hval : Value.okWide Tryz.prog w r b0 25 v) (h : DataW.Trod enc Tryz.prog w 0 (fun _ => true) true 25 v d ps) :
   ∃ (p : Option Addr) (ks : List (List Byte)) (c : Nat), v = .slice p ks.length c ∧ RdK w p 21 ks ∧ ks.length ≤ c ∧ ks.length ≤ maxLen := by
 obtain ⟨a, m, c, rfl⟩ := okWide_slice Tryz.underlying25 hval
 obtain ⟨p, l, c', e, h1⟩ := ((Trd.of h).cells (cs := [.slice a m c]) rfl).blocksG Tryz.underlying25 (e := 31) (n := 21) (by kernel_rfl) (fun cs' h => sec_trd h) (by omega)
 exact ⟨p, l, c', (List.cons.inj e).1, h1⟩
end
theorem store_walk (al : Int) (key : List Byte) (p : Option Addr) (c : Nat) (ws : List (List Byte)) (q : Option Addr) (d : Nat) (w0 : World) (_a1 : -9223372036854775808 ≤ al) (_a2 : al ≤ 9223372036854775807) (hr : RdB w0 p key) (hc : key.length ≤ c) (_a3 : key.length ≤ maxLen) (hs : RdK w0 q 21 ws) (hd : ws.length ≤ d) (_a4 : ws.length ≤ maxLen) (hl : Coef w0 ∧ CoefB w0) :
   Gives Tryz.prog 3 #[.agg ([Value.int .i64 al] ++ ([Value.slice p key.length c])).toArray, .slice q ws.length d] w0 (.bool true) :=
 topstore_any al key p c hc ws q d hd w0 hl.1 hl.2 hr hs
open Go Go.ChangeShapes Go.WideShapes Go.ChangeAt Go.WideMaps Go.WideElems Go.RowKit
theorem cells_ints {H : Type} {enc : TypeId × Value → H} {P : Program} {w : World} {base : Nat} {spare : Nat → Bool} {held : Bool} {fuel : Nat} {t e : TypeId} {n : Nat} {k : IntKind} {cs : List Value} {ns : List Int} {q : List MemPlace}
   (ht : P.underlying t = some (.array n e)) (he : P.underlying e = some (.int k)) (hc : P.cellsOf e = 1) (hm : P.cellsOf t = n)
   (h : DataW.trod enc P w base spare held fuel t cs = some (.agg (ns.map fun i => .lit (.int k i)), q)) : cs = ns.map fun i => .int k i := by
 obtain ⟨xs, m, _, hx, hl, hn, hel⟩ := DataW.trod_array ht h
 have hx1 : ns.map (fun i => DataW.lit (H := H) (.int k i)) = xs.map (·.1) := by
   have := congrArg Prod.fst hx
   simpa using this
 have hln : ns.length = n := by have := congrArg List.length hx1; simp only [List.length_map] at this; omega
 rw [hm] at hl
 apply List.ext_getElem?
 intro i
 by_cases hi : i < n
 · have hx' := hel i hi
   rw [hc, Nat.mul_one, List.getElem?_eq_getElem (by omega)] at hx'
   obtain ⟨n0, e1, e2, _⟩ := DataW.trod_int he hx'
   have a1 : cs[i]? = some (.int k n0) := by
     have := congrArg (·[0]?) e1
     simpa [List.getElem?_take, List.getElem?_drop] using this
   have a2 := congrArg (·[i]?) hx1
   simp only [List.getElem?_map, List.getElem?_eq_getElem (show i < xs.length by omega), List.getElem?_eq_getElem (show i < ns.length by omega), Option.map_some, e2, Option.some.injEq] at a2
   injection a2 with a3
   injection a3 with _ a4
   rw [a1, List.getElem?_map, List.getElem?_eq_getElem (show i < ns.length by omega), Option.map_some, a4]
 · rw [List.getElem?_eq_none (by omega), List.getElem?_eq_none (by simp; omega)]
theorem cells_rows {H : Type} {enc : TypeId × Value → H} {P : Program} {w : World} {base : Nat} {spare : Nat → Bool} {held : Bool} {fuel : Nat} {t e b : TypeId} {n m : Nat} {k : IntKind} {cs : List Value} {rs : List (List Int)} {q : List MemPlace}
   (ht : P.underlying t = some (.array n e)) (he : P.underlying e = some (.array m b)) (hb : P.underlying b = some (.int k)) (hcb : P.cellsOf b = 1) (hce : P.cellsOf e = m)
   (h : DataW.trod enc P w base spare held fuel t cs = some (.agg (rs.map fun r => .agg (r.map fun i => .lit (.int k i))), q)) : ∀ i, i < n → (cs.drop (i * m)).take m = (rs.getD i []).map fun i => .int k i := by
 obtain ⟨xs, m', _, hx, hl, hn, hel⟩ := DataW.trod_array ht h
 have hx1 : (rs.map fun r => DataW.agg (H := H) (r.map fun i => .lit (.int k i))) = xs.map (·.1) := by
   have := congrArg Prod.fst hx
   simpa using this
 have hln : rs.length = n := by have := congrArg List.length hx1; simp only [List.length_map] at this; omega
 intro i hi
 have hx' := hel i hi
 rw [hce, List.getElem?_eq_getElem (by omega)] at hx'
 have a2 := congrArg (·[i]?) hx1
 simp only [List.getElem?_map, List.getElem?_eq_getElem (show i < xs.length by omega), List.getElem?_eq_getElem (show i < rs.length by omega), Option.map_some, Option.some.injEq] at a2
 have hx2 : xs[i] = (DataW.agg (rs[i].map fun i => .lit (.int k i)), xs[i].2) := by rw [a2]
 rw [hx2] at hx'
 rw [List.getD_eq_getElem?_getD, List.getElem?_eq_getElem (show i < rs.length by omega), Option.getD_some]
 exact cells_ints he hb hcb hce hx'
theorem gFirst : Tryz.prog.globalNamed "wringer/blake.first" = some 2 := by kernel_rfl
theorem gRows : Tryz.prog.globalNamed "wringer/blake.rows" = some 3 := by kernel_rfl
theorem tFirst : (Tryz.prog.globals[2]?).map (·.type) = some 164 := by kernel_rfl
theorem tRows : (Tryz.prog.globals[3]?).map (·.type) = some 180 := by kernel_rfl
def firstN : List Int := [7640891576956012808, 13503953896175478587, 4354685564936845355, 11912009170470909681, 5840696475078001361, 11170449401992604703, 2270897969802886507, 6620516959819538809]
def rowsN : List (List Int) := rowsL.map fun r => r.map fun x => (x.toNat : Int)
theorem firstN_v : (firstN.map fun i => Value.int .u64 i) = firstL.map v64 := rfl
theorem rowsN_v (i : Nat) (hi : i < 10) : (rowsN.getD i []).map (fun i => Value.int .u8 i) = (rowsL.getD i []).map v8 := by
 rw [rowsN, List.getD_eq_getElem?_getD, List.getElem?_map, List.getD_eq_getElem?_getD, List.getElem?_eq_getElem (by rw [rowsL_length]; exact hi)]
 simp only [Option.map_some, Option.getD_some, List.map_map]
 rfl
theorem coefB_of {W : World} {cs0 cs1 : List Value} (h0 : ∀ i, W.cell? ⟨2, i, none⟩ = cs0[i]?) (h1 : ∀ i, W.cell? ⟨3, i, none⟩ = cs1[i]?) (c0 : cs0 = firstN.map fun i => Value.int .u64 i) (c1 : ∀ i, i < 10 → (cs1.drop (i * 16)).take 16 = (rowsN.getD i []).map fun i => Value.int .u8 i) : CoefB W := by
 refine ⟨fun i hi => ?_, rowsL_each, fun _ => rfl, fun i hi => ?_⟩
 · rw [h0, c0, firstN_v, map64_at firstL (by rw [firstL_length]; exact hi)]
 · have hl := flatten_length 16 rowsL rowsL_each
   rw [rowsL_length] at hl
   have hq : i / 16 < 10 := by omega
   have hr : i % 16 < 16 := Nat.mod_lt _ (by omega)
   have e : i / 16 * 16 + i % 16 = i := by omega
   show W.cell? ((⟨3, 0, none⟩ : Addr).add i) = _
   rw [Addr.add_mid, Nat.zero_add, h1]
   have hc := congrArg (·[i % 16]?) ((c1 (i / 16) hq).trans (rowsN_v _ hq))
   simp only [List.getElem?_take, if_pos hr, List.getElem?_drop] at hc
   rw [e] at hc
   have hf := flatten_getD 16 rowsL (i / 16) (i % 16) rowsL_each (by rw [rowsL_length]; exact hq) hr
   rw [e] at hf
   have hle : ((rowsL.getD (i / 16) []).length) = 16 := by
     rw [List.getD_eq_getElem?_getD, List.getElem?_eq_getElem (by rw [rowsL_length]; exact hq)]
     exact rowsL_each _ (List.getElem_mem _)
   generalize rowsL.getD (i / 16) [] = RW at *
   rw [hc, hf, List.getElem?_map, List.getD_eq_getElem?_getD, List.getElem?_eq_getElem (show i % 16 < RW.length by omega)]
   rfl
def laidA : List (String × DataW Unit) := [("wringer/blake.first", Rows.laid_wringer_blake_first), ("wringer/blake.rows", Rows.laid_wringer_blake_rows), ("wringer/turn.mixes", Rows.laid_wringer_turn_mixes), ("wringer/turn.unmixes", Rows.laid_wringer_turn_unmixes)]
theorem gMixes : Tryz.prog.globalNamed "wringer/turn.mixes" = some 0 := by kernel_rfl
theorem gUnmixes : Tryz.prog.globalNamed "wringer/turn.unmixes" = some 1 := by kernel_rfl
theorem tMixes : (Tryz.prog.globals[0]?).map (·.type) = some 76 := by kernel_rfl
theorem tUnmixes : (Tryz.prog.globals[1]?).map (·.type) = some 76 := by kernel_rfl
theorem laid_coefA {W : World} (h : laidMetH Tryz.prog laidA W) : Coef W ∧ CoefB W := by
 rw [MakeChecks.laidMetH_plain _ _ _ (by kernel_rfl)] at h
 obtain ⟨ps, ⟨g0, t0, cs0, f0, p0, q0, hg0, ht0, hv0, hd0, ⟨g1, t1, cs1, f1, p1, q1, hg1, ht1, hv1, hd1, ⟨g2, t2, cs2, f2, p2, q2, hg2, ht2, hv2, hd2, ⟨g3, t3, cs3, f3, p3, q3, hg3, ht3, hv3, hd3, _, _⟩, _⟩, _⟩, _⟩, _, _⟩ := h
 obtain rfl := Option.some.inj (gFirst.symm.trans hg0)
 obtain rfl := Option.some.inj (gRows.symm.trans hg1)
 obtain rfl := Option.some.inj (gMixes.symm.trans hg2)
 obtain rfl := Option.some.inj (gUnmixes.symm.trans hg3)
 obtain rfl := Option.some.inj (tFirst.symm.trans ht0)
 obtain rfl := Option.some.inj (tRows.symm.trans ht1)
 obtain rfl := Option.some.inj (tMixes.symm.trans ht2)
 obtain rfl := Option.some.inj (tUnmixes.symm.trans ht3)
 obtain ⟨l0⟩ := cs0
 obtain ⟨l1⟩ := cs1
 obtain ⟨l2⟩ := cs2
 obtain ⟨l3⟩ := cs3
 have c0 := cells_ints (ns := firstN) Tryz.underlying164 Tryz.underlying95 (by kernel_rfl) (by kernel_rfl) hd0
 have c1 := cells_rows (rs := rowsN) Tryz.underlying180 Tryz.underlying94 Tryz.underlying5 (by kernel_rfl) (by kernel_rfl) hd1
 have c2 := cells_ints (ns := [2, 3, 1, 1]) Tryz.underlying76 Tryz.underlying5 (by kernel_rfl) (by kernel_rfl) hd2
 have c3 := cells_ints (ns := [14, 11, 13, 9]) Tryz.underlying76 Tryz.underlying5 (by kernel_rfl) (by kernel_rfl) hd3
 refine ⟨?_, coefB_of (fun i => by have := World.var?_cell hg0 hv0 i; simpa using this) (fun i => by have := World.var?_cell hg1 hv1 i; simpa using this) c0 c1⟩
 simp only at c2 c3
 subst c2 c3
 refine ⟨⟨fun _ => rfl, fun i hi => ?_⟩, ⟨fun _ => rfl, fun i hi => ?_⟩⟩
 · show W.cell? ((⟨0, 0, none⟩ : Addr).add i) = _
   rw [Addr.add_mid, Nat.zero_add, World.var?_cell hg2 hv2 i]
   rcases (show i = 0 ∨ i = 1 ∨ i = 2 ∨ i = 3 by simp [mixesL] at hi; omega) with rfl | rfl | rfl | rfl <;> rfl
 · show W.cell? ((⟨1, 0, none⟩ : Addr).add i) = _
   rw [Addr.add_mid, Nat.zero_add, World.var?_cell hg3 hv3 i]
   rcases (show i = 0 ∨ i = 1 ∨ i = 2 ∨ i = 3 by simp [unmixesL] at hi; omega) with rfl | rfl | rfl | rfl <;> rfl
set_option maxRecDepth 100000 in
theorem door_metA (os : Os) (args : Array Value) : laidMetH Tryz.prog laidA ((World.doorLaid Tryz.prog 400 os).forCall (fun _ _ => 0) ⟨#[], args, []⟩).memory :=
 laidMetH_of_parts3 (fuel := 8) (laidMet_of_run' 8 (by kernel_rfl) (by kernel_rfl)) (by kernel_rfl) (by kernel_rfl)
end Go.Proofs.YtdmgchdhilcncaaGreatDoor
