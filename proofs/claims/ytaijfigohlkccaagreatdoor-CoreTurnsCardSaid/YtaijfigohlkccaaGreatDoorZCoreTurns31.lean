/-
  Layer 20, the document's: a long message, turned. Conditions: those written in each theorem.
-/
import Derived.Test.YtaijfigohlkccaaGreatDoorZCoreTurns0
import Derived.Test.YtaijfigohlkccaaGreatDoorZCoreTurns29
import Derived.Test.YtaijfigohlkccaaGreatDoorZCoreTurns30
import Derived.Deep.CutRange
set_option linter.unusedSimpArgs false
set_option linter.unusedVariables false
namespace Go.Proofs.YtaijfigohlkccaaGreatDoor
open Go Go.RowKit
set_option maxRecDepth 100000
theorem seg_app (A B : List Byte) (i j : Nat) (h : i + j ≤ A.length) : ((A ++ B).drop i).take j = (A.drop i).take j := by
 rw [List.drop_append_of_le_length (by omega), List.take_append_of_le_length (by rw [List.length_drop]; omega)]
theorem over_midq (A B C b : List Byte) (n : Nat) (hn : n = A.length) (h : b.length = B.length) : over (A ++ (B ++ C)) n b = A ++ (b ++ C) := by
 subst hn
 rw [over, List.take_append_of_le_length (Nat.le_refl _), List.take_of_length_le (Nat.le_refl _), ← List.drop_drop, List.drop_append_of_le_length (Nat.le_refl _), List.drop_of_length_le (Nat.le_refl _), List.nil_append, h, List.drop_append_of_le_length (Nat.le_refl _), List.drop_of_length_le (Nat.le_refl _), List.nil_append, List.append_assoc]
theorem part_at (np dd j f : Nat) (h : f < 3) (op : Nat) (cur : List Value) (NP : Nat) (hNP : NP = 2 * np + (midN dd + 2)) (hc : (cur.drop op).take (NP * 3) = partC np dd) (hj : j < midN dd + 2) (I : Nat) (hI : I = 2 * np + j) : cur[op + I * 3 + f]? = (midC np dd ++ endC np dd)[3 * j + f]? := by
 have e : ((cur.drop op).take (NP * 3))[I * 3 + f]? = (partC np dd)[I * 3 + f]? := by rw [hc]
 rw [List.getElem?_take, if_pos (by omega), List.getElem?_drop] at e
 rw [Nat.add_assoc, e, partC, List.getElem?_append_right (by rw [headC_length]; omega), headC_length]
 congr 1; omega
theorem kind_c (np dd j : Nat) (hj : j < midN dd + 2) (h1 : ¬ (0 < dd ∧ j = 0)) (h2 : ¬ (16 ≤ dd ∧ j = 1)) : ∃ kd : Nat, (kd = 8 ∨ kd = 9) ∧ (midC np dd ++ endC np dd)[3 * j + 0]? = some (.int .i64 (kd : Int)) := by
 by_cases h0 : dd = 0
 · subst h0
   have hj2 : j < 2 := hj
   rcases (show j = 0 ∨ j = 1 by omega) with rfl | rfl
   · exact ⟨8, .inl rfl, rfl⟩
   · exact ⟨9, .inr rfl, rfl⟩
 · by_cases h16 : dd < 16
   · have hm : midN dd = 1 := by rw [midN, if_neg h0, if_pos h16]
     have hc : midC np dd = prtV 6 (32 * np) dd := by rw [midC, if_neg h0, if_pos h16]
     rw [hm] at hj
     rw [hc]
     rcases (show j = 1 ∨ j = 2 by omega) with rfl | rfl
     · exact ⟨8, .inl rfl, rfl⟩
     · exact ⟨9, .inr rfl, rfl⟩
   · have hm : midN dd = 2 := by rw [midN, if_neg h0, if_neg h16]
     have hc : midC np dd = prtV 6 (32 * np) 16 ++ prtV 7 (32 * np + 16) (dd - 16) := by rw [midC, if_neg h0, if_neg h16]
     rw [hm] at hj
     rw [hc]
     rcases (show j = 2 ∨ j = 3 by omega) with rfl | rfl
     · exact ⟨8, .inl rfl, rfl⟩
     · exact ⟨9, .inr rfl, rfl⟩
theorem kind_u (np dd N : Nat) (h0 : 0 < dd) (hN : N = min dd 16) : (midC np dd ++ endC np dd)[3 * 0 + 0]? = some (.int .i64 ((6 : Nat) : Int)) ∧ (midC np dd ++ endC np dd)[3 * 0 + 1]? = some (.int .i64 ((32 * np : Nat) : Int)) ∧ (midC np dd ++ endC np dd)[3 * 0 + 2]? = some (.int .i64 (N : Int)) := by
 by_cases h16 : dd < 16
 · rw [midC, if_neg (by omega), if_pos h16, show N = dd by omega]; exact ⟨rfl, rfl, rfl⟩
 · rw [midC, if_neg (by omega), if_neg h16, show N = 16 by omega]; exact ⟨rfl, rfl, rfl⟩
theorem kind_v (np dd N : Nat) (h0 : 16 ≤ dd) (hN : N = dd - 16) : (midC np dd ++ endC np dd)[3 * 1 + 0]? = some (.int .i64 ((7 : Nat) : Int)) ∧ (midC np dd ++ endC np dd)[3 * 1 + 1]? = some (.int .i64 ((32 * np + 16 : Nat) : Int)) ∧ (midC np dd ++ endC np dd)[3 * 1 + 2]? = some (.int .i64 (N : Int)) := by
 subst hN
 rw [midC, if_neg (by omega), if_neg (by omega)]; exact ⟨rfl, rfl, rfl⟩
theorem OwnB.weak {w : World} {B C : Nat} {v : Value} {l : List Byte} (h : OwnB w B v l) (hc : C ≤ B) : OwnB w C v l := by
 obtain ⟨h1, h2⟩ := h
 refine ⟨h1, ?_⟩
 rcases h2 with h2 | ⟨g, cap, cur, e, hg, h2⟩
 · exact .inl h2
 · exact .inr ⟨g, cap, cur, e, Nat.le_trans hc hg, h2⟩
theorem OwnB.stable (B : Nat) (l : List Byte) : Stable (fun v w => OwnB w B v l) := fun _ _ _ h hx => h.ext hx
theorem own_twoB {w0 w wz : World} {L : List Blk} {v1 v2 : Value} {a b : List Byte} (h : Own w0 w L) (hx : Ext w wz) (h1 : OwnB wz w.heap.size v1 a) (h2 : OwnB wz w.heap.size v2 b) : ∃ N p1 c1 p2 c2, v1 = .slice p1 a.length c1 ∧ v2 = .slice p2 b.length c2 ∧ Own w0 wz (N ++ L) ∧ ∀ w1 w' L', Own w1 w' (N ++ L') → RdB w' p1 a ∧ RdB w' p2 b := by
 obtain ⟨M1, m1, s1⟩ := ownsRow_sl h hx h1
 obtain ⟨M2, m2, s2⟩ := ownsRow_sl h hx h2
 obtain ⟨p1, c1, rfl⟩ := s1.form
 obtain ⟨p2, c2, rfl⟩ := s2.form
 rcases s1.2 with ⟨_, _, e1⟩ | ⟨g1, o1, k1, cu1, _, e1, _⟩
 · subst e1
   exact ⟨M2, p1, c1, p2, c2, rfl, rfl, m2, fun w1 w' L' hm => ⟨slo_rdB (R := M2 ++ L') s1 hm, slo_rdB s2 hm⟩⟩
 · rcases s2.2 with ⟨_, _, e2⟩ | ⟨g2, o2, k2, cu2, _, e2, _⟩
   · subst e2
     exact ⟨M1, p1, c1, p2, c2, rfl, rfl, m1, fun w1 w' L' hm => ⟨slo_rdB s1 hm, slo_rdB (R := M1 ++ L') s2 hm⟩⟩
   · subst e1 e2
     by_cases e : g1 = g2
     · subst e
       have r1 := m1.row .hd
       have r2 := m2.row .hd
       have hc : cu1 = cu2 := by
         have q1 : wz.heap[g1]? = _ := r1
         have q2 : wz.heap[g1]? = _ := r2
         rw [q1] at q2
         simpa using q2
       subst hc
       exact ⟨_, p1, c1, p2, c2, rfl, rfl, m1, fun w1 w' L' hm => ⟨slo_rdB s1 hm, slo_rdB s2 hm⟩⟩
     · have hn : ∀ x ∈ ([⟨g2, 5, cu2⟩] ++ L : List Blk), x.g ≠ g1 := by
         intro x hx1
         rcases List.mem_cons.1 hx1 with rfl | hx1
         · exact fun h => e h.symm
         · have := m1.2.1
           rw [List.map_append, List.nodup_append] at this
           exact fun he => this.2.2 g1 (by simp) x.g (List.mem_map.2 ⟨x, hx1, rfl⟩) he.symm
       have mm := m2.add (m1.2.2 _ (List.mem_cons_self ..)).1 hn (m1.row .hd)
       exact ⟨[⟨g1, 5, cu1⟩] ++ [⟨g2, 5, cu2⟩], p1, c1, p2, c2, rfl, rfl, mm, fun w1 w' L' hm => ⟨slo_rdB (R := [⟨g2, 5, cu2⟩] ++ L') s1 hm, slo_rdB s2 hm.drop⟩⟩
theorem own_assocq {w0 w : World} {A B C : List Blk} (h : Own w0 w (A ++ (B ++ C))) : Own w0 w ((A ++ B) ++ C) := by rw [List.append_assoc]; exact h
def OwnP (B : Nat) (l : List Byte) : Slot := fun v w => OwnB w B v l
theorem OwnP.stable (B : Nat) (l : List Byte) : Stable (OwnP B l) := fun _ _ _ h hx => OwnB.ext h hx
set_option maxHeartbeats 400000 in
theorem xor_gr (a b : List Byte) (p q : Option Addr) (c d : Nat) (w : World) (B : Nat) (hB : B ≤ w.heap.size) (ha : RdB w p a) (hb : RdB w q b) (h16 : b.length = 16) (hla : a.length ≤ 16) : GivesR Tryz.prog 47 #[.slice p a.length c, .slice q 16 d] w (OwnP B (xorL a b)) := by
 have h_ := rxor_ob a b p q c d w ha hb (by omega) (by omega)
 rw [h16] at h_
 exact h_.mono (by rintro e w' ⟨v, rfl, ho, hx⟩; exact ⟨v, rfl, ho.weak hB, hx⟩)
set_option maxHeartbeats 64000000 in
theorem rturn_any (R : List Byte) (hR : R.length = 560) (F : Int → Int → List Byte → List Byte) (hF : ∀ j m x, (F j m x).length = 16) (ls : List (List Byte)) (q : Option Addr) (d : Nat) (l : List Byte) (p : Option Addr) (c : Nat) (back : Bool) (a b : Int) (hab : (back = false ∧ a = 1 ∧ b = 2) ∨ (back = true ∧ a = 2 ∧ b = 1)) (w0 : World) (hr : RdR w0 q ls) (hrd : ls.length ≤ d) (hrm : ls.length ≤ 70368744177000) (hrs : ∀ i, (ls.getD i []).length ≤ 70368744177000) (hl : RdB w0 p l) (h32 : 32 ≤ l.length) (h300 : l.length ≤ 300)
   (CE : ∀ wx, Ext w0 wx → ∀ (j m : Int) (x : List Byte), x.length = 16 → -1 ≤ j → j ≤ 9223372036854775807 → 0 ≤ m → m ≤ 9223372036854775807 → Gives Tryz.prog 44 #[A8 R, .int .i64 j, .int .i64 m, A8 x] wx (A8 (F j m x))) :
   GivesR Tryz.prog 12 #[A8 R, .slice q ls.length d, .slice p l.length c, .bool back] w0 (BytesS (coreL F (hashG F ls) a b l)) := by
 unfold GivesR
 have hm := Own.start w0
 have H1 := Lib.hid fun (wx : World) (hx : Ext w0 wx) => rhash_from R hR F hF ls q d wx (hr.ext hx) hrd hrm hrs (fun wy hy => CE wy (hx.trans hy))
 obtain ⟨H, hH⟩ : ∃ H, H = hashG F ls := ⟨_, rfl⟩
 have lH : H.length = 16 := by rw [hH]; exact hashG_length F ls
 obtain ⟨C, hC⟩ : ∃ C, C = splitT l := ⟨_, rfl⟩
 obtain ⟨np, hnp⟩ : ∃ m, m = (l.length - 32) / 32 := ⟨_, rfl⟩
 have ok : C.Ok np := hC ▸ hnp ▸ splitT_ok l h32
 have ej : l = C.ps ++ (C.u ++ (C.v ++ (C.x ++ C.y))) := by rw [hC]; exact (join_split l h32).symm
 have eT : coreL F (hashG F ls) a b l = joinT (coreT F H a b np C) := by rw [hC, hnp, hH]; rfl
 rw [eT]
 rw [← hH] at H1
 clear hC eT
 obtain ⟨ps, u, v, x, y⟩ := C
 have lps : ps.length = 32 * np := ok.ps
 have lu : u.length ≤ 16 := ok.u
 have lv : v.length ≤ 15 := ok.v
 have luv : u.length < 16 → v = [] := ok.uv
 have lx : x.length = 16 := ok.x
 have ly : y.length = 16 := ok.y
 replace ej : l = ps ++ (u ++ (v ++ (x ++ y))) := ej
 obtain ⟨n, hn⟩ : ∃ n, n = l.length := ⟨_, rfl⟩
 obtain ⟨dd, hdd⟩ : ∃ m, m = u.length + v.length := ⟨_, rfl⟩
 have ln : n = 32 * np + 32 + dd := by rw [hn, ej]; simp only [List.length_append]; omega
 have ldd : dd < 32 := by omega
 have lnp : np ≤ 8 := by omega
 have HF1 := Lib.hid fun k (hk : k < np) => show (l.drop (32 * k)).take 16 = fstB ps k from by rw [ej, seg_app _ _ _ _ (by omega)]; rfl
 have HF2 := Lib.hid fun k (hk : k < np) => show (l.drop (32 * k + 16)).take 16 = sndB ps k from by rw [ej, seg_app _ _ _ _ (by omega)]; rfl
 have LF1 := Lib.hid fun k (hk : k < np) => fstB_length ps k (by omega)
 have LF2 := Lib.hid fun k (hk : k < np) => sndB_length ps k (by omega)
 have BC := Lib.hid fun (w : World) (pp : Option Addr) (cc : Nat) (X : List Byte) (hX : X.length = 16) (h : RdB w pp X) => show Gives Tryz.prog 39 #[.slice pp 16 cc] w (A8 X) from by
   have := rblock_any X pp cc w h (by omega)
   rwa [blk_self X hX, hX] at this
 obtain ⟨WF, hWF⟩ : ∃ G, G = wF F ps := ⟨_, rfl⟩
 obtain ⟨XF, hXF⟩ : ∃ G, G = xF F ps := ⟨_, rfl⟩
 have LWF := Lib.hid fun k => show (WF k).length = 16 from by rw [hWF]; exact wF_length F ps k
 have LXF := Lib.hid fun k => show (XF k).length = 16 from by rw [hXF]; exact xF_length F ps k
 have EWF := Lib.hid fun k => show bothL (fstB ps k) (F 1 ((k : Int) + 1) (sndB ps k)) = WF k from by rw [hWF]; rfl
 have EXF := Lib.hid fun k => show bothL (sndB ps k) (F 0 0 (WF k)) = XF k from by rw [hXF, hWF]; rfl
 have HWF := Lib.hid hWF
 have HXF := Lib.hid hXF
 have SC := Lib.hid fun (w : World) (X Y : List Byte) (hX : X.length = 16) (hY : Y.length = 16) => sixteen_any X Y hX hY w
 have EC := Lib.hid CE
 have HFL := Lib.hid hF
 have PC := Lib.hid fun w => rparts_any n np dd ln ldd lnp w
 have FITM := Lib.hid (show (0 + n) * (1 + 1) ≤ 140737488355328 by omega)
 have LM := Lib.hid (show (l.map v8).length = n * 1 by rw [List.length_map, ← hn, Nat.mul_one])
 have HL := Lib.hid hl
 have HEJ := Lib.hid ej
 have SEGX := Lib.hid fun A (hA : A = 32 * np + dd) => show (l.drop A).take 16 = x from by
   rw [ej, ← List.append_assoc, ← List.append_assoc, List.drop_append_of_le_length (by simp only [List.length_append, lps]; omega), List.drop_of_length_le (by simp only [List.length_append, lps]; omega), List.nil_append, List.take_append_of_le_length (by omega), List.take_of_length_le (by omega)]
 have SEGY := Lib.hid fun A (hA : A = 32 * np + dd + 16) => show l.drop A = y from by
   rw [ej, ← List.append_assoc, ← List.append_assoc, ← List.append_assoc, List.drop_append_of_le_length (by simp only [List.length_append, lps]; omega), List.drop_of_length_le (by simp only [List.length_append, lps]; omega), List.nil_append]
 have EREST := Lib.hid (show l.drop (32 * np) = u ++ (v ++ (x ++ y)) from by rw [ej, List.drop_append_of_le_length (by rw [lps]; exact Nat.le_refl _), List.drop_of_length_le (by rw [lps]; exact Nat.le_refl _), List.nil_append])
 have HNL := Lib.hid hn
 have LN := Lib.hid ln
 have x1 : (n : Int) - 32 = ((32 * np + dd : Nat) : Int) := by omega
 obtain ⟨n32, hn32⟩ : ∃ m, m = 32 * np + dd := ⟨_, rfl⟩
 rw [← hn32] at x1
 have x2 : (n32 : Int).tdiv 32 = (np : Int) := by rw [Int.tdiv_eq_ediv_of_nonneg (by omega)]; omega
 have x3 : (n32 : Int) / 32 = (np : Int) := by omega
 have HN32 := Lib.hid hn32
 have HNP8 : (np : Int) ≤ 8 := by omega
 clear hH hnp ok ej hr CE hF hl hn32 h300 h32 hWF hXF
 rw [← hn]
 clear hn
 have hr16 : n ≤ 1000 := by omega
 have hn32' : 32 ≤ n := by omega
 have LPS := Lib.hid lps
 have LDD := Lib.hid hdd
 have LUV := Lib.hid luv
 clear ln hdd lps luv
 go_enter Tryz.func12, Tryz.ntmps12
 go_upto_if 44 with (first | ((first | ((with_reducible show qBx); first | ((with_reducible apply wq_boxN hm); exact rfl; exact rfl))); clear hm; (first | (have hx_ := g1; clear hx_; (first | (have hx_ := g2; clear hx_; (first | (have hx_ := g3; clear hx_; (first | (have hx_ := g4; clear hx_; (first | (have hx_ := g5; clear hx_; (first | (have hx_ := g6; clear hx_; intro gx_) | intro g6)) | intro g5)) | intro g4)) | intro g3)) | intro g2)) | intro g1); intro w hm))
 go_cut [9, 10] from 44 to 44 (fun va vb wc => va = .int .i64 a ∧ vb = .int .i64 b ∧ Own w0 wc [⟨g1, 39, R.map v8⟩])
 case first =>
   rcases hab with ⟨rfl, rfl, rfl⟩ | ⟨rfl, rfl, rfl⟩
   · go_wp2_with fail
     go_meet
     exact ⟨rfl, rfl, hm⟩
   · go_wp2_with fail
     go_meet
     exact ⟨rfl, rfl, hm⟩
 obtain ⟨rfl, rfl, hc⟩ := hcut
 have ha0 : 0 ≤ a ∧ a ≤ 2 := by omega
 have hb0 : 0 ≤ b ∧ b ≤ 2 := by omega
 clear hm hab
 obtain ⟨w, rfl⟩ : ∃ w_, w_ = wc := ⟨_, rfl⟩
 have hm := hc
 clear hc
 go_wp2_with (first | (go_at_call 41; (with_reducible refine (H1.out _ hm.x).mono ?_); rintro e_ w ⟨rfl, hx_⟩; replace hm := hm.ext hx_; clear hx_) | ((with_reducible apply wq_bs0 bs0_b hm); exact rfl; clear hm; intro gz w hm) | ((with_reducible show wpList _ _ _ (Oper.mk _ (Op.call _) _ _ _ _ :: _) _ _); refine wplO_app (M := [⟨gz, 5, []⟩]) (R := [⟨g2, 36, H.map v8⟩, ⟨g1, 39, R.map v8⟩]) (ds := l.map v8) hm (slo_room0 gz _ 1) rfl rfl rfl rfl Tryz.underlying22 LM.out (cellsB (HL.out.ext hm.x)) (one_map _) FITM.out ?_; clear hm; intro v1 w M1 hm hs1; obtain ⟨p_v1, c_v1, rfl⟩ := hs1.form; simp only [Nat.zero_add, List.nil_append] at hs1 ⊢) | ((with_reducible show qLd); first | ((with_reducible apply wq_ldW hm); exact rfl; infer_instance; exact rfl; (focus ((repeat (first | exact .hd | assumption | apply Has.tl | apply Has.app)); done)); (focus (first | rfl | omega | (simp; done) | (simp; omega))))) | ((((with_reducible show qSt); first | ((with_reducible apply wq_stW hm); exact rfl; infer_instance; exact rfl; exact rfl; (focus ((repeat (first | exact .hd | assumption | apply Swap.tl | apply Swap.app)); done)); (focus (first | rfl | omega | (simp; done) | (simp; omega))); (focus (first | rfl | omega | (simp; done) | (simp; omega))); (focus (first | exact one_map _ | (simp [one8, one32, one64]; done)))))); clear hm; intro w hm) | ((first | ((with_reducible show qAl); first | ((with_reducible apply wq_new hm); exact rfl; infer_instance))); clear hm; (first | (have hx_ := g1; clear hx_; (first | (have hx_ := g2; clear hx_; (first | (have hx_ := g3; clear hx_; (first | (have hx_ := g4; clear hx_; (first | (have hx_ := g5; clear hx_; (first | (have hx_ := g6; clear hx_; intro gx_) | intro g6)) | intro g5)) | intro g4)) | intro g3)) | intro g2)) | intro g1); intro w hm))
 have HSM := Lib.hid hs1
 obtain ⟨wA, hwA⟩ : ∃ v, v = w := ⟨_, rfl⟩
 have HMA : Hid (Own w0 wA (M1 ++ [⟨g2, 36, H.map v8⟩, ⟨g1, 39, R.map v8⟩])) := Lib.hid (by rw [hwA]; exact hm)
 have hmA := HMA.out
 have RK := Lib.hid fun wx (h : Ext wA wx) => (hmA.ext h).rdB (g := g1) (l := R) (by repeat (first | exact Has.hd | assumption | apply Has.tl | apply Has.app))
 have RH := Lib.hid fun wx (h : Ext wA wx) => (hmA.ext h).rdB (g := g2) (l := H) (by repeat (first | exact Has.hd | assumption | apply Has.tl | apply Has.app))
 have RM := Lib.hid fun wx (h : Ext wA wx) => slo_rdB hs1 (hmA.ext h)
 have XA := Lib.hid hmA.x
 have hcm : n ≤ c_v1 := by
   obtain ⟨_, _, hv, h, _⟩ := hs1.cells hmA
   cases hv; exact h
 clear hm hs1 hmA
 have hm : Own wA w [] := hwA ▸ Own.start wA
 have HWA := Lib.hid hwA
 clear hwA
 refine (PC.out _).mono ?_
 rintro e w ⟨vP, MP, rfl, hsP, hmP⟩
 replace hm : Own wA w MP := by have := HWA.out; subst this; exact hmP
 clear hmP HWA
 obtain ⟨qP, cP, rfl⟩ := hsP.form
 obtain ⟨gp, op, cur, rfl, rfl, hcur⟩ : ∃ gp op cur, qP = some ⟨gp, op, none⟩ ∧ MP = [⟨gp, 85, cur⟩] ∧ (cur.drop op).take ((2 * np + (midN dd + 2)) * 3) = partC np dd := by
   rcases hsP.2 with ⟨_, h2, _⟩ | ⟨g', o', cap', cur', h1, h2, _, _, _, h3⟩
   · omega
   · cases h1; exact ⟨g', o', cur', rfl, h2, h3⟩
 have HCUR := Lib.hid hcur
 obtain ⟨NP, hNP⟩ : ∃ m, m = 2 * np + (midN dd + 2) := ⟨_, rfl⟩
 rw [← hNP] at HCUR ⊢
 have HNP := Lib.hid hNP
 clear hsP hcur hNP
 go_wp2_with fail
 refine pregion 5 (JZ2 wA [⟨gp, 85, cur⟩] 36 np ((zer (16 * np)).map v8)) [1, 3] 308 (by kernel_rfl) (by kernel_rfl) rfl (⟨none, none, rfl, hm.ext (drew_ext _)⟩) ?_
 simp only [tSC, List.take_zero, dSC, List.drop_zero, List.map_cons, List.map_nil]
 repeat (first
     | (apply pwalk_mark (T := []) 0 [] rfl rfl rfl (by kernel_rfl) rfl
        · (intro vs_ wx hJ_ hn_ hD_; simp only [pwithS]; obtain ⟨a_, b_, rfl, hX_⟩ := hJ_; obtain rfl : a_ = none := (by simpa using hn_); obtain ⟨L_, hm, hk_⟩ := hX_.at0; refine ⟨rfl, ?_⟩; (with_reducible apply wq_mkB np hm); exact rfl; exact rfl; (exact (show np ≤ 1000 from by omega)); clear hm; intro g_ w_ hm; exact mark_end rfl (hk_ _ _ hm)))
     | (apply pwalk_mark (T := []) 1 [] rfl rfl rfl (by kernel_rfl) rfl
        · (intro vs_ wx hJ_ hn_ hD_; simp only [pwithS]; obtain ⟨a_, b_, rfl, hX_⟩ := hJ_; obtain rfl : b_ = none := (by simpa using hn_); obtain ⟨L_, hm, hk_⟩ := hX_.at1; refine ⟨rfl, ?_⟩; (with_reducible apply wq_mkB np hm); exact rfl; exact rfl; (exact (show np ≤ 1000 from by omega)); clear hm; intro g_ w_ hm; exact mark_end rfl (hk_ _ _ hm)))
     | (apply pwalk_from_some (T := [(62, PMk 0)]) (PMk 0) 16 (pstable_mk _ 0) rfl rfl rfl rfl; (intro vs_ wx hJ_; simp only [pwithS]; intro x_ hx_; refine ⟨rfl, ?_⟩; go_simp; exact gives_val (Ext.refl _) hx_))
     | (apply pwalk_is rfl rfl rfl rfl
        · (intro vs_ wx hJ_; obtain ⟨a_, b_, rfl, hX_⟩ := hJ_; have hm := hX_.low; first | ((with_reducible show gives _ _ _ (Sem.run _ (execOp _ (Oper.mk _ (Op.load _ _) _ _ _ _)) _)); first | ((with_reducible apply gq_ldv hm); infer_instance; exact rfl; (focus ((repeat (first | exact .hd | assumption | apply Has.tl | apply Has.app)); done)); (focus (first | omega | (simp; omega) | (refine ltB ?_; first | omega | (simp; done) | (simp; omega))))) | ((with_reducible apply gq_ldW hm); infer_instance; exact rfl; (focus ((repeat (first | exact .hd | assumption | apply Has.tl | apply Has.app)); done)); (focus (first | rfl | omega | (simp; done) | (simp; omega)))) | ((with_reducible apply gq_ld1 hm); infer_instance; exact rfl; (focus ((repeat (first | exact .hd | assumption | apply Has.tl | apply Has.app)); done)); exact rfl)) | (go_simp; (try go_bits); first | exact gives_same | exact gives_skip))
        · (simp only [Act.put, sIB, sCS, sCZ]; rfl)))
 intro vs_ wz hJ_ hl_ hall_
 simp only [zCC, zNR]
 repeat rw [pfin_is]
 rw [pfin_cons]; intro x62 hx62
 repeat rw [pfin_is]
 rw [pfin_cons]; intro x64 hx64
 repeat rw [pfin_is]
 rw [pfin_cons]; intro x16 hx16
 repeat rw [pfin_is]
 rw [pfin_nil]
 simp only [Act.put, sIB, sCS, sCZ]
 obtain ⟨a_, b_, rfl, hX_⟩ := hJ_
 obtain ⟨p_, q_, rfl, rfl⟩ := some2 hall_
 obtain rfl := pmk0 hx62
 obtain rfl := pmk1 hx64
 obtain rfl := pmk0 hx16
 obtain ⟨gw, gx, rfl, rfl, hm2⟩ := hX_
 clear hm hl_ hall_ hx62 hx64 hx16
 have hm := hm2
 clear hm2
 go_wp2_with (first | ((first | ((with_reducible show qAl); first | ((with_reducible apply wq_new hm); exact rfl; infer_instance))); clear hm; (first | (have hx_ := g1; clear hx_; (first | (have hx_ := g2; clear hx_; (first | (have hx_ := g3; clear hx_; (first | (have hx_ := g4; clear hx_; (first | (have hx_ := g5; clear hx_; (first | (have hx_ := g6; clear hx_; intro gx_) | intro g6)) | intro g5)) | intro g4)) | intro g3)) | intro g2)) | intro g1); intro w hm))
 go_loopw [20] (fun i wr => ∃ k : Nat, k ≤ np ∧ i = .int .i64 k ∧ Own wA wr [⟨g4, 36, (zer 16).map v8⟩, ⟨g3, 36, (sumG XF k).map v8⟩, ⟨gx, 36, (blkC XF k np).map v8⟩, ⟨gw, 36, (blkC WF k np).map v8⟩, ⟨gp, 85, cur⟩]) (fun i _ => np - (intOf i).toNat)
 case atStart => exact ⟨0, by omega, rfl, by rw [blkC_zero, blkC_zero]; exact hm⟩
 case round =>
   clear hm
   obtain ⟨k, hk, rfl, hm⟩ := hrel
   by_cases hlt : k < np
   · have z1 : decide ((k : Int) < (np : Int)) = true := decide_eq_true (by omega)
     have z2 : (k : Int) < (np : Int) := by omega
     obtain ⟨k1, hk1⟩ : ∃ m, m = k + 1 := ⟨_, rfl⟩
     obtain ⟨t32, h32⟩ : ∃ m, m = 32 * k := ⟨_, rfl⟩
     obtain ⟨t48, h48⟩ : ∃ m, m = 32 * k + 16 := ⟨_, rfl⟩
     obtain ⟨t64, h64⟩ : ∃ m, m = 32 * k + 32 := ⟨_, rfl⟩
     have a0 : (k : Int) + 1 = (k1 : Int) := by omega
     have a1 : (32 : Int) * (k : Int) = (t32 : Int) := by omega
     have a2 : (t32 : Int) + 16 = (t48 : Int) := by omega
     have a3 : (t32 : Int) + 32 = (t64 : Int) := by omega
     have b1 : t32 ≤ t48 := by omega
     have b2 : t48 ≤ c_v1 := by have := LN.out; omega
     have b3 : t48 - t32 = 16 := by omega
     have b4 : t48 ≤ t64 := by omega
     have b5 : t64 ≤ c_v1 := by have := LN.out; omega
     have b6 : t64 - t48 = 16 := by omega
     have hkn : k < np := hlt
     have lF1 := LF1.out k hlt
     have lF2 := LF2.out k hlt
     have lW := LWF.out k
     have lX := LXF.out k
     have llc : l.length ≤ c_v1 := by rw [← HNL.out]; exact hcm
     have B1 := Lib.hid fun wx (h : Ext wA wx) => BC.out wx (slP p_v1 c_v1 t32) (c_v1 - t32) (fstB ps k) lF1 (by rw [← HF1.out k hlt, ← h32]; exact (RM.out wx h).slLH c_v1 t32 16 llc)
     have B2 := Lib.hid fun wx (h : Ext wA wx) => BC.out wx (slP p_v1 c_v1 t48) (c_v1 - t48) (sndB ps k) lF2 (by rw [← HF2.out k hlt, ← h48]; exact (RM.out wx h).slLH c_v1 t48 16 llc)
     have CE1 := Lib.hid fun wx (h : Ext wA wx) => EC.out wx (XA.out.trans h) 1 (k1 : Int) (sndB ps k) lF2 (by omega) (by omega) (by omega) (by omega)
     have CE2 := Lib.hid fun wx (h : Ext wA wx) => EC.out wx (XA.out.trans h) 0 0 (WF k) lW (by omega) (by omega) (by omega) (by omega)
     have ew := EWF.out k
     rw [a0] at ew
     have lE1 := HFL.out 1 (k1 : Int) (sndB ps k)
     have lE2 := HFL.out 0 0 (WF k)
     have CS1 := Lib.hid fun wx => (ew ▸ SC.out wx (fstB ps k) (F 1 (k1 : Int) (sndB ps k)) lF1 lE1 : Gives Tryz.prog 43 #[A8 (fstB ps k), A8 (F 1 (k1 : Int) (sndB ps k))] wx (A8 (WF k)))
     have CS2 := Lib.hid fun wx => (EXF.out k ▸ SC.out wx (sndB ps k) (F 0 0 (WF k)) lF2 lE2 : Gives Tryz.prog 43 #[A8 (sndB ps k), A8 (F 0 0 (WF k))] wx (A8 (XF k)))
     have lP := sumG_length XF k
     have CS3 := Lib.hid fun wx => show Gives Tryz.prog 43 #[A8 (sumG XF k), A8 (XF k)] wx (A8 (sumG XF (k + 1))) from SC.out wx (sumG XF k) (XF k) lP lX
     have lP1 := sumG_length XF (k + 1)
     have SW := Lib.hid (blkC_setv WF k np (k * 16) (by omega) hlt lW)
     have SX := Lib.hid (blkC_setv XF k np (k * 16) (by omega) hlt lX)
     have AWk := Lib.hid (blkC_atv WF (k + 1) np k (k * 16) (by omega) (by omega) (by omega) lW)
     have AXk := Lib.hid (blkC_atv XF (k + 1) np k (k * 16) (by omega) (by omega) (by omega) lX)
     have lBW := blkC_length WF k np
     have lBX := blkC_length XF k np
     have FB := Lib.hid (show k * 16 + 16 ≤ 16 * np by omega)
     generalize hBW1 : blkC WF (k + 1) np = BW1 at *
     generalize hBX1 : blkC XF (k + 1) np = BX1 at *
     generalize hBW : blkC WF k np = BW0 at *
     generalize hBX : blkC XF k np = BX0 at *
     generalize F 1 (k1 : Int) (sndB ps k) = E1 at *
     generalize F 0 0 (WF k) = E2 at *
     generalize fstB ps k = F1 at *
     generalize sndB ps k = F2 at *
     generalize hP1 : sumG XF (k + 1) = P1 at *
     have HP1 := Lib.hid hP1
     have HBW1 := Lib.hid hBW1
     have HBX1 := Lib.hid hBX1
     clear hP1 hBW1 hBX1
     generalize sumG XF k = P0 at *
     generalize WF k = W at *
     generalize XF k = X at *
     clear hBW hBX ew h32 h48 h64 hk1
     go_wp2_with fail
     refine pregion 21 (K2 _ _ 36 ((zer 16).map v8) (F1.map v8) (F2.map v8)) [17, 18, 19, 20] 308 (by kernel_rfl) (by kernel_rfl) rfl (⟨none, none, none, none, rfl, TwoV.start (hm.ext (drew_ext _))⟩) ?_
     simp only [tSC, List.take_zero, dSC, List.drop_zero, List.map_cons, List.map_nil]
     repeat (first
         | (apply pwalk_is rfl rfl rfl rfl; (intro vs_ wx hJ_; obtain ⟨a_, b_, c_, d_, rfl, hT_⟩ := hJ_; have hm := hT_.low; (with_reducible apply gq_slLH (l := t32) (h := t48) (r := 16) Tryz.underlying22); infer_instance; exact rfl; exact rfl; exact rfl; exact b1; exact b2; exact b3); (simp only [Act.put, sIB, sCS, sCZ]; rfl))
         | (apply pwalk_is rfl rfl rfl rfl; (intro vs_ wx hJ_; obtain ⟨a_, b_, c_, d_, rfl, hT_⟩ := hJ_; have hm := hT_.low; (with_reducible apply gq_slLH (l := t48) (h := t64) (r := 16) Tryz.underlying22); infer_instance; exact rfl; exact rfl; exact rfl; exact b4; exact b5; exact b6); (simp only [Act.put, sIB, sCS, sCZ]; rfl))
         | (apply pwalk_mark (T := []) 0 [] rfl rfl rfl rfl rfl; (intro vs_ wx hJ_ hn_ hD_; simp only [pwithS]; obtain ⟨a_, b_, c_, d_, rfl, hT_⟩ := hJ_; obtain rfl : a_ = none := (by simpa using hn_); have hm := hT_.oa; refine ⟨rfl, ?_⟩; (with_reducible apply wq_new hm); exact rfl; infer_instance; clear hm; intro g_ w_ hm; exact mark_end rfl (hT_.j0 hm)))
         | (apply pwalk_mark (T := []) 1 [] rfl rfl rfl rfl rfl; (intro vs_ wx hJ_ hn_ hD_; simp only [pwithS]; obtain ⟨a_, b_, c_, d_, rfl, hT_⟩ := hJ_; obtain rfl : b_ = none := (by simpa using hn_); have hm := hT_.ob; refine ⟨rfl, ?_⟩; (with_reducible apply wq_new hm); exact rfl; infer_instance; clear hm; intro g_ w_ hm; exact mark_end rfl (hT_.j1 hm)))
         | (apply pwalk_mark (T := [(21, PMk 0)]) 2 [] rfl rfl rfl rfl rfl; (intro vs_ wx hJ_ hn_ hD_; simp only [pwithS]; obtain ⟨a_, b_, c_, d_, rfl, hT_⟩ := hJ_; obtain rfl : c_ = none := (by simpa using hn_); intro x_ hx_; obtain rfl : a_ = some x_ := (by simpa [PMk] using hx_); obtain ⟨g_, rfl, hm⟩ := hT_.sa; refine ⟨rfl, ?_⟩; (with_reducible apply wq_stW hm); exact rfl; infer_instance; exact rfl; exact rfl; (focus ((repeat (first | exact .hd | assumption | apply Swap.tl | apply Swap.app)); done)); (focus (first | rfl | omega | (simp; done) | (simp; omega))); (focus (first | rfl | omega | (simp; done) | (simp; omega))); (focus (first | exact one_map _ | (simp [one8, one32, one64]; done))); clear hm; intro w_ hm; exact mark_end rfl (fun u_ => hT_.j2 hm)))
         | (apply pwalk_mark (T := [(22, PMk 1)]) 3 [] rfl rfl rfl rfl rfl; (intro vs_ wx hJ_ hn_ hD_; simp only [pwithS]; obtain ⟨a_, b_, c_, d_, rfl, hT_⟩ := hJ_; obtain rfl : d_ = none := (by simpa using hn_); intro x_ hx_; obtain rfl : b_ = some x_ := (by simpa [PMk] using hx_); obtain ⟨g_, rfl, hm⟩ := hT_.sb; refine ⟨rfl, ?_⟩; (with_reducible apply wq_stW hm); exact rfl; infer_instance; exact rfl; exact rfl; (focus ((repeat (first | exact .hd | assumption | apply Swap.tl | apply Swap.app)); done)); (focus (first | rfl | omega | (simp; done) | (simp; omega))); (focus (first | rfl | omega | (simp; done) | (simp; omega))); (focus (first | exact one_map _ | (simp [one8, one32, one64]; done))); clear hm; intro w_ hm; exact mark_end rfl (fun u_ => hT_.j3 hm)))
         | (apply pwalk_is rfl rfl rfl rfl
            · (intro vs_ wx hJ_; obtain ⟨a_, b_, c_, d_, rfl, hT_⟩ := hJ_; have hm := hT_.low; first | ((with_reducible show gives _ _ _ (Sem.run _ (execOp _ (Oper.mk _ (Op.load _ _) _ _ _ _)) _)); first | ((with_reducible apply gq_ldv hm); infer_instance; exact rfl; (focus ((repeat (first | exact .hd | assumption | apply Has.tl | apply Has.app)); done)); (focus (first | omega | (simp; omega) | (refine ltB ?_; first | omega | (simp; done) | (simp; omega))))) | ((with_reducible apply gq_ldW hm); infer_instance; exact rfl; (focus ((repeat (first | exact .hd | assumption | apply Has.tl | apply Has.app)); done)); (focus (first | rfl | omega | (simp; done) | (simp; omega)))) | ((with_reducible apply gq_ld1 hm); infer_instance; exact rfl; (focus ((repeat (first | exact .hd | assumption | apply Has.tl | apply Has.app)); done)); exact rfl)) | (go_simp; (try go_bits); first | exact gives_same | exact gives_skip | with_reducible exact gives_call (B1.out wx hm.x) | with_reducible exact gives_call (B2.out wx hm.x)))
            · (simp only [Act.put, sIB, sCS, sCZ]; rfl)))
     intro vs_ wz hJ_ hl_ hall_
     simp only [zCC, zNR]
     repeat rw [pfin_is]
     rw [pfin_cons]; intro x21 hx21
     repeat rw [pfin_is]
     rw [pfin_cons]; intro x22 hx22
     repeat rw [pfin_is]
     rw [pfin_cons]; intro y21 hy21
     repeat rw [pfin_is]
     rw [pfin_cons]; intro y22 hy22
     repeat rw [pfin_is]
     rw [pfin_nil]
     simp only [Act.put, sIB, sCS, sCZ]
     obtain ⟨a_, b_, c_, d_, rfl, hT_⟩ := hJ_
     obtain ⟨p_, q_, r_, s_, rfl, rfl, rfl, rfl⟩ := some4 hall_
     clear hm
     obtain ⟨g21_, g22_, rfl, rfl, hm⟩ := hT_.fin
     obtain rfl := pmk0 hx21
     obtain rfl := pmk1 hx22
     clear hT_ hl_ hall_ hx21 hx22 hy21 hy22 y21 y22
     go_wp2_with fail
     have hx0 := hm.x
     refine region_at 10 (fun w' => Ext _ w') 308 (by kernel_rfl) (by kernel_rfl) rfl (fun _ _ h k => h.trans k) (drew_ext _) ?_
     simp only [tSC, List.take_zero, dSC, List.drop_zero, List.map_cons, List.map_nil]
     repeat (first
         | (apply walk_is rfl rfl rfl
            · (intro wx hwx; (with_reducible apply gq_rdW ((fun wx hwx => RK.out wx (hx0.trans hwx)) wx hwx)); infer_instance; exact rfl; (focus (first | rfl | omega | (simp; done) | (simp; omega))))
            · (simp only [Act.put, sIB, sCS, sCZ]; rfl))
         | (apply walk_is rfl rfl rfl
            · (intro wx hwx; first | ((with_reducible show gives _ _ _ (Sem.run _ (execOp _ (Oper.mk _ (Op.load _ _) _ _ _ _)) _)); first | ((with_reducible apply gq_ldv (hm.ext hwx)); infer_instance; exact rfl; (focus ((repeat (first | exact .hd | assumption | apply Has.tl | apply Has.app)); done)); (focus (first | omega | (simp; omega) | (refine ltB ?_; first | omega | (simp; done) | (simp; omega))))) | ((with_reducible apply gq_ldW (hm.ext hwx)); infer_instance; exact rfl; (focus ((repeat (first | exact .hd | assumption | apply Has.tl | apply Has.app)); done)); (focus (first | rfl | omega | (simp; done) | (simp; omega)))) | ((with_reducible apply gq_ld1 (hm.ext hwx)); infer_instance; exact rfl; (focus ((repeat (first | exact .hd | assumption | apply Has.tl | apply Has.app)); done)); exact rfl)) | (go_simp; (try go_bits); first | exact gives_same | exact gives_skip | with_reducible exact gives_call (CE1.out wx (hx0.trans hwx)) | with_reducible exact gives_call (CS1.out wx)))
            · (simp only [Act.put, sIB, sCS, sCZ]; rfl))
         | (apply walk_not rfl rfl rfl
            · (simp only [Act.put, sIB, sCS, sCZ]; rfl)))
     intro wz hwz
     simp only [zCC, zNR]
     repeat (first | rw [fin_is] | (rw [fin_cons]; intro _ _))
     rw [fin_nil]
     try (replace hm := hm.ext hwz)
     simp only [Act.put, sIB, sCS, sCZ]
     clear hx0
     go_wp2_with (first | ((with_reducible apply wq_stA hm); exact rfl; infer_instance; exact rfl; exact rfl; (focus ((repeat (first | exact .hd | assumption | apply Swap.tl | apply Swap.app)); done)); (exact SW.out); (exact ((List.length_map ..).trans lW)); (exact (by rw [List.length_map, lBW]; exact FB.out)); (exact (one_map _)); clear hm; intro w hm))
     have hx0 := hm.x
     refine region_at 11 (fun w' => Ext _ w') 308 (by kernel_rfl) (by kernel_rfl) rfl (fun _ _ h k => h.trans k) (drew_ext _) ?_
     simp only [tSC, List.take_zero, dSC, List.drop_zero, List.map_cons, List.map_nil]
     repeat (first
         | (apply walk_is rfl rfl rfl
            · (intro wx hwx; (with_reducible apply gq_rdW ((fun wx hwx => RK.out wx (hx0.trans hwx)) wx hwx)); infer_instance; exact rfl; (focus (first | rfl | omega | (simp; done) | (simp; omega))))
            · (simp only [Act.put, sIB, sCS, sCZ]; rfl))
         | (apply walk_is rfl rfl rfl; (intro wx hwx; (with_reducible apply gq_ldN (hm.ext hwx)); infer_instance; exact rfl; (focus ((repeat (first | exact .hd | assumption | apply Has.tl | apply Has.app)); done)); (exact AWk.out); (exact ((List.length_map ..).trans lW))); (simp only [Act.put, sIB, sCS, sCZ]; rfl))
         | (apply walk_is rfl rfl rfl
            · (intro wx hwx; first | ((with_reducible show gives _ _ _ (Sem.run _ (execOp _ (Oper.mk _ (Op.load _ _) _ _ _ _)) _)); first | ((with_reducible apply gq_ldv (hm.ext hwx)); infer_instance; exact rfl; (focus ((repeat (first | exact .hd | assumption | apply Has.tl | apply Has.app)); done)); (focus (first | omega | (simp; omega) | (refine ltB ?_; first | omega | (simp; done) | (simp; omega))))) | ((with_reducible apply gq_ldW (hm.ext hwx)); infer_instance; exact rfl; (focus ((repeat (first | exact .hd | assumption | apply Has.tl | apply Has.app)); done)); (focus (first | rfl | omega | (simp; done) | (simp; omega)))) | ((with_reducible apply gq_ld1 (hm.ext hwx)); infer_instance; exact rfl; (focus ((repeat (first | exact .hd | assumption | apply Has.tl | apply Has.app)); done)); exact rfl)) | (go_simp; (try go_bits); first | exact gives_same | exact gives_skip | with_reducible exact gives_call (CE2.out wx (hx0.trans hwx)) | with_reducible exact gives_call (CS2.out wx)))
            · (simp only [Act.put, sIB, sCS, sCZ]; rfl))
         | (apply walk_not rfl rfl rfl
            · (simp only [Act.put, sIB, sCS, sCZ]; rfl)))
     intro wz hwz
     simp only [zCC, zNR]
     repeat (first | rw [fin_is] | (rw [fin_cons]; intro _ _))
     rw [fin_nil]
     try (replace hm := hm.ext hwz)
     simp only [Act.put, sIB, sCS, sCZ]
     clear hx0
     go_wp2_with (first | ((with_reducible apply wq_stA hm); exact rfl; infer_instance; exact rfl; exact rfl; (focus ((repeat (first | exact .hd | assumption | apply Swap.tl | apply Swap.app)); done)); (exact SX.out); (exact ((List.length_map ..).trans lX)); (exact (by rw [List.length_map, lBX]; exact FB.out)); (exact (one_map _)); clear hm; intro w hm))
     have hx0 := hm.x
     refine region_at 6 (fun w' => Ext _ w') 308 (by kernel_rfl) (by kernel_rfl) rfl (fun _ _ h k => h.trans k) (drew_ext _) ?_
     simp only [tSC, List.take_zero, dSC, List.drop_zero, List.map_cons, List.map_nil]
     repeat (first
         | (apply walk_is rfl rfl rfl; (intro wx hwx; (with_reducible apply gq_ldN (hm.ext hwx)); infer_instance; exact rfl; (focus ((repeat (first | exact .hd | assumption | apply Has.tl | apply Has.app)); done)); (exact AXk.out); (exact ((List.length_map ..).trans lX))); (simp only [Act.put, sIB, sCS, sCZ]; rfl))
         | (apply walk_is rfl rfl rfl
            · (intro wx hwx; first | ((with_reducible show gives _ _ _ (Sem.run _ (execOp _ (Oper.mk _ (Op.load _ _) _ _ _ _)) _)); first | ((with_reducible apply gq_ldv (hm.ext hwx)); infer_instance; exact rfl; (focus ((repeat (first | exact .hd | assumption | apply Has.tl | apply Has.app)); done)); (focus (first | omega | (simp; omega) | (refine ltB ?_; first | omega | (simp; done) | (simp; omega))))) | ((with_reducible apply gq_ldW (hm.ext hwx)); infer_instance; exact rfl; (focus ((repeat (first | exact .hd | assumption | apply Has.tl | apply Has.app)); done)); (focus (first | rfl | omega | (simp; done) | (simp; omega)))) | ((with_reducible apply gq_ld1 (hm.ext hwx)); infer_instance; exact rfl; (focus ((repeat (first | exact .hd | assumption | apply Has.tl | apply Has.app)); done)); exact rfl)) | (go_simp; (try go_bits); first | exact gives_same | exact gives_skip | with_reducible exact gives_call (CS3.out wx)))
            · (simp only [Act.put, sIB, sCS, sCZ]; rfl))
         | (apply walk_not rfl rfl rfl
            · (simp only [Act.put, sIB, sCS, sCZ]; rfl)))
     intro wz hwz
     simp only [zCC, zNR]
     repeat (first | rw [fin_is] | (rw [fin_cons]; intro _ _))
     rw [fin_nil]
     try (replace hm := hm.ext hwz)
     simp only [Act.put, sIB, sCS, sCZ]
     clear hx0
     go_wp2_with (first | ((((with_reducible show qSt); first | ((with_reducible apply wq_stW hm); exact rfl; infer_instance; exact rfl; exact rfl; (focus ((repeat (first | exact .hd | assumption | apply Swap.tl | apply Swap.app)); done)); (focus (first | rfl | omega | (simp; done) | (simp; omega))); (focus (first | rfl | omega | (simp; done) | (simp; omega))); (focus (first | exact one_map _ | (simp [one8, one32, one64]; done)))))); clear hm; intro w hm))
     have hm2 := own_subq (M := [⟨g4, 36, (zer 16).map v8⟩, ⟨g3, 36, P1.map v8⟩, ⟨gx, 36, BX1.map v8⟩, ⟨gw, 36, BW1.map v8⟩, ⟨gp, 85, cur⟩]) hm (by repeat (first | exact List.Sublist.refl _ | apply List.Sublist.cons_cons | apply List.Sublist.cons))
     clear hm
     go_roundw
     case rel => exact ⟨k + 1, hkn, by go_num, by rw [HP1.out, HBW1.out, HBX1.out]; exact hm2⟩
     case measure => simp [intOf] <;> omega
   · obtain rfl : k = np := by omega
     have d1 : decide ((k : Int) < (k : Int)) = false := decide_eq_false (by omega)
     obtain ⟨PN, hPN⟩ : ∃ X, X = sumG XF k := ⟨_, rfl⟩
     obtain ⟨BX, hBX⟩ : ∃ X, X = blkC XF k k := ⟨_, rfl⟩
     obtain ⟨BW, hBW⟩ : ∃ X, X = blkC WF k k := ⟨_, rfl⟩
     rw [← hPN, ← hBX, ← hBW] at hm
     have HPN := Lib.hid hPN
     have HBX := Lib.hid hBX
     have HBW := Lib.hid hBW
     obtain ⟨np2, hnp2⟩ : ∃ m, m = 2 * k := ⟨_, rfl⟩
     have z1 : (2 : Int) * (k : Int) = (np2 : Int) := by omega
     have HNP2 := Lib.hid hnp2
     obtain ⟨us, hus⟩ : ∃ f : Nat → List Byte, f = fun j => if 1 ≤ j then u else [] := ⟨_, rfl⟩
     obtain ⟨vs, hvs⟩ : ∃ f : Nat → List Byte, f = fun j => if 2 ≤ j then v else [] := ⟨_, rfl⟩
     obtain ⟨ua, hua⟩ : ∃ f : Nat → Nat, f = fun j => if 1 ≤ j ∧ 0 < dd then 32 * k else 0 := ⟨_, rfl⟩
     obtain ⟨va, hva⟩ : ∃ f : Nat → Nat, f = fun j => if 2 ≤ j ∧ 16 ≤ dd then 32 * k + 16 else 0 := ⟨_, rfl⟩
     have US := Lib.hid fun j => show us j = if 1 ≤ j then u else [] from by rw [hus]
     have VS := Lib.hid fun j => show vs j = if 2 ≤ j then v else [] from by rw [hvs]
     have UA := Lib.hid fun j => show ua j = if 1 ≤ j ∧ 0 < dd then 32 * k else 0 from by rw [hua]
     have VA := Lib.hid fun j => show va j = if 2 ≤ j ∧ 16 ≤ dd then 32 * k + 16 else 0 from by rw [hva]
     have LUV' := Lib.hid (show u.length < 16 → v.length = 0 from fun h => by rw [LUV.out h]; rfl)
     have SEGU := Lib.hid fun A N (hA : A = 32 * k) (hN : N = u.length) => show (l.drop A).take N = u from by
       rw [HEJ.out, List.drop_append_of_le_length (by rw [LPS.out]; omega), List.drop_of_length_le (by rw [LPS.out]; omega), List.nil_append, hN, List.take_append_of_le_length (Nat.le_refl _), List.take_of_length_le (Nat.le_refl _)]
     have SEGV := Lib.hid fun A N (hA : A = 32 * k + 16) (hN : N = v.length) (hu : u.length = 16) => show (l.drop A).take N = v from by
       rw [HEJ.out, ← List.append_assoc, List.drop_append_of_le_length (by rw [List.length_append, LPS.out]; omega), List.drop_of_length_le (by rw [List.length_append, LPS.out]; omega), List.nil_append, hN, List.take_append_of_le_length (Nat.le_refl _), List.take_of_length_le (Nat.le_refl _)]
     have hNP20 : NP ≤ 20 := by have := HNP.out; unfold midN at this; split at this <;> (try split at this) <;> omega
     clear hPN hBX hBW hnp2 hus hvs hua hva
     obtain ⟨np, hnpk⟩ : ∃ m, m = k := ⟨_, rfl⟩
     obtain rfl := hnpk
     go_wp2_with fail
     go_loopw [23, 24, 25, 26, 27] (fun x1 x2 x3 x4 i wr => ∃ (j I : Nat) (Mu Mv : List Blk), j ≤ midN dd + 2 ∧ I = 2 * np + j ∧ i = .int .i64 I ∧ x3 = .int .i64 (ua j : Int) ∧ x4 = .int .i64 (va j : Int) ∧ SlO Mu 5 1 x1 (us j).length ((us j).map v8) ∧ SlO Mv 5 1 x2 (vs j).length ((vs j).map v8) ∧ Own wA wr (Mu ++ (Mv ++ [⟨g4, 36, (zer 16).map v8⟩, ⟨g3, 36, PN.map v8⟩, ⟨gx, 36, BX.map v8⟩, ⟨gw, 36, BW.map v8⟩, ⟨gp, 85, cur⟩]))) (fun _ _ _ _ i _ => NP - (intOf i).toNat)
     case atStart => exact ⟨0, np2, [], [], by omega, by have := HNP2.out; omega, rfl, by rw [UA.out, if_neg (by omega)]; rfl, by rw [VA.out, if_neg (by omega)]; rfl, by rw [US.out, if_neg (by omega)]; exact SlO.nil _ _, by rw [VS.out, if_neg (by omega)]; exact SlO.nil _ _, hm⟩
     case round =>
       clear hm
       obtain ⟨j, I, Mu, Mv, hj, hI, rfl, rfl, rfl, hsu, hsv, hm⟩ := hrel
       obtain ⟨qu, cu, rfl⟩ := hsu.form
       obtain ⟨qv, cv, rfl⟩ := hsv.form
       have HSU := Lib.hid hsu
       have HSV := Lib.hid hsv
       clear hsu hsv
       by_cases hlt : j < midN dd + 2
       · have c1 : decide ((I : Int) < (NP : Int)) = true := decide_eq_true (by have := HNP.out; omega)
         have c2 : (I : Int) < (NP : Int) := of_decide_eq_true c1
         have c3 : I < NP := by omega
         have HI := Lib.hid hI
         rcases (show (0 < dd ∧ j = 0) ∨ (16 ≤ dd ∧ j = 1) ∨ (¬ (0 < dd ∧ j = 0) ∧ ¬ (16 ≤ dd ∧ j = 1)) by omega) with ⟨hd0, hj0⟩ | ⟨hd0, hj0⟩ | ⟨hj0, hj1⟩
         · obtain ⟨A, hA⟩ : ∃ m, m = 32 * np := ⟨_, rfl⟩
           obtain ⟨N, hN⟩ : ∃ m, m = u.length := ⟨_, rfl⟩
           obtain ⟨AN, hAN⟩ : ∃ m, m = A + N := ⟨_, rfl⟩
           have kk := kind_u np dd N (by omega) (by have := LDD.out; have := LUV'.out; omega)
           have e0 := Lib.hid (show cur[op + I * 3 + 0]? = some (.int .i64 ((6 : Nat) : Int)) from (part_at np dd j 0 (by omega) op cur NP HNP.out HCUR.out hlt I hI).trans (by rw [hj0]; exact kk.1))
           have e1 := Lib.hid (show cur[op + I * 3 + 1]? = some (.int .i64 (A : Int)) from (part_at np dd j 1 (by omega) op cur NP HNP.out HCUR.out hlt I hI).trans (by rw [hj0, hA]; exact kk.2.1))
           have e2 := Lib.hid (show cur[op + I * 3 + 2]? = some (.int .i64 (N : Int)) from (part_at np dd j 2 (by omega) op cur NP HNP.out HCUR.out hlt I hI).trans (by rw [hj0]; exact kk.2.2))
           have y1 : (A : Int) + (N : Int) = (AN : Int) := by omega
           have b1 : A ≤ AN := by omega
           have b2 : AN ≤ c_v1 := by have := LN.out; have := LDD.out; omega
           have b3 : AN - A = N := by omega
           have b4 : AN ≤ 1000 := by have := LN.out; have := LDD.out; omega
           have b5 : A ≤ 1000 := by omega
           have b6 : N ≤ 16 := by omega
           have llc : l.length ≤ c_v1 := by rw [← HNL.out]; exact hcm
           have RS := Lib.hid fun wx (h : Ext wA wx) => show RdB wx (slP p_v1 c_v1 A) u from by
             have := (RM.out wx h).slLH c_v1 A N llc
             rwa [show (l.drop A).take N = u from SEGU.out A N hA hN] at this
           have FIT := Lib.hid (show (0 + N) * (1 + 1) ≤ 140737488355328 by omega)
           have LL := Lib.hid (show (u.map v8).length = N * 1 by rw [List.length_map, hN, Nat.mul_one])
           have HA := Lib.hid hA
           have HN := Lib.hid hN
           clear hA hN hAN kk
           have eu : us (j + 1) = u := by
             rw [US.out, if_pos (by omega)]
           have ev : vs (j + 1) = vs j := by
             rw [VS.out, VS.out, if_neg (by omega), if_neg (by omega)]
           have ea : ua (j + 1) = A := by
             rw [UA.out, if_pos (by omega)]; exact HA.out.symm
           have eb : va (j + 1) = va j := by
             rw [VA.out, VA.out, if_neg (by omega), if_neg (by omega)]
           have EE := Lib.hid (And.intro eu (And.intro ev (And.intro ea eb)))
           have HLT := Lib.hid hlt
           clear eu ev ea eb hI hlt hj0 hj hd0
           go_wp2_with (first | ((with_reducible apply wq_ld1 hm); exact rfl; infer_instance; exact rfl; (focus ((repeat (first | exact .hd | assumption | apply Has.tl | apply Has.app | apply Has.app)); done)); (focus (first | exact e0.out | exact e1.out | exact e2.out))) | ((with_reducible apply wq_bs0 bs0_b hm); exact rfl; clear hm; intro gz w hm) | ((with_reducible apply wq_slLH (l := A) (h := AN) (r := N) Tryz.underlying22); infer_instance; exact rfl; exact rfl; exact rfl; exact rfl; exact b1; exact b2; exact b3) | ((with_reducible show wpList _ _ _ (Oper.mk _ (Op.call _) _ _ _ _ :: _) _ _); refine wplO_app (M := [⟨gz, 5, []⟩]) (R := Mu ++ (Mv ++ [⟨g4, 36, (zer 16).map v8⟩, ⟨g3, 36, PN.map v8⟩, ⟨gx, 36, BX.map v8⟩, ⟨gw, 36, BW.map v8⟩, ⟨gp, 85, cur⟩])) (ds := u.map v8) hm (slo_room0 gz _ 1) rfl rfl rfl rfl Tryz.underlying22 LL.out (cellsB (RS.out _ hm.x)) (one_map _) FIT.out ?_; clear hm; intro v5 w M5 hm hs5; obtain ⟨p_v5, c_v5, rfl⟩ := hs5.form; simp only [Nat.zero_add, List.nil_append] at hs5 ⊢))
           have HS5 := Lib.hid hs5
           have hm2 := own_subq (M := M5 ++ (Mv ++ [⟨g4, 36, (zer 16).map v8⟩, ⟨g3, 36, PN.map v8⟩, ⟨gx, 36, BX.map v8⟩, ⟨gw, 36, BW.map v8⟩, ⟨gp, 85, cur⟩])) hm (List.Sublist.append (List.Sublist.refl M5) (List.sublist_append_right Mu _))
           clear hm hs5
           go_roundw
           case rel => exact ⟨j + 1, I + 1, M5, Mv, HLT.out, by have := HI.out; omega, by go_num, by rw [EE.out.2.2.1], by rw [EE.out.2.2.2], by rw [EE.out.1, ← HN.out]; exact HS5.out, by rw [EE.out.2.1]; exact HSV.out, hm2⟩
           case measure => simp [intOf] <;> omega
         · obtain ⟨A, hA⟩ : ∃ m, m = 32 * np + 16 := ⟨_, rfl⟩
           obtain ⟨N, hN⟩ : ∃ m, m = v.length := ⟨_, rfl⟩
           obtain ⟨AN, hAN⟩ : ∃ m, m = A + N := ⟨_, rfl⟩
           have kk := kind_v np dd N (by omega) (by have := LDD.out; have := LUV'.out; omega)
           have e0 := Lib.hid (show cur[op + I * 3 + 0]? = some (.int .i64 ((7 : Nat) : Int)) from (part_at np dd j 0 (by omega) op cur NP HNP.out HCUR.out hlt I hI).trans (by rw [hj0]; exact kk.1))
           have e1 := Lib.hid (show cur[op + I * 3 + 1]? = some (.int .i64 (A : Int)) from (part_at np dd j 1 (by omega) op cur NP HNP.out HCUR.out hlt I hI).trans (by rw [hj0, hA]; exact kk.2.1))
           have e2 := Lib.hid (show cur[op + I * 3 + 2]? = some (.int .i64 (N : Int)) from (part_at np dd j 2 (by omega) op cur NP HNP.out HCUR.out hlt I hI).trans (by rw [hj0]; exact kk.2.2))
           have y1 : (A : Int) + (N : Int) = (AN : Int) := by omega
           have b1 : A ≤ AN := by omega
           have b2 : AN ≤ c_v1 := by have := LN.out; have := LDD.out; omega
           have b3 : AN - A = N := by omega
           have b4 : AN ≤ 1000 := by have := LN.out; have := LDD.out; omega
           have b5 : A ≤ 1000 := by omega
           have b6 : N ≤ 16 := by omega
           have llc : l.length ≤ c_v1 := by rw [← HNL.out]; exact hcm
           have RS := Lib.hid fun wx (h : Ext wA wx) => show RdB wx (slP p_v1 c_v1 A) v from by
             have := (RM.out wx h).slLH c_v1 A N llc
             rwa [show (l.drop A).take N = v from SEGV.out A N hA hN (by have := LDD.out; have := LUV'.out; omega)] at this
           have FIT := Lib.hid (show (0 + N) * (1 + 1) ≤ 140737488355328 by omega)
           have LL := Lib.hid (show (v.map v8).length = N * 1 by rw [List.length_map, hN, Nat.mul_one])
           have HA := Lib.hid hA
           have HN := Lib.hid hN
           clear hA hN hAN kk
           have eu : us (j + 1) = us j := by
             rw [US.out, US.out, if_pos (by omega), if_pos (by omega)]
           have ev : vs (j + 1) = v := by
             rw [VS.out, if_pos (by omega)]
           have ea : ua (j + 1) = ua j := by
             rw [UA.out, UA.out, if_pos (by omega), if_pos (by omega)]
           have eb : va (j + 1) = A := by
             rw [VA.out, if_pos (by omega)]; exact HA.out.symm
           have EE := Lib.hid (And.intro eu (And.intro ev (And.intro ea eb)))
           have HLT := Lib.hid hlt
           clear eu ev ea eb hI hlt hj0 hj hd0
           go_wp2_with (first | ((with_reducible apply wq_ld1 hm); exact rfl; infer_instance; exact rfl; (focus ((repeat (first | exact .hd | assumption | apply Has.tl | apply Has.app | apply Has.app)); done)); (focus (first | exact e0.out | exact e1.out | exact e2.out))) | ((with_reducible apply wq_bs0 bs0_b hm); exact rfl; clear hm; intro gz w hm) | ((with_reducible apply wq_slLH (l := A) (h := AN) (r := N) Tryz.underlying22); infer_instance; exact rfl; exact rfl; exact rfl; exact rfl; exact b1; exact b2; exact b3) | ((with_reducible show wpList _ _ _ (Oper.mk _ (Op.call _) _ _ _ _ :: _) _ _); refine wplO_app (M := [⟨gz, 5, []⟩]) (R := Mu ++ (Mv ++ [⟨g4, 36, (zer 16).map v8⟩, ⟨g3, 36, PN.map v8⟩, ⟨gx, 36, BX.map v8⟩, ⟨gw, 36, BW.map v8⟩, ⟨gp, 85, cur⟩])) (ds := v.map v8) hm (slo_room0 gz _ 1) rfl rfl rfl rfl Tryz.underlying22 LL.out (cellsB (RS.out _ hm.x)) (one_map _) FIT.out ?_; clear hm; intro v5 w M5 hm hs5; obtain ⟨p_v5, c_v5, rfl⟩ := hs5.form; simp only [Nat.zero_add, List.nil_append] at hs5 ⊢))
           have HS5 := Lib.hid hs5
           have hm2 := own_subq (M := Mu ++ (M5 ++ [⟨g4, 36, (zer 16).map v8⟩, ⟨g3, 36, PN.map v8⟩, ⟨gx, 36, BX.map v8⟩, ⟨gw, 36, BW.map v8⟩, ⟨gp, 85, cur⟩])) (hm.perm (perm_midq M5 Mu _)) (List.Sublist.append (List.Sublist.refl Mu) (List.Sublist.append (List.Sublist.refl M5) (List.sublist_append_right Mv _)))
           clear hm hs5
           go_roundw
           case rel => exact ⟨j + 1, I + 1, Mu, M5, HLT.out, by have := HI.out; omega, by go_num, by rw [EE.out.2.2.1], by rw [EE.out.2.2.2], by rw [EE.out.1]; exact HSU.out, by rw [EE.out.2.1, ← HN.out]; exact HS5.out, hm2⟩
           case measure => simp [intOf] <;> omega
         · obtain ⟨kd, hkd, hck⟩ := kind_c np dd j hlt hj0 hj1
           have e0 := Lib.hid ((part_at np dd j 0 (by omega) op cur NP HNP.out HCUR.out hlt I hI).trans hck)
           have e1 := e0
           have e2 := e0
           have k6 : ((kd : Int) == 6) = false := by rw [beq_eq_false_iff_ne]; omega
           have k6' : ¬ (kd : Int) = 6 := by omega
           have k7 : ((kd : Int) == 7) = false := by rw [beq_eq_false_iff_ne]; omega
           have k7' : ¬ (kd : Int) = 7 := by omega
           have eu : us (j + 1) = us j := by
             rw [US.out, US.out]
             by_cases h : j = 0
             · have hu0 : u = [] := List.eq_nil_of_length_eq_zero (by have := LDD.out; omega)
               rw [hu0]; simp
             · rw [if_pos (by omega), if_pos (by omega)]
           have ev : vs (j + 1) = vs j := by
             rw [VS.out, VS.out]
             by_cases h : j = 1
             · have hv0 : v = [] := List.eq_nil_of_length_eq_zero (by have := LDD.out; have := LUV'.out; omega)
               rw [hv0]; simp
             · by_cases h2 : 2 ≤ j
               · rw [if_pos (by omega), if_pos h2]
               · rw [if_neg (by omega), if_neg h2]
           have ea : ua (j + 1) = ua j := by
             rw [UA.out, UA.out]
             by_cases h : 1 ≤ j ∧ 0 < dd
             · rw [if_pos (by omega), if_pos h]
             · rw [if_neg (by omega), if_neg h]
           have eb : va (j + 1) = va j := by
             rw [VA.out, VA.out]
             by_cases h : 2 ≤ j ∧ 16 ≤ dd
             · rw [if_pos (by omega), if_pos h]
             · rw [if_neg (by omega), if_neg h]
           have EE := Lib.hid (And.intro eu (And.intro ev (And.intro ea eb)))
           have HLT := Lib.hid hlt
           clear eu ev ea eb hck hkd hI hlt hj0 hj1 hj
           go_wp2_with (first | ((with_reducible apply wq_ld1 hm); exact rfl; infer_instance; exact rfl; (focus ((repeat (first | exact .hd | assumption | apply Has.tl | apply Has.app | apply Has.app)); done)); (focus (first | exact e0.out | exact e1.out | exact e2.out))))
           go_roundw
           case rel => exact ⟨j + 1, I + 1, Mu, Mv, HLT.out, by have := HI.out; omega, by go_num, by rw [EE.out.2.2.1], by rw [EE.out.2.2.2], by rw [EE.out.1]; exact HSU.out, by rw [EE.out.2.1]; exact HSV.out, hm⟩
           case measure => simp [intOf] <;> omega
       · skip
         obtain rfl : j = midN dd + 2 := by omega
         have d2 : decide ((I : Int) < (NP : Int)) = false := decide_eq_false (by have := HNP.out; omega)
         have d3 : ¬ (I : Int) < (NP : Int) := of_decide_eq_false d2
         have eu : us (midN dd + 2) = u := by rw [US.out, if_pos (by omega)]
         have ev : vs (midN dd + 2) = v := by rw [VS.out, if_pos (by omega)]
         have HSU' := HSU.out
         have HSV' := HSV.out
         rw [eu] at HSU' ⊢
         rw [ev] at HSV' ⊢
         have HSU := Lib.hid HSU'
         have HSV := Lib.hid HSV'
         obtain ⟨atu, hau⟩ : ∃ m, m = ua (midN dd + 2) := ⟨_, rfl⟩
         obtain ⟨atv, hav⟩ : ∃ m, m = va (midN dd + 2) := ⟨_, rfl⟩
         rw [← hau, ← hav]
         have HAU := Lib.hid (show atu = if 0 < dd then 32 * np else 0 from by rw [hau, UA.out]; by_cases h : 0 < dd <;> simp [h])
         have HAV := Lib.hid (show atv = if 16 ≤ dd then 32 * np + 16 else 0 from by rw [hav, VA.out]; by_cases h : 16 ≤ dd <;> simp [h])
         clear hau hav HSU' HSV' eu ev US VS UA VA hI hj hlt
         obtain ⟨TL, hTL⟩ : ∃ X, X = tailL F u v := ⟨_, rfl⟩
         obtain ⟨PT, hPT⟩ : ∃ X, X = bothL PN TL := ⟨_, rfl⟩
         obtain ⟨X1, hX1⟩ : ∃ X, X = bothL x H := ⟨_, rfl⟩
         obtain ⟨EY, hEY⟩ : ∃ X, X = F 0 a y := ⟨_, rfl⟩
         obtain ⟨X2, hX2⟩ : ∃ X, X = bothL PT EY := ⟨_, rfl⟩
         obtain ⟨S, hS⟩ : ∃ X, X = bothL X1 X2 := ⟨_, rfl⟩
         obtain ⟨ES, hES⟩ : ∃ X, X = F (-1) a S := ⟨_, rfl⟩
         obtain ⟨TT, hTT⟩ : ∃ X, X = bothL y ES := ⟨_, rfl⟩
         obtain ⟨Z, hZ⟩ : ∃ X, X = bothL S TT := ⟨_, rfl⟩
         have lPN : PN.length = 16 := by rw [HPN.out]; exact sumG_length _ _
         have lTL : TL.length = 16 := by rw [hTL]; exact tailL_length F HFL.out u v
         have lPT : PT.length = 16 := by rw [hPT]; exact bothL_length _ _
         have lX1 : X1.length = 16 := by rw [hX1]; exact bothL_length _ _
         have lEY : EY.length = 16 := by rw [hEY]; exact HFL.out _ _ _
         have lX2 : X2.length = 16 := by rw [hX2]; exact bothL_length _ _
         have lS : S.length = 16 := by rw [hS]; exact bothL_length _ _
         have lES : ES.length = 16 := by rw [hES]; exact HFL.out _ _ _
         have lTT : TT.length = 16 := by rw [hTT]; exact bothL_length _ _
         have lZ : Z.length = 16 := by rw [hZ]; exact bothL_length _ _
         have S0 := Lib.hid fun w => (hPT ▸ SC.out w PN TL lPN lTL : Gives Tryz.prog 43 #[A8 PN, A8 TL] w (A8 PT))
         have S1 := Lib.hid fun w => (hX1 ▸ SC.out w x H lx lH : Gives Tryz.prog 43 #[A8 x, A8 H] w (A8 X1))
         have S2 := Lib.hid fun w => (hX2 ▸ SC.out w PT EY lPT lEY : Gives Tryz.prog 43 #[A8 PT, A8 EY] w (A8 X2))
         have S3 := Lib.hid fun w => (hS ▸ SC.out w X1 X2 lX1 lX2 : Gives Tryz.prog 43 #[A8 X1, A8 X2] w (A8 S))
         have S4 := Lib.hid fun w => (hTT ▸ SC.out w y ES ly lES : Gives Tryz.prog 43 #[A8 y, A8 ES] w (A8 TT))
         have S5 := Lib.hid fun w => (hZ ▸ SC.out w S TT lS lTT : Gives Tryz.prog 43 #[A8 S, A8 TT] w (A8 Z))
         have E1 := Lib.hid fun w (h : Ext w0 w) => (hEY ▸ EC.out w h 0 a y ly (by omega) (by omega) (by omega) (by omega) : Gives Tryz.prog 44 #[A8 R, .int .i64 0, .int .i64 a, A8 y] w (A8 EY))
         have E2 := Lib.hid fun w (h : Ext w0 w) => (hES ▸ EC.out w h (-1) a S lS (by omega) (by omega) (by omega) (by omega) : Gives Tryz.prog 44 #[A8 R, .int .i64 (-1), .int .i64 a, A8 S] w (A8 ES))
         have TC := Lib.hid fun w (h : Ext w0 w) (h1 : RdB w qu u) (h2 : RdB w qv v) => (hTL ▸ rtail_any R hR F HFL.out u v qu qv cu cv lu (by omega) w h1 h2 (fun wy hy => EC.out wy (h.trans hy)) : Gives Tryz.prog 45 #[A8 R, .slice qu u.length cu, .slice qv v.length cv] w (A8 TL))
         have HTL := Lib.hid hTL
         have HPT := Lib.hid hPT
         have HX1 := Lib.hid hX1
         have HEY := Lib.hid hEY
         have HX2 := Lib.hid hX2
         have HS := Lib.hid hS
         have HES := Lib.hid hES
         have HTT := Lib.hid hTT
         have HZ := Lib.hid hZ
         clear hTL hPT hX1 hEY hX2 hS hES hTT hZ
         go_wp2_with fail
         have hx0 := hm.x
         have c1 := fun wx (hwx : Ext _ wx) => TC.out wx (XA.out.trans (hx0.trans hwx)) (slo_rdB HSU.out (hm.ext hwx)) (slo_rdB HSV.out (hm.ext hwx).dropN)
         refine region_at 6 (fun w' => Ext _ w') 308 (by kernel_rfl) (by kernel_rfl) rfl (fun _ _ h k => h.trans k) (drew_ext _) ?_
         simp only [tSC, List.take_zero, dSC, List.drop_zero, List.map_cons, List.map_nil]
         repeat (first
             | (apply walk_is rfl rfl rfl
                · (intro wx hwx; (with_reducible apply gq_rdW ((fun wx hwx => RK.out wx (hx0.trans hwx)) wx hwx)); infer_instance; exact rfl; (focus (first | rfl | omega | (simp; done) | (simp; omega))))
                · (simp only [Act.put, sIB, sCS, sCZ]; rfl))
             | (apply walk_is rfl rfl rfl
                · (intro wx hwx; first | ((with_reducible show gives _ _ _ (Sem.run _ (execOp _ (Oper.mk _ (Op.load _ _) _ _ _ _)) _)); first | ((with_reducible apply gq_ldv (hm.ext hwx)); infer_instance; exact rfl; (focus ((repeat (first | exact .hd | assumption | apply Has.tl | apply Has.app)); done)); (focus (first | omega | (simp; omega) | (refine ltB ?_; first | omega | (simp; done) | (simp; omega))))) | ((with_reducible apply gq_ldW (hm.ext hwx)); infer_instance; exact rfl; (focus ((repeat (first | exact .hd | assumption | apply Has.tl | apply Has.app)); done)); (focus (first | rfl | omega | (simp; done) | (simp; omega)))) | ((with_reducible apply gq_ld1 (hm.ext hwx)); infer_instance; exact rfl; (focus ((repeat (first | exact .hd | assumption | apply Has.tl | apply Has.app)); done)); exact rfl)) | (go_simp; (try go_bits); first | exact gives_same | exact gives_skip | with_reducible exact gives_call (c1 wx hwx) | with_reducible exact gives_call (S0.out wx)))
                · (simp only [Act.put, sIB, sCS, sCZ]; rfl))
             | (apply walk_not rfl rfl rfl
                · (simp only [Act.put, sIB, sCS, sCZ]; rfl)))
         intro wz hwz
         simp only [zCC, zNR]
         repeat (first | rw [fin_is] | (rw [fin_cons]; intro _ _))
         rw [fin_nil]
         try (replace hm := hm.ext hwz)
         simp only [Act.put, sIB, sCS, sCZ]
         clear c1 hx0
         go_wp2_with (first | ((((with_reducible show qSt); first | ((with_reducible apply wq_stW hm); exact rfl; infer_instance; exact rfl; exact rfl; (focus ((repeat (first | exact .hd | assumption | apply Swap.tl | apply Swap.app)); done)); (focus (first | rfl | omega | (simp; done) | (simp; omega))); (focus (first | rfl | omega | (simp; done) | (simp; omega))); (focus (first | exact one_map _ | (simp [one8, one32, one64]; done)))))); clear hm; intro w hm))
         obtain ⟨n16, h16⟩ : ∃ m, m = n - 16 := ⟨_, rfl⟩
         have a1 : (n : Int) - 16 = (n16 : Int) := by omega
         have b1 : n32 ≤ n16 := by have := LN.out; have := HN32.out; omega
         have b2 : n16 ≤ c_v1 := by omega
         have b3 : n16 - n32 = 16 := by have := LN.out; have := HN32.out; omega
         have b4 : n16 ≤ n := by omega
         have b5 : n - n16 = 16 := by omega
         have b6 : n16 ≤ 1000 := by omega
         have b7 : n32 ≤ 1000 := by omega
         have llc : l.length ≤ c_v1 := by rw [← HNL.out]; exact hcm
         have HH16 := Lib.hid h16
         have B1 := Lib.hid fun wx (h : Ext wA wx) => BC.out wx (slP p_v1 c_v1 n32) (c_v1 - n32) x lx (by
           have := (RM.out wx h).slLH c_v1 n32 16 llc
           rwa [show (l.drop n32).take 16 = x from SEGX.out n32 HN32.out] at this)
         have B2 := Lib.hid fun wx (h : Ext wA wx) => BC.out wx (slP p_v1 c_v1 n16) (c_v1 - n16) y ly (by
           have := (RM.out wx h).slL c_v1 n16 llc
           rwa [show l.drop n16 = y from SEGY.out n16 (by have := LN.out; have := HH16.out; omega)] at this)
         clear h16
         go_wp2_with fail
         refine pregion 16 (K2 _ _ 36 ((zer 16).map v8) (x.map v8) (y.map v8)) [12, 13, 14, 15] 308 (by kernel_rfl) (by kernel_rfl) rfl (⟨none, none, none, none, rfl, TwoV.start (hm.ext (drew_ext _))⟩) ?_
         simp only [tSC, List.take_zero, dSC, List.drop_zero, List.map_cons, List.map_nil]
         repeat (first
             | (apply pwalk_is rfl rfl rfl rfl; (intro vs_ wx hJ_; obtain ⟨a_, b_, c_, d_, rfl, hT_⟩ := hJ_; have hm := hT_.low; (with_reducible apply gq_slLH (l := n32) (h := n16) (r := 16) Tryz.underlying22); infer_instance; exact rfl; exact rfl; exact rfl; exact b1; exact b2; exact b3); (simp only [Act.put, sIB, sCS, sCZ]; rfl))
             | (apply pwalk_is rfl rfl rfl rfl; (intro vs_ wx hJ_; obtain ⟨a_, b_, c_, d_, rfl, hT_⟩ := hJ_; have hm := hT_.low; (with_reducible apply gq_slL (l := n16) (r := 16) Tryz.underlying22); infer_instance; exact rfl; exact rfl; exact b4; exact b5); (simp only [Act.put, sIB, sCS, sCZ]; rfl))
             | (apply pwalk_mark (T := []) 0 [] rfl rfl rfl rfl rfl; (intro vs_ wx hJ_ hn_ hD_; simp only [pwithS]; obtain ⟨a_, b_, c_, d_, rfl, hT_⟩ := hJ_; obtain rfl : a_ = none := (by simpa using hn_); have hm := hT_.oa; refine ⟨rfl, ?_⟩; (with_reducible apply wq_new hm); exact rfl; infer_instance; clear hm; intro g_ w_ hm; exact mark_end rfl (hT_.j0 hm)))
             | (apply pwalk_mark (T := []) 1 [] rfl rfl rfl rfl rfl; (intro vs_ wx hJ_ hn_ hD_; simp only [pwithS]; obtain ⟨a_, b_, c_, d_, rfl, hT_⟩ := hJ_; obtain rfl : b_ = none := (by simpa using hn_); have hm := hT_.ob; refine ⟨rfl, ?_⟩; (with_reducible apply wq_new hm); exact rfl; infer_instance; clear hm; intro g_ w_ hm; exact mark_end rfl (hT_.j1 hm)))
             | (apply pwalk_mark (T := [(29, PMk 0)]) 2 [] rfl rfl rfl rfl rfl; (intro vs_ wx hJ_ hn_ hD_; simp only [pwithS]; obtain ⟨a_, b_, c_, d_, rfl, hT_⟩ := hJ_; obtain rfl : c_ = none := (by simpa using hn_); intro x_ hx_; obtain rfl : a_ = some x_ := (by simpa [PMk] using hx_); obtain ⟨g_, rfl, hm⟩ := hT_.sa; refine ⟨rfl, ?_⟩; (with_reducible apply wq_stW hm); exact rfl; infer_instance; exact rfl; exact rfl; (focus ((repeat (first | exact .hd | assumption | apply Swap.tl | apply Swap.app)); done)); (focus (first | rfl | omega | (simp; done) | (simp; omega))); (focus (first | rfl | omega | (simp; done) | (simp; omega))); (focus (first | exact one_map _ | (simp [one8, one32, one64]; done))); clear hm; intro w_ hm; exact mark_end rfl (fun u_ => hT_.j2 hm)))
             | (apply pwalk_mark (T := [(30, PMk 1)]) 3 [] rfl rfl rfl rfl rfl; (intro vs_ wx hJ_ hn_ hD_; simp only [pwithS]; obtain ⟨a_, b_, c_, d_, rfl, hT_⟩ := hJ_; obtain rfl : d_ = none := (by simpa using hn_); intro x_ hx_; obtain rfl : b_ = some x_ := (by simpa [PMk] using hx_); obtain ⟨g_, rfl, hm⟩ := hT_.sb; refine ⟨rfl, ?_⟩; (with_reducible apply wq_stW hm); exact rfl; infer_instance; exact rfl; exact rfl; (focus ((repeat (first | exact .hd | assumption | apply Swap.tl | apply Swap.app)); done)); (focus (first | rfl | omega | (simp; done) | (simp; omega))); (focus (first | rfl | omega | (simp; done) | (simp; omega))); (focus (first | exact one_map _ | (simp [one8, one32, one64]; done))); clear hm; intro w_ hm; exact mark_end rfl (fun u_ => hT_.j3 hm)))
             | (apply pwalk_is rfl rfl rfl rfl
                · (intro vs_ wx hJ_; obtain ⟨a_, b_, c_, d_, rfl, hT_⟩ := hJ_; have hm := hT_.low; first | ((with_reducible show gives _ _ _ (Sem.run _ (execOp _ (Oper.mk _ (Op.load _ _) _ _ _ _)) _)); first | ((with_reducible apply gq_ldv hm); infer_instance; exact rfl; (focus ((repeat (first | exact .hd | assumption | apply Has.tl | apply Has.app)); done)); (focus (first | omega | (simp; omega) | (refine ltB ?_; first | omega | (simp; done) | (simp; omega))))) | ((with_reducible apply gq_ldW hm); infer_instance; exact rfl; (focus ((repeat (first | exact .hd | assumption | apply Has.tl | apply Has.app)); done)); (focus (first | rfl | omega | (simp; done) | (simp; omega)))) | ((with_reducible apply gq_ld1 hm); infer_instance; exact rfl; (focus ((repeat (first | exact .hd | assumption | apply Has.tl | apply Has.app)); done)); exact rfl)) | (go_simp; (try go_bits); first | exact gives_same | exact gives_skip | with_reducible exact gives_call (B1.out wx hm.x) | with_reducible exact gives_call (B2.out wx hm.x)))
                · (simp only [Act.put, sIB, sCS, sCZ]; rfl)))
         intro vs_ wz hJ_ hl_ hall_
         simp only [zCC, zNR]
         repeat rw [pfin_is]
         rw [pfin_cons]; intro x29 hx29
         repeat rw [pfin_is]
         rw [pfin_cons]; intro x30 hx30
         repeat rw [pfin_is]
         rw [pfin_cons]; intro y29 hy29
         repeat rw [pfin_is]
         rw [pfin_cons]; intro y30 hy30
         repeat rw [pfin_is]
         rw [pfin_nil]
         simp only [Act.put, sIB, sCS, sCZ]
         obtain ⟨a_, b_, c_, d_, rfl, hT_⟩ := hJ_
         obtain ⟨p_, q_, r_, s_, rfl, rfl, rfl, rfl⟩ := some4 hall_
         clear hm
         obtain ⟨g29_, g30_, rfl, rfl, hm⟩ := hT_.fin
         obtain rfl := pmk0 hx29
         obtain rfl := pmk1 hx30
         clear hT_ hl_ hall_ hx29 hx30 hy29 hy30 y29 y30
         go_wp2_with fail
         have hx0 := hm.x
         obtain ⟨w, rfl⟩ : ∃ w', w' = wz := ⟨_, rfl⟩
         refine region_new 11 (fun w' => Ext _ w') 308 (by kernel_rfl) (by kernel_rfl) rfl (fun _ _ h k => h.trans k) (drew_ext _) ?_
         simp only [tSC, List.take_zero, dSC, List.drop_zero, List.map_cons, List.map_nil]
         repeat (first
             | (apply walk_some (NewS (w.heap.size) 36 ((zer 16).map v8)) 31 (NewS.stable _ _ _) rfl rfl rfl rfl
                · (intro wx hwx; go_simp; exact gives_new (cs := (zer 16).map v8) hwx.size))
             | (apply walk_is rfl rfl rfl
                · (intro wx hwx; (with_reducible apply gq_rdW ((fun wx hwx => RK.out wx (hx0.trans hwx)) wx hwx)); infer_instance; exact rfl; (focus (first | rfl | omega | (simp; done) | (simp; omega))))
                · (simp only [Act.put, sIB, sCS, sCZ]; rfl))
             | (apply walk_is rfl rfl rfl
                · (intro wx hwx; (with_reducible apply gq_rdW ((fun wx hwx => RH.out wx (hx0.trans hwx)) wx hwx)); infer_instance; exact rfl; (focus (first | rfl | omega | (simp; done) | (simp; omega))))
                · (simp only [Act.put, sIB, sCS, sCZ]; rfl))
             | (apply walk_is rfl rfl rfl
                · (intro wx hwx; first | ((with_reducible show gives _ _ _ (Sem.run _ (execOp _ (Oper.mk _ (Op.load _ _) _ _ _ _)) _)); first | ((with_reducible apply gq_ldv (hm.ext hwx)); infer_instance; exact rfl; (focus ((repeat (first | exact .hd | assumption | apply Has.tl | apply Has.app)); done)); (focus (first | omega | (simp; omega) | (refine ltB ?_; first | omega | (simp; done) | (simp; omega))))) | ((with_reducible apply gq_ldW (hm.ext hwx)); infer_instance; exact rfl; (focus ((repeat (first | exact .hd | assumption | apply Has.tl | apply Has.app)); done)); (focus (first | rfl | omega | (simp; done) | (simp; omega)))) | ((with_reducible apply gq_ld1 (hm.ext hwx)); infer_instance; exact rfl; (focus ((repeat (first | exact .hd | assumption | apply Has.tl | apply Has.app)); done)); exact rfl)) | (go_simp; (try go_bits); first | exact gives_same | exact gives_skip | with_reducible exact gives_call (S1.out wx) | with_reducible exact gives_call (S2.out wx) | with_reducible exact gives_call (S3.out wx) | with_reducible exact gives_call (E1.out wx (XA.out.trans (hx0.trans hwx)))))
                · (simp only [Act.put, sIB, sCS, sCZ]; rfl))
             | (apply walk_not rfl rfl rfl
                · (simp only [Act.put, sIB, sCS, sCZ]; rfl)))
         intro wz hwz
         simp only [zCC, zNR]
         repeat rw [fin_is]
         rw [fin_cons]; intro x31 hx31
         repeat rw [fin_is]
         rw [fin_nil]; intro hap
         simp only [Act.put, sIB, sCS, sCZ] at hap ⊢
         obtain ⟨g31_, rfl, hg31, hr31⟩ := hx31
         replace hm := hm.push hwz hg31 hr31
         clear hap hr31
         clear hx0
         go_wp2_with (first | ((((with_reducible show qSt); first | ((with_reducible apply wq_stW hm); exact rfl; infer_instance; exact rfl; exact rfl; (focus ((repeat (first | exact .hd | assumption | apply Swap.tl | apply Swap.app)); done)); (focus (first | rfl | omega | (simp; done) | (simp; omega))); (focus (first | rfl | omega | (simp; done) | (simp; omega))); (focus (first | exact one_map _ | (simp [one8, one32, one64]; done)))))); clear hm; intro w hm))
         have hx0 := hm.x
         refine region_new 7 (fun w' => Ext _ w') 308 (by kernel_rfl) (by kernel_rfl) rfl (fun _ _ h k => h.trans k) (drew_ext _) ?_
         simp only [tSC, List.take_zero, dSC, List.drop_zero, List.map_cons, List.map_nil]
         repeat (first
             | (apply walk_some (NewS (w.heap.size) 36 ((zer 16).map v8)) 32 (NewS.stable _ _ _) rfl rfl rfl rfl
                · (intro wx hwx; go_simp; exact gives_new (cs := (zer 16).map v8) hwx.size))
             | (apply walk_is rfl rfl rfl
                · (intro wx hwx; (with_reducible apply gq_rdW ((fun wx hwx => RK.out wx (hx0.trans hwx)) wx hwx)); infer_instance; exact rfl; (focus (first | rfl | omega | (simp; done) | (simp; omega))))
                · (simp only [Act.put, sIB, sCS, sCZ]; rfl))
             | (apply walk_is rfl rfl rfl
                · (intro wx hwx; first | ((with_reducible show gives _ _ _ (Sem.run _ (execOp _ (Oper.mk _ (Op.load _ _) _ _ _ _)) _)); first | ((with_reducible apply gq_ldv (hm.ext hwx)); infer_instance; exact rfl; (focus ((repeat (first | exact .hd | assumption | apply Has.tl | apply Has.app)); done)); (focus (first | omega | (simp; omega) | (refine ltB ?_; first | omega | (simp; done) | (simp; omega))))) | ((with_reducible apply gq_ldW (hm.ext hwx)); infer_instance; exact rfl; (focus ((repeat (first | exact .hd | assumption | apply Has.tl | apply Has.app)); done)); (focus (first | rfl | omega | (simp; done) | (simp; omega)))) | ((with_reducible apply gq_ld1 (hm.ext hwx)); infer_instance; exact rfl; (focus ((repeat (first | exact .hd | assumption | apply Has.tl | apply Has.app)); done)); exact rfl)) | (go_simp; (try go_bits); first | exact gives_same | exact gives_skip | with_reducible exact gives_call (S4.out wx) | with_reducible exact gives_call (E2.out wx (XA.out.trans (hx0.trans hwx)))))
                · (simp only [Act.put, sIB, sCS, sCZ]; rfl))
             | (apply walk_not rfl rfl rfl
                · (simp only [Act.put, sIB, sCS, sCZ]; rfl)))
         intro wz hwz
         simp only [zCC, zNR]
         repeat rw [fin_is]
         rw [fin_cons]; intro x32 hx32
         repeat rw [fin_is]
         rw [fin_nil]; intro hap
         simp only [Act.put, sIB, sCS, sCZ] at hap ⊢
         obtain ⟨g32_, rfl, hg32, hr32⟩ := hx32
         replace hm := hm.push hwz hg32 hr32
         clear hap hr32
         clear hx0
         go_wp2_with (first | (go_at_call 43; (with_reducible refine (S5.out _).mono ?_); rintro e_ w ⟨rfl, hx_⟩; replace hm := hm.ext hx_; clear hx_) | ((with_reducible show qLd); first | ((with_reducible apply wq_ldW hm); exact rfl; infer_instance; exact rfl; (focus ((repeat (first | exact .hd | assumption | apply Has.tl | apply Has.app)); done)); (focus (first | rfl | omega | (simp; done) | (simp; omega))))) | ((((with_reducible show qSt); first | ((with_reducible apply wq_stW hm); exact rfl; infer_instance; exact rfl; exact rfl; (focus ((repeat (first | exact .hd | assumption | apply Swap.tl | apply Swap.app)); done)); (focus (first | rfl | omega | (simp; done) | (simp; omega))); (focus (first | rfl | omega | (simp; done) | (simp; omega))); (focus (first | exact one_map _ | (simp [one8, one32, one64]; done)))))); clear hm; intro w hm) | ((first | ((with_reducible show qAl); first | ((with_reducible apply wq_new hm); exact rfl; infer_instance))); clear hm; (first | (have hx_ := g1; clear hx_; (first | (have hx_ := g2; clear hx_; (first | (have hx_ := g3; clear hx_; (first | (have hx_ := g4; clear hx_; (first | (have hx_ := g5; clear hx_; (first | (have hx_ := g6; clear hx_; intro gx_) | intro g6)) | intro g5)) | intro g4)) | intro g3)) | intro g2)) | intro g1); intro w hm))
         have hm2 := own_subq (M := ⟨g5, 36, Z.map v8⟩ :: ⟨g32_, 36, TT.map v8⟩ :: ⟨g31_, 36, S.map v8⟩ :: (Mu ++ (Mv ++ [⟨g4, 36, (zer 16).map v8⟩, ⟨gx, 36, BX.map v8⟩, ⟨gw, 36, BW.map v8⟩]))) hm (by repeat (first | exact List.Sublist.refl _ | apply List.Sublist.cons_cons | refine List.Sublist.append (List.Sublist.refl _) ?_ | apply List.Sublist.cons))
         have hmB := (Own.join HMA.out hm2).perm (perm_midq (⟨g5, 36, Z.map v8⟩ :: ⟨g32_, 36, TT.map v8⟩ :: ⟨g31_, 36, S.map v8⟩ :: (Mu ++ (Mv ++ [⟨g4, 36, (zer 16).map v8⟩, ⟨gx, 36, BX.map v8⟩, ⟨gw, 36, BW.map v8⟩]))) M1 _)
         have hm3 : Own w0 w (M1 ++ (⟨g5, 36, Z.map v8⟩ :: ⟨g32_, 36, TT.map v8⟩ :: ⟨g31_, 36, S.map v8⟩ :: (Mu ++ (Mv ++ [⟨g4, 36, (zer 16).map v8⟩, ⟨gx, 36, BX.map v8⟩, ⟨gw, 36, BW.map v8⟩, ⟨g2, 36, H.map v8⟩, ⟨g1, 39, R.map v8⟩])))) := by
           simp only [List.append_assoc, List.cons_append, List.nil_append] at hmB
           exact hmB
         clear hm hm2 hmB
         have hm := hm3
         clear hm3
         obtain ⟨OP, hOP⟩ : ∃ X, X = oneP F ps np := ⟨_, rfl⟩
         obtain ⟨YF, hYF⟩ : ∃ G, G = yF F Z OP := ⟨_, rfl⟩
         obtain ⟨VF, hVF⟩ : ∃ G, G = vF F Z OP := ⟨_, rfl⟩
         obtain ⟨SF, hSF⟩ : ∃ G, G = secF F Z OP := ⟨_, rfl⟩
         obtain ⟨IF, hIF⟩ : ∃ G, G = firF F Z OP := ⟨_, rfl⟩
         have LYF := Lib.hid fun k => show (YF k).length = 16 from by rw [hYF]; exact yF_length F Z OP k
         have LVF := Lib.hid fun k => show (VF k).length = 16 from by rw [hVF]; exact vF_length F Z OP k
         have LSF := Lib.hid fun k => show (SF k).length = 16 from by rw [hSF]; exact secF_length F Z OP k
         have LIF := Lib.hid fun k => show (IF k).length = 16 from by rw [hIF]; exact firF_length F Z OP k
         have YE := Lib.hid fun k (hk : k < np) => show bothL (WF k) (F 2 ((k : Int) + 1) Z) = YF k from by
           rw [hYF, yF, hOP, oneP, fst_wx F ps k np hk, HWF.out]
         have VE := Lib.hid fun k (hk : k < np) => show bothL (XF k) (F 2 ((k : Int) + 1) Z) = VF k from by
           rw [hVF, vF, hOP, oneP, snd_wx F ps k np hk, HXF.out]
         have SE0 := Lib.hid fun k => show bothL (YF k) (F 0 0 (VF k)) = SF k from by rw [hSF, hYF, hVF]; rfl
         have IE0 := Lib.hid fun k => show bothL (VF k) (F 1 ((k : Int) + 1) (SF k)) = IF k from by rw [hIF, hSF, hVF]; rfl
         obtain ⟨GF, hGF⟩ : ∃ G : Nat → List Byte, G = glueF (fsF F Z OP) := ⟨_, rfl⟩
         have GS := Lib.hid fun k => show GF (k + 1) = GF k ++ (IF k ++ SF k) from by rw [hGF, hIF, hSF]; rfl
         have GL := Lib.hid fun k => show (GF k).length = 32 * k from by rw [hGF]; exact glueF_length _ (fsF_length F Z OP) k
         have G0 := Lib.hid (show GF 0 = [] from by rw [hGF]; rfl)
         have HGF := Lib.hid hGF
         have HYF := Lib.hid hYF
         have HOP := Lib.hid hOP
         clear hOP hYF hVF hSF hIF hGF
         have LMF := Lib.hid fun k (hk : k ≤ np) => show (GF k ++ l.drop (32 * k)).length = n from by rw [List.length_append, GL.out, List.length_drop, ← HNL.out]; have := LN.out; omega
         go_wp2_with fail
         go_loopw [34] (fun i wr => ∃ (k : Nat) (M : List Blk), k ≤ np ∧ i = .int .i64 k ∧ SlO M 5 1 (.slice p_v1 n c_v1) n ((GF k ++ l.drop (32 * k)).map v8) ∧ Own w0 wr (M ++ (⟨g5, 36, Z.map v8⟩ :: ⟨g32_, 36, TT.map v8⟩ :: ⟨g31_, 36, S.map v8⟩ :: (Mu ++ (Mv ++ [⟨g4, 36, (sumG YF k).map v8⟩, ⟨gx, 36, BX.map v8⟩, ⟨gw, 36, BW.map v8⟩, ⟨g2, 36, H.map v8⟩, ⟨g1, 39, R.map v8⟩]))))) (fun i _ => np - (intOf i).toNat)
         case atStart => exact ⟨0, M1, by omega, rfl, by rw [G0.out, Nat.mul_zero, List.drop_zero, List.nil_append]; exact HSM.out, hm⟩
         case round =>
           clear hm
           obtain ⟨k, M, hk, rfl, hsm, hm⟩ := hrel
           have HSK := Lib.hid hsm
           clear hsm
           by_cases hlt : k < np
           · have z1 : decide ((k : Int) < (np : Int)) = true := decide_eq_true (by omega)
             have z2 : (k : Int) < (np : Int) := by omega
             obtain ⟨k1, hk1⟩ : ∃ m, m = k + 1 := ⟨_, rfl⟩
             obtain ⟨t32, h32⟩ : ∃ m, m = 32 * k := ⟨_, rfl⟩
             obtain ⟨t48, h48⟩ : ∃ m, m = 32 * k + 16 := ⟨_, rfl⟩
             have a0 : (k : Int) + 1 = (k1 : Int) := by omega
             have a1 : (32 : Int) * (k : Int) = (t32 : Int) := by omega
             have a2 : (t32 : Int) + 16 = (t48 : Int) := by omega
             have p1 : t32 + 16 ≤ n := by have := LN.out; omega
             have p2 : t48 + 16 ≤ n := by have := LN.out; omega
             have AWk := Lib.hid (show (BW.map v8).drop (k * 16) |>.take 16 |> (· = (WF k).map v8) from by rw [HBW.out]; exact blkC_atv WF np np k (k * 16) (by omega) hlt (Nat.le_refl _) (LWF.out k))
             have AXk := Lib.hid (show (BX.map v8).drop (k * 16) |>.take 16 |> (· = (XF k).map v8) from by rw [HBX.out]; exact blkC_atv XF np np k (k * 16) (by omega) hlt (Nat.le_refl _) (LXF.out k))
             have ye := YE.out k hlt
             have ve := VE.out k hlt
             have se := SE0.out k
             have ie := IE0.out k
             rw [a0] at ye ve ie
             have lW := LWF.out k
             have lX := LXF.out k
             have lYY := LYF.out k
             have lVO := LVF.out k
             have lSE := LSF.out k
             have lFI := LIF.out k
             have lEE := HFL.out 2 (k1 : Int) Z
             have lE0 := HFL.out 0 0 (VF k)
             have lE1 := HFL.out 1 (k1 : Int) (SF k)
             have CE0 := Lib.hid fun wx (h : Ext w0 wx) => EC.out wx h 2 (k1 : Int) Z lZ (by omega) (by omega) (by omega) (by omega)
             have CE1 := Lib.hid fun wx (h : Ext w0 wx) => EC.out wx h 0 0 (VF k) lVO (by omega) (by omega) (by omega) (by omega)
             have CE2 := Lib.hid fun wx (h : Ext w0 wx) => EC.out wx h 1 (k1 : Int) (SF k) lSE (by omega) (by omega) (by omega) (by omega)
             have CS0 := Lib.hid fun wx => show Gives Tryz.prog 43 #[A8 (WF k), A8 (F 2 (k1 : Int) Z)] wx (A8 (YF k)) from ye ▸ SC.out wx (WF k) (F 2 (k1 : Int) Z) lW lEE
             have CS1 := Lib.hid fun wx => show Gives Tryz.prog 43 #[A8 (XF k), A8 (F 2 (k1 : Int) Z)] wx (A8 (VF k)) from ve ▸ SC.out wx (XF k) (F 2 (k1 : Int) Z) lX lEE
             have CS2 := Lib.hid fun wx => show Gives Tryz.prog 43 #[A8 (YF k), A8 (F 0 0 (VF k))] wx (A8 (SF k)) from se ▸ SC.out wx (YF k) (F 0 0 (VF k)) lYY lE0
             have CS3 := Lib.hid fun wx => show Gives Tryz.prog 43 #[A8 (VF k), A8 (F 1 (k1 : Int) (SF k))] wx (A8 (IF k)) from ie ▸ SC.out wx (VF k) (F 1 (k1 : Int) (SF k)) lVO lE1
             have lQ0 := sumG_length YF k
             have CS4 := Lib.hid fun wx => show Gives Tryz.prog 43 #[A8 (sumG YF k), A8 (YF k)] wx (A8 (sumG YF (k + 1))) from SC.out wx (sumG YF k) (YF k) lQ0 lYY
             have lQ1 := sumG_length YF (k + 1)
             have ed : l.drop (32 * k) = fstB ps k ++ (sndB ps k ++ l.drop (32 * (k + 1))) := by
               rw [← HF1.out k hlt, ← HF2.out k hlt, show l.drop (32 * k + 16) = (l.drop (32 * k)).drop 16 from by rw [List.drop_drop], show l.drop (32 * (k + 1)) = ((l.drop (32 * k)).drop 16).drop 16 from by rw [List.drop_drop, List.drop_drop, show 32 * k + 16 + 16 = 32 * (k + 1) by omega], List.take_append_drop, List.take_append_drop]
             have lF1 := LF1.out k hlt
             have lF2 := LF2.out k hlt
             have o1 := over_midq (GF k) (fstB ps k) (sndB ps k ++ l.drop (32 * (k + 1))) (IF k) t32 (by rw [GL.out]; exact h32) (by rw [lFI, lF1])
             have o2 := over_midq (GF k ++ IF k) (sndB ps k) (l.drop (32 * (k + 1))) (SF k) t48 (by rw [List.length_append, GL.out, lFI]; exact h48) (by rw [lSE, lF2])
             rw [← ed] at o1
             rw [List.append_assoc, List.append_assoc] at o2
             have O1 := Lib.hid o1
             have O2 := Lib.hid (show over (over (GF k ++ l.drop (32 * k)) t32 (IF k)) t48 (SF k) = GF (k + 1) ++ l.drop (32 * (k + 1)) from by rw [o1, o2, GS.out, List.append_assoc, List.append_assoc])
             have lmk := LMF.out k hk
             have lmo : (over (GF k ++ l.drop (32 * k)) t32 (IF k)).length = n := by rw [over_length _ _ _ (by rw [lmk, lFI]; exact p1)]; exact lmk
             have PT1 := Lib.hid fun (w : World) (pb : Option Addr) (M Rx : List Blk) (hs : SlO M 5 1 (.slice p_v1 n c_v1) n ((GF k ++ l.drop (32 * k)).map v8)) (hm : Own w0 w (M ++ Rx)) (hr : ∀ w' M', Own w0 w' (M' ++ Rx) → RdB w' pb (IF k)) => show Calls Tryz.prog 46 #[.slice p_v1 n c_v1, .int .i64 (t32 : Int), .slice pb 16 16] w fun e w' => e = .returned (.tuple #[]) ∧ ∃ M', Own w0 w' (M' ++ Rx) ∧ SlO M' 5 1 (.slice p_v1 n c_v1) n ((over (GF k ++ l.drop (32 * k)) t32 (IF k)).map v8) from by
               have h_ := rput_any (GF k ++ l.drop (32 * k)) (IF k) t32 n p_v1 pb c_v1 16 lmk hr16 (by rw [lFI]; exact p1) w0 w M Rx hs hm hr
               rw [lFI] at h_
               exact h_
             have PT2 := Lib.hid fun (w : World) (pb : Option Addr) (M Rx : List Blk) (hs : SlO M 5 1 (.slice p_v1 n c_v1) n ((over (GF k ++ l.drop (32 * k)) t32 (IF k)).map v8)) (hm : Own w0 w (M ++ Rx)) (hr : ∀ w' M', Own w0 w' (M' ++ Rx) → RdB w' pb (SF k)) => show Calls Tryz.prog 46 #[.slice p_v1 n c_v1, .int .i64 (t48 : Int), .slice pb 16 16] w fun e w' => e = .returned (.tuple #[]) ∧ ∃ M', Own w0 w' (M' ++ Rx) ∧ SlO M' 5 1 (.slice p_v1 n c_v1) n ((over (over (GF k ++ l.drop (32 * k)) t32 (IF k)) t48 (SF k)).map v8) from by
               have h_ := rput_any (over (GF k ++ l.drop (32 * k)) t32 (IF k)) (SF k) t48 n p_v1 pb c_v1 16 lmo hr16 (by rw [lSE]; exact p2) w0 w M Rx hs hm hr
               rw [lSE] at h_
               exact h_
             rw [O2.out] at PT2
             generalize over (GF k ++ l.drop (32 * k)) t32 (IF k) = MO at *
             have HLT := Lib.hid hlt
             generalize F 2 (k1 : Int) Z = EE at *
             generalize F 0 0 (VF k) = E0 at *
             generalize F 1 (k1 : Int) (SF k) = E1' at *
             generalize hQ1 : sumG YF (k + 1) = Q1 at *
             have HQ1 := Lib.hid hQ1
             clear hQ1
             generalize sumG YF k = Q0 at *
             generalize GF k ++ l.drop (32 * k) = MK at *
             generalize WF k = W at *
             generalize XF k = X at *
             generalize YF k = YY at *
             generalize VF k = VO at *
             generalize SF k = SE at *
             generalize IF k = FI at *
             clear ye ve se ie ed o1 o2 O1 O2 h32 h48 hk1 hlt lmk lmo
             go_wp2_with (first | (go_at_call 44; (with_reducible refine (CE0.out _ hm.x).mono ?_); rintro e_ w ⟨rfl, hx_⟩; replace hm := hm.ext hx_; clear hx_) | ((with_reducible show qLd); first | ((with_reducible apply wq_ldW hm); exact rfl; infer_instance; exact rfl; (focus ((repeat (first | exact .hd | assumption | apply Has.tl | apply Has.app)); done)); (focus (first | rfl | omega | (simp; done) | (simp; omega))))) | ((((with_reducible show qSt); first | ((with_reducible apply wq_stW hm); exact rfl; infer_instance; exact rfl; exact rfl; (focus ((repeat (first | exact .hd | assumption | apply Swap.tl | apply Swap.app)); done)); (focus (first | rfl | omega | (simp; done) | (simp; omega))); (focus (first | rfl | omega | (simp; done) | (simp; omega))); (focus (first | exact one_map _ | (simp [one8, one32, one64]; done)))))); clear hm; intro w hm) | ((first | ((with_reducible show qAl); first | ((with_reducible apply wq_new hm); exact rfl; infer_instance))); clear hm; (first | (have hx_ := g1; clear hx_; (first | (have hx_ := g2; clear hx_; (first | (have hx_ := g3; clear hx_; (first | (have hx_ := g4; clear hx_; (first | (have hx_ := g5; clear hx_; (first | (have hx_ := g6; clear hx_; intro gx_) | intro g6)) | intro g5)) | intro g4)) | intro g3)) | intro g2)) | intro g1); intro w hm))
             have hx0 := hm.x
             refine region_new 7 (fun w' => Ext _ w') 308 (by kernel_rfl) (by kernel_rfl) rfl (fun _ _ h k => h.trans k) (drew_ext _) ?_
             simp only [tSC, List.take_zero, dSC, List.drop_zero, List.map_cons, List.map_nil]
             repeat (first
                 | (apply walk_some (NewS (w.heap.size) 36 ((zer 16).map v8)) 36 (NewS.stable _ _ _) rfl rfl rfl rfl
                    · (intro wx hwx; go_simp; exact gives_new (cs := (zer 16).map v8) hwx.size))
                 | (apply walk_is rfl rfl rfl; (intro wx hwx; (with_reducible apply gq_ldN (hm.ext hwx)); infer_instance; exact rfl; (focus ((repeat (first | exact .hd | assumption | apply Has.tl | apply Has.app)); done)); (exact AWk.out); (exact ((List.length_map ..).trans lW))); (simp only [Act.put, sIB, sCS, sCZ]; rfl))
                 | (apply walk_is rfl rfl rfl
                    · (intro wx hwx; first | ((with_reducible show gives _ _ _ (Sem.run _ (execOp _ (Oper.mk _ (Op.load _ _) _ _ _ _)) _)); first | ((with_reducible apply gq_ldv (hm.ext hwx)); infer_instance; exact rfl; (focus ((repeat (first | exact .hd | assumption | apply Has.tl | apply Has.app)); done)); (focus (first | omega | (simp; omega) | (refine ltB ?_; first | omega | (simp; done) | (simp; omega))))) | ((with_reducible apply gq_ldW (hm.ext hwx)); infer_instance; exact rfl; (focus ((repeat (first | exact .hd | assumption | apply Has.tl | apply Has.app)); done)); (focus (first | rfl | omega | (simp; done) | (simp; omega)))) | ((with_reducible apply gq_ld1 (hm.ext hwx)); infer_instance; exact rfl; (focus ((repeat (first | exact .hd | assumption | apply Has.tl | apply Has.app)); done)); exact rfl)) | (go_simp; (try go_bits); first | exact gives_same | exact gives_skip | with_reducible exact gives_call (CS0.out wx)))
                    · (simp only [Act.put, sIB, sCS, sCZ]; rfl))
                 | (apply walk_not rfl rfl rfl
                    · (simp only [Act.put, sIB, sCS, sCZ]; rfl)))
             intro wz hwz
             simp only [zCC, zNR]
             repeat rw [fin_is]
             rw [fin_cons]; intro x36 hx36
             repeat rw [fin_is]
             rw [fin_nil]; intro hap
             simp only [Act.put, sIB, sCS, sCZ] at hap ⊢
             obtain ⟨g36_, rfl, hg36, hr36⟩ := hx36
             replace hm := hm.push hwz hg36 hr36
             clear hap hr36
             go_wp2_with (first | ((((with_reducible show qSt); first | ((with_reducible apply wq_stW hm); exact rfl; infer_instance; exact rfl; exact rfl; (focus ((repeat (first | exact .hd | assumption | apply Swap.tl | apply Swap.app)); done)); (focus (first | rfl | omega | (simp; done) | (simp; omega))); (focus (first | rfl | omega | (simp; done) | (simp; omega))); (focus (first | exact one_map _ | (simp [one8, one32, one64]; done)))))); clear hm; intro w hm))
             refine region_new 7 (fun w' => Ext _ w') 308 (by kernel_rfl) (by kernel_rfl) rfl (fun _ _ h k => h.trans k) (drew_ext _) ?_
             simp only [tSC, List.take_zero, dSC, List.drop_zero, List.map_cons, List.map_nil]
             repeat (first
                 | (apply walk_some (NewS (w.heap.size) 36 ((zer 16).map v8)) 37 (NewS.stable _ _ _) rfl rfl rfl rfl
                    · (intro wx hwx; go_simp; exact gives_new (cs := (zer 16).map v8) hwx.size))
                 | (apply walk_is rfl rfl rfl; (intro wx hwx; (with_reducible apply gq_ldN (hm.ext hwx)); infer_instance; exact rfl; (focus ((repeat (first | exact .hd | assumption | apply Has.tl | apply Has.app)); done)); (exact AXk.out); (exact ((List.length_map ..).trans lX))); (simp only [Act.put, sIB, sCS, sCZ]; rfl))
                 | (apply walk_is rfl rfl rfl
                    · (intro wx hwx; first | ((with_reducible show gives _ _ _ (Sem.run _ (execOp _ (Oper.mk _ (Op.load _ _) _ _ _ _)) _)); first | ((with_reducible apply gq_ldv (hm.ext hwx)); infer_instance; exact rfl; (focus ((repeat (first | exact .hd | assumption | apply Has.tl | apply Has.app)); done)); (focus (first | omega | (simp; omega) | (refine ltB ?_; first | omega | (simp; done) | (simp; omega))))) | ((with_reducible apply gq_ldW (hm.ext hwx)); infer_instance; exact rfl; (focus ((repeat (first | exact .hd | assumption | apply Has.tl | apply Has.app)); done)); (focus (first | rfl | omega | (simp; done) | (simp; omega)))) | ((with_reducible apply gq_ld1 (hm.ext hwx)); infer_instance; exact rfl; (focus ((repeat (first | exact .hd | assumption | apply Has.tl | apply Has.app)); done)); exact rfl)) | (go_simp; (try go_bits); first | exact gives_same | exact gives_skip | with_reducible exact gives_call (CS1.out wx)))
                    · (simp only [Act.put, sIB, sCS, sCZ]; rfl))
                 | (apply walk_not rfl rfl rfl
                    · (simp only [Act.put, sIB, sCS, sCZ]; rfl)))
             intro wz hwz
             simp only [zCC, zNR]
             repeat rw [fin_is]
             rw [fin_cons]; intro x37 hx37
             repeat rw [fin_is]
             rw [fin_nil]; intro hap
             simp only [Act.put, sIB, sCS, sCZ] at hap ⊢
             obtain ⟨g37_, rfl, hg37, hr37⟩ := hx37
             replace hm := hm.push hwz hg37 hr37
             clear hap hr37
             clear hx0
             go_wp2_with (first | ((((with_reducible show qSt); first | ((with_reducible apply wq_stW hm); exact rfl; infer_instance; exact rfl; exact rfl; (focus ((repeat (first | exact .hd | assumption | apply Swap.tl | apply Swap.app)); done)); (focus (first | rfl | omega | (simp; done) | (simp; omega))); (focus (first | rfl | omega | (simp; done) | (simp; omega))); (focus (first | exact one_map _ | (simp [one8, one32, one64]; done)))))); clear hm; intro w hm))
             have hx0 := hm.x
             refine region_new 6 (fun w' => Ext _ w') 308 (by kernel_rfl) (by kernel_rfl) rfl (fun _ _ h k => h.trans k) (drew_ext _) ?_
             simp only [tSC, List.take_zero, dSC, List.drop_zero, List.map_cons, List.map_nil]
             repeat (first
                 | (apply walk_some (NewS (w.heap.size) 36 ((zer 16).map v8)) 38 (NewS.stable _ _ _) rfl rfl rfl rfl
                    · (intro wx hwx; go_simp; exact gives_new (cs := (zer 16).map v8) hwx.size))
                 | (apply walk_is rfl rfl rfl
                    · (intro wx hwx; first | ((with_reducible show gives _ _ _ (Sem.run _ (execOp _ (Oper.mk _ (Op.load _ _) _ _ _ _)) _)); first | ((with_reducible apply gq_ldv (hm.ext hwx)); infer_instance; exact rfl; (focus ((repeat (first | exact .hd | assumption | apply Has.tl | apply Has.app)); done)); (focus (first | omega | (simp; omega) | (refine ltB ?_; first | omega | (simp; done) | (simp; omega))))) | ((with_reducible apply gq_ldW (hm.ext hwx)); infer_instance; exact rfl; (focus ((repeat (first | exact .hd | assumption | apply Has.tl | apply Has.app)); done)); (focus (first | rfl | omega | (simp; done) | (simp; omega)))) | ((with_reducible apply gq_ld1 (hm.ext hwx)); infer_instance; exact rfl; (focus ((repeat (first | exact .hd | assumption | apply Has.tl | apply Has.app)); done)); exact rfl)) | (go_simp; (try go_bits); first | exact gives_same | exact gives_skip | with_reducible exact gives_call (CS2.out wx) | with_reducible exact gives_call (CE1.out wx (hx0.trans hwx))))
                    · (simp only [Act.put, sIB, sCS, sCZ]; rfl))
                 | (apply walk_not rfl rfl rfl
                    · (simp only [Act.put, sIB, sCS, sCZ]; rfl)))
             intro wz hwz
             simp only [zCC, zNR]
             repeat rw [fin_is]
             rw [fin_cons]; intro x38 hx38
             repeat rw [fin_is]
             rw [fin_nil]; intro hap
             simp only [Act.put, sIB, sCS, sCZ] at hap ⊢
             obtain ⟨g38_, rfl, hg38, hr38⟩ := hx38
             replace hm := hm.push hwz hg38 hr38
             clear hap hr38
             clear hx0
             go_wp2_with (first | ((((with_reducible show qSt); first | ((with_reducible apply wq_stW hm); exact rfl; infer_instance; exact rfl; exact rfl; (focus ((repeat (first | exact .hd | assumption | apply Swap.tl | apply Swap.app)); done)); (focus (first | rfl | omega | (simp; done) | (simp; omega))); (focus (first | rfl | omega | (simp; done) | (simp; omega))); (focus (first | exact one_map _ | (simp [one8, one32, one64]; done)))))); clear hm; intro w hm))
             have hx0 := hm.x
             refine region_new 8 (fun w' => Ext _ w') 308 (by kernel_rfl) (by kernel_rfl) rfl (fun _ _ h k => h.trans k) (drew_ext _) ?_
             simp only [tSC, List.take_zero, dSC, List.drop_zero, List.map_cons, List.map_nil]
             repeat (first
                 | (apply walk_some (NewS (w.heap.size) 36 ((zer 16).map v8)) 39 (NewS.stable _ _ _) rfl rfl rfl rfl
                    · (intro wx hwx; go_simp; exact gives_new (cs := (zer 16).map v8) hwx.size))
                 | (apply walk_is rfl rfl rfl
                    · (intro wx hwx; first | ((with_reducible show gives _ _ _ (Sem.run _ (execOp _ (Oper.mk _ (Op.load _ _) _ _ _ _)) _)); first | ((with_reducible apply gq_ldv (hm.ext hwx)); infer_instance; exact rfl; (focus ((repeat (first | exact .hd | assumption | apply Has.tl | apply Has.app)); done)); (focus (first | omega | (simp; omega) | (refine ltB ?_; first | omega | (simp; done) | (simp; omega))))) | ((with_reducible apply gq_ldW (hm.ext hwx)); infer_instance; exact rfl; (focus ((repeat (first | exact .hd | assumption | apply Has.tl | apply Has.app)); done)); (focus (first | rfl | omega | (simp; done) | (simp; omega)))) | ((with_reducible apply gq_ld1 (hm.ext hwx)); infer_instance; exact rfl; (focus ((repeat (first | exact .hd | assumption | apply Has.tl | apply Has.app)); done)); exact rfl)) | (go_simp; (try go_bits); first | exact gives_same | exact gives_skip | with_reducible exact gives_call (CS3.out wx) | with_reducible exact gives_call (CE2.out wx (hx0.trans hwx))))
                    · (simp only [Act.put, sIB, sCS, sCZ]; rfl))
                 | (apply walk_not rfl rfl rfl
                    · (simp only [Act.put, sIB, sCS, sCZ]; rfl)))
             intro wz hwz
             simp only [zCC, zNR]
             repeat rw [fin_is]
             rw [fin_cons]; intro x39 hx39
             repeat rw [fin_is]
             rw [fin_nil]; intro hap
             simp only [Act.put, sIB, sCS, sCZ] at hap ⊢
             obtain ⟨g39_, rfl, hg39, hr39⟩ := hx39
             replace hm := hm.push hwz hg39 hr39
             clear hap hr39
             clear hx0
             go_wp2_with (first | ((((with_reducible show qSt); first | ((with_reducible apply wq_stW hm); exact rfl; infer_instance; exact rfl; exact rfl; (focus ((repeat (first | exact .hd | assumption | apply Swap.tl | apply Swap.app)); done)); (focus (first | rfl | omega | (simp; done) | (simp; omega))); (focus (first | rfl | omega | (simp; done) | (simp; omega))); (focus (first | exact one_map _ | (simp [one8, one32, one64]; done)))))); clear hm; intro w hm))
             have hmP := hm.perm (perm_midq ([⟨g39_, 36, FI.map v8⟩, ⟨g38_, 36, SE.map v8⟩, ⟨g37_, 36, VO.map v8⟩, ⟨g36_, 36, YY.map v8⟩, ⟨g6, 36, EE.map v8⟩]) M _)
             clear hm
             have hm : Own w0 w (M ++ (⟨g39_, 36, FI.map v8⟩ :: ⟨g38_, 36, SE.map v8⟩ :: ⟨g37_, 36, VO.map v8⟩ :: ⟨g36_, 36, YY.map v8⟩ :: ⟨g6, 36, EE.map v8⟩ :: ⟨g5, 36, Z.map v8⟩ :: ⟨g32_, 36, TT.map v8⟩ :: ⟨g31_, 36, S.map v8⟩ :: (Mu ++ (Mv ++ [⟨g4, 36, (Q0).map v8⟩, ⟨gx, 36, BX.map v8⟩, ⟨gw, 36, BW.map v8⟩, ⟨g2, 36, H.map v8⟩, ⟨g1, 39, R.map v8⟩])))) := hmP
             clear hmP
             go_wp2_with (first | (go_at_call 46; (with_reducible refine (PT1.out _ _ M _ HSK.out hm (fun w_ M_ h_ => h_.dropN.rdB .hd)).mono ?_); rintro e_ w ⟨rfl, M2, hm2, hs2⟩; have HSK2 := Lib.hid hs2; clear hm hs2; have hm := hm2; clear hm2) | (go_at_call 46; (with_reducible refine (PT2.out _ _ M2 _ HSK2.out hm (fun w_ M_ h_ => h_.dropN.rdB (.tl .hd))).mono ?_); rintro e_ w ⟨rfl, M3, hm2, hs2⟩; have HSK3 := Lib.hid hs2; clear hm hs2; have hm := hm2; clear hm2) | (go_at_call 43; (with_reducible refine (CS4.out _).mono ?_); rintro e_ w ⟨rfl, hx_⟩; replace hm := hm.ext hx_; clear hx_) | ((with_reducible show qLd); first | ((with_reducible apply wq_ldW hm); exact rfl; infer_instance; exact rfl; (focus ((repeat (first | exact .hd | assumption | apply Has.tl | apply Has.app)); done)); (focus (first | rfl | omega | (simp; done) | (simp; omega))))) | ((((with_reducible show qSt); first | ((with_reducible apply wq_stW hm); exact rfl; infer_instance; exact rfl; exact rfl; (focus ((repeat (first | exact .hd | assumption | apply Swap.tl | apply Swap.app)); done)); (focus (first | rfl | omega | (simp; done) | (simp; omega))); (focus (first | rfl | omega | (simp; done) | (simp; omega))); (focus (first | exact one_map _ | (simp [one8, one32, one64]; done)))))); clear hm; intro w hm))
             have hm2 := own_subq (M := M3 ++ (⟨g5, 36, Z.map v8⟩ :: ⟨g32_, 36, TT.map v8⟩ :: ⟨g31_, 36, S.map v8⟩ :: (Mu ++ (Mv ++ [⟨g4, 36, (Q1).map v8⟩, ⟨gx, 36, BX.map v8⟩, ⟨gw, 36, BW.map v8⟩, ⟨g2, 36, H.map v8⟩, ⟨g1, 39, R.map v8⟩])))) hm (List.Sublist.append (List.Sublist.refl M3) (.cons _ (.cons _ (.cons _ (.cons _ (.cons _ (List.Sublist.refl _)))))))
             clear hm
             go_roundw
             case rel => exact ⟨k1, M3, by have := HLT.out; omega, by go_num, by rw [show k1 = k + 1 by omega]; exact HSK3.out, by rw [show k1 = k + 1 by omega, HQ1.out]; exact hm2⟩
             case measure => have := HLT.out; simp [intOf] <;> omega
           · have hkn : k = np := by omega
             have d5 : decide ((k : Int) < (np : Int)) = false := decide_eq_false (by omega)
             have d6 : ¬ (k : Int) < (np : Int) := of_decide_eq_false d5
             rw [hkn] at hm HSK
             clear hkn hlt hk
             obtain ⟨w, rfl⟩ : ∃ w_, w_ = wr := ⟨_, rfl⟩
             obtain ⟨EU, hEU⟩ : ∃ X_, X_ = F (-1) 4 Z := ⟨_, rfl⟩
             obtain ⟨EV, hEV⟩ : ∃ X_, X_ = F (-1) 5 Z := ⟨_, rfl⟩
             obtain ⟨U2, hU2⟩ : ∃ X_, X_ = xorL u EU := ⟨_, rfl⟩
             obtain ⟨V2, hV2⟩ : ∃ X_, X_ = xorL v EV := ⟨_, rfl⟩
             obtain ⟨QY, hQY⟩ : ∃ X_, X_ = sumG YF np := ⟨_, rfl⟩
             obtain ⟨TLB, hTLB⟩ : ∃ X_, X_ = tailL F U2 V2 := ⟨_, rfl⟩
             obtain ⟨Q2, hQ2⟩ : ∃ X_, X_ = bothL QY TLB := ⟨_, rfl⟩
             obtain ⟨ET, hET⟩ : ∃ X_, X_ = F (-1) b TT := ⟨_, rfl⟩
             obtain ⟨YY, hYY⟩ : ∃ X_, X_ = bothL S ET := ⟨_, rfl⟩
             obtain ⟨TH, hTH⟩ : ∃ X_, X_ = bothL TT H := ⟨_, rfl⟩
             obtain ⟨EYB, hEYB⟩ : ∃ X_, X_ = F 0 b YY := ⟨_, rfl⟩
             obtain ⟨QE, hQE⟩ : ∃ X_, X_ = bothL Q2 EYB := ⟨_, rfl⟩
             obtain ⟨XX, hXX⟩ : ∃ X_, X_ = bothL TH QE := ⟨_, rfl⟩
             rw [← hQY] at hm
             have lEU : EU.length = 16 := by rw [hEU]; exact HFL.out _ _ _
             have lEV : EV.length = 16 := by rw [hEV]; exact HFL.out _ _ _
             have lET : ET.length = 16 := by rw [hET]; exact HFL.out _ _ _
             have lEYB : EYB.length = 16 := by rw [hEYB]; exact HFL.out _ _ _
             have lQ2 : Q2.length = 16 := by rw [hQ2]; exact bothL_length _ _
             have lYY : YY.length = 16 := by rw [hYY]; exact bothL_length _ _
             have lTH : TH.length = 16 := by rw [hTH]; exact bothL_length _ _
             have lQE : QE.length = 16 := by rw [hQE]; exact bothL_length _ _
             have lXX : XX.length = 16 := by rw [hXX]; exact bothL_length _ _
             have lQY : QY.length = 16 := by rw [hQY]; exact sumG_length _ _
             have lTLB : TLB.length = 16 := by rw [hTLB]; exact tailL_length F HFL.out U2 V2
             have lU2 : U2.length = u.length := by rw [hU2, xorL_length, lEU]; omega
             have lV2 : V2.length = v.length := by rw [hV2, xorL_length, lEV]; have := LUV.out; have := LDD.out; omega
             have lG := GL.out np
             have EA := Lib.hid (show over (GF np ++ l.drop (32 * np)) atu U2 = GF np ++ (U2 ++ (v ++ (x ++ y))) from by
               rw [EREST.out]
               by_cases h : 0 < dd
               · rw [HAU.out, if_pos h]; exact over_midq (GF np) u (v ++ (x ++ y)) U2 (32 * np) lG.symm lU2
               · have hu : u = [] := List.eq_nil_of_length_eq_zero (by have := LDD.out; omega)
                 have hU : U2 = [] := List.eq_nil_of_length_eq_zero (by have := LDD.out; omega)
                 rw [hU, over_zero _ _ (by rw [HAU.out, if_neg h]; omega), hu])
             have EB := Lib.hid (show over (GF np ++ (U2 ++ (v ++ (x ++ y)))) atv V2 = GF np ++ (U2 ++ (V2 ++ (x ++ y))) from by
               by_cases h : 16 ≤ dd
               · have h16 : u.length = 16 := by
                   rcases Nat.lt_or_ge u.length 16 with h1 | h1
                   · have := LUV.out h1; subst this; have := LDD.out; simp at this; omega
                   · omega
                 have := over_midq (GF np ++ U2) v (x ++ y) V2 (32 * np + 16) (by rw [List.length_append]; omega) lV2
                 rw [List.append_assoc, List.append_assoc] at this
                 rw [HAV.out, if_pos h]; exact this
               · have hv : v = [] := by
                   rcases Nat.lt_or_ge u.length 16 with h1 | h1
                   · exact LUV.out h1
                   · exact List.eq_nil_of_length_eq_zero (by have := LDD.out; omega)
                 have hV : V2 = [] := List.eq_nil_of_length_eq_zero (by rw [lV2, hv]; rfl)
                 rw [hV, over_zero _ _ (by rw [HAV.out, if_neg h]; omega), hv])
             have ECX := Lib.hid (show over (GF np ++ (U2 ++ (V2 ++ (x ++ y)))) n32 XX = GF np ++ (U2 ++ (V2 ++ (XX ++ y))) from by
               have := over_midq (GF np ++ (U2 ++ V2)) x y XX n32 (by rw [List.length_append, List.length_append, HN32.out, lG, lU2, lV2]; have := LDD.out; omega) (by rw [lXX, lx])
               simp only [List.append_assoc] at this
               exact this)
             have EDY := Lib.hid (show over (GF np ++ (U2 ++ (V2 ++ (XX ++ y)))) n16 YY = GF np ++ (U2 ++ (V2 ++ (XX ++ YY))) from by
               have := over_midq (GF np ++ (U2 ++ (V2 ++ XX))) y [] YY n16 (by rw [List.length_append, List.length_append, List.length_append, lG, lU2, lV2, lXX]; have := LDD.out; have := LN.out; have := HH16.out; omega) (by rw [lYY, ly])
               simp only [List.append_assoc, List.append_nil] at this
               exact this)
             have EFIN := Lib.hid (show joinT (coreT F H a b np ⟨ps, u, v, x, y⟩) = GF np ++ (U2 ++ (V2 ++ (XX ++ YY))) from by
               have eS : sT F H a np ⟨ps, u, v, x, y⟩ = S := by rw [HS.out, HX1.out, HX2.out, HPT.out, HPN.out, HXF.out, HTL.out, HEY.out, ← both_assoc]; rfl
               have eT : tT F H a np ⟨ps, u, v, x, y⟩ = TT := by rw [tT, eS, HTT.out, HES.out]
               have eZ : zT F H a np ⟨ps, u, v, x, y⟩ = Z := by rw [zT, eS, eT, HZ.out]
               have eU : uT F H a np ⟨ps, u, v, x, y⟩ = U2 := by rw [uT, eZ, hU2, hEU]
               have eV : vT F H a np ⟨ps, u, v, x, y⟩ = V2 := by rw [vT, eZ, hV2, hEV]
               have eQ : qT F H a np ⟨ps, u, v, x, y⟩ = Q2 := by rw [qT, eZ, eU, eV, hQ2, hQY, hTLB, HYF.out, HOP.out]
               have eY : yT F H a b np ⟨ps, u, v, x, y⟩ = YY := by rw [yT, eS, eT, hYY, hET]
               have eX : xT F H a b np ⟨ps, u, v, x, y⟩ = XX := by rw [xT, eT, eQ, eY, hXX, hTH, hQE, hEYB, ← both_assoc]
               have eW : twoP F Z ps np = GF np := by rw [twoP, HGF.out, HOP.out]
               rw [joinT, coreT, eZ, eU, eV, eX, eY]
               show twoP F Z ps np ++ _ = _
               rw [eW])
             have E4 := Lib.hid fun w (h : Ext w0 w) => (show Gives Tryz.prog 44 #[A8 R, .int .i64 (-1), .int .i64 4, A8 Z] w (A8 EU) from hEU ▸ EC.out w h (-1) 4 Z lZ (by omega) (by omega) (by omega) (by omega))
             have E5 := Lib.hid fun w (h : Ext w0 w) => (show Gives Tryz.prog 44 #[A8 R, .int .i64 (-1), .int .i64 5, A8 Z] w (A8 EV) from hEV ▸ EC.out w h (-1) 5 Z lZ (by omega) (by omega) (by omega) (by omega))
             have E6 := Lib.hid fun w (h : Ext w0 w) => (show Gives Tryz.prog 44 #[A8 R, .int .i64 (-1), .int .i64 b, A8 TT] w (A8 ET) from hET ▸ EC.out w h (-1) b TT lTT (by omega) (by omega) (by omega) (by omega))
             have E7 := Lib.hid fun w (h : Ext w0 w) => (show Gives Tryz.prog 44 #[A8 R, .int .i64 0, .int .i64 b, A8 YY] w (A8 EYB) from hEYB ▸ EC.out w h 0 b YY lYY (by omega) (by omega) (by omega) (by omega))
             have S6 := Lib.hid fun w => (show Gives Tryz.prog 43 #[A8 QY, A8 TLB] w (A8 Q2) from hQ2 ▸ SC.out w QY TLB lQY lTLB)
             have S7 := Lib.hid fun w => (show Gives Tryz.prog 43 #[A8 S, A8 ET] w (A8 YY) from hYY ▸ SC.out w S ET lS lET)
             have S8 := Lib.hid fun w => (show Gives Tryz.prog 43 #[A8 TT, A8 H] w (A8 TH) from hTH ▸ SC.out w TT H lTT lH)
             have S9 := Lib.hid fun w => (show Gives Tryz.prog 43 #[A8 Q2, A8 EYB] w (A8 QE) from hQE ▸ SC.out w Q2 EYB lQ2 lEYB)
             have S10 := Lib.hid fun w => (show Gives Tryz.prog 43 #[A8 TH, A8 QE] w (A8 XX) from hXX ▸ SC.out w TH QE lTH lQE)
             have XU := Lib.hid fun (wx : World) (B : Nat) (hB : B ≤ wx.heap.size) (pa pb : Option Addr) (c d : Nat) (ha : RdB wx pa u) (hb : RdB wx pb EU) => (show GivesR Tryz.prog 47 #[.slice pa u.length c, .slice pb 16 d] wx (OwnP B U2) from hU2 ▸ xor_gr u EU pa pb c d wx B hB ha hb lEU (by omega))
             have XV := Lib.hid fun (wx : World) (B : Nat) (hB : B ≤ wx.heap.size) (pa pb : Option Addr) (c d : Nat) (ha : RdB wx pa v) (hb : RdB wx pb EV) => (show GivesR Tryz.prog 47 #[.slice pa v.length c, .slice pb 16 d] wx (OwnP B V2) from hV2 ▸ xor_gr v EV pa pb c d wx B hB ha hb lEV (by rw [← lV2]; have := LDD.out; have := lV2; omega))
             have TCB := Lib.hid fun w (h : Ext w0 w) (qu qv : Option Addr) (cu cv : Nat) (h1 : RdB w qu U2) (h2 : RdB w qv V2) => show Gives Tryz.prog 45 #[A8 R, .slice qu u.length cu, .slice qv v.length cv] w (A8 TLB) from by
               have h_ := rtail_any R hR F HFL.out U2 V2 qu qv cu cv (by omega) (by have := LDD.out; omega) w h1 h2 (fun wy hy => EC.out wy (h.trans hy))
               rw [lU2, lV2, ← hTLB] at h_
               exact h_
             have lM0 : (GF np ++ l.drop (32 * np)).length = n := LMF.out np (Nat.le_refl _)
             obtain ⟨M0, hM0⟩ : ∃ X_, X_ = GF np ++ l.drop (32 * np) := ⟨_, rfl⟩
             rw [← hM0] at EA HSK lM0
             obtain ⟨MA, hMA⟩ : ∃ X_, X_ = GF np ++ (U2 ++ (v ++ (x ++ y))) := ⟨_, rfl⟩
             rw [← hMA] at EA EB
             obtain ⟨MB, hMB⟩ : ∃ X_, X_ = GF np ++ (U2 ++ (V2 ++ (x ++ y))) := ⟨_, rfl⟩
             rw [← hMB] at EB ECX
             obtain ⟨MC, hMC⟩ : ∃ X_, X_ = GF np ++ (U2 ++ (V2 ++ (XX ++ y))) := ⟨_, rfl⟩
             rw [← hMC] at ECX EDY
             obtain ⟨MD, hMD⟩ : ∃ X_, X_ = GF np ++ (U2 ++ (V2 ++ (XX ++ YY))) := ⟨_, rfl⟩
             rw [← hMD] at EDY EFIN
             have bA : atu + U2.length ≤ n := by rw [HAU.out, lU2]; have := LN.out; have := LDD.out; split <;> omega
             have bB : atv + V2.length ≤ n := by
               rw [lV2, HAV.out]; have := LN.out; have := LDD.out
               split <;> omega
             have bC : n32 + XX.length ≤ n := by rw [lXX]; have := LN.out; have := HN32.out; omega
             have bD : n16 + YY.length ≤ n := by rw [lYY]; have := LN.out; have := HH16.out; omega
             have lMA : MA.length = n := by rw [← EA.out, over_length _ _ _ (by rw [lM0]; exact bA)]; exact lM0
             have lMB : MB.length = n := by rw [← EB.out, over_length _ _ _ (by rw [lMA]; exact bB)]; exact lMA
             have lMC : MC.length = n := by rw [← ECX.out, over_length _ _ _ (by rw [lMB]; exact bC)]; exact lMB
             have lMD : MD.length = n := by rw [← EDY.out, over_length _ _ _ (by rw [lMC]; exact bD)]; exact lMC
             have PA := Lib.hid fun (w : World) (pb : Option Addr) (cb : Nat) (M Rx : List Blk) (hs : SlO M 5 1 (.slice p_v1 n c_v1) n ((M0).map v8)) (hm : Own w0 w (M ++ Rx)) (hr : ∀ w' M', Own w0 w' (M' ++ Rx) → RdB w' pb U2) => show Calls Tryz.prog 46 #[.slice p_v1 n c_v1, .int .i64 (atu : Int), .slice pb u.length cb] w fun e w' => e = .returned (.tuple #[]) ∧ ∃ M', Own w0 w' (M' ++ Rx) ∧ SlO M' 5 1 (.slice p_v1 n c_v1) n ((MA).map v8) from by
               have h_ := rput_any M0 U2 atu n p_v1 pb c_v1 cb lM0 hr16 bA w0 w M Rx hs hm hr
               rw [EA.out, lU2] at h_
               exact h_
             have PB := Lib.hid fun (w : World) (pb : Option Addr) (cb : Nat) (M Rx : List Blk) (hs : SlO M 5 1 (.slice p_v1 n c_v1) n ((MA).map v8)) (hm : Own w0 w (M ++ Rx)) (hr : ∀ w' M', Own w0 w' (M' ++ Rx) → RdB w' pb V2) => show Calls Tryz.prog 46 #[.slice p_v1 n c_v1, .int .i64 (atv : Int), .slice pb v.length cb] w fun e w' => e = .returned (.tuple #[]) ∧ ∃ M', Own w0 w' (M' ++ Rx) ∧ SlO M' 5 1 (.slice p_v1 n c_v1) n ((MB).map v8) from by
               have h_ := rput_any MA V2 atv n p_v1 pb c_v1 cb lMA hr16 bB w0 w M Rx hs hm hr
               rw [EB.out, lV2] at h_
               exact h_
             have PCX := Lib.hid fun (w : World) (pb : Option Addr) (cb : Nat) (M Rx : List Blk) (hs : SlO M 5 1 (.slice p_v1 n c_v1) n ((MB).map v8)) (hm : Own w0 w (M ++ Rx)) (hr : ∀ w' M', Own w0 w' (M' ++ Rx) → RdB w' pb XX) => show Calls Tryz.prog 46 #[.slice p_v1 n c_v1, .int .i64 (n32 : Int), .slice pb 16 cb] w fun e w' => e = .returned (.tuple #[]) ∧ ∃ M', Own w0 w' (M' ++ Rx) ∧ SlO M' 5 1 (.slice p_v1 n c_v1) n ((MC).map v8) from by
               have h_ := rput_any MB XX n32 n p_v1 pb c_v1 cb lMB hr16 bC w0 w M Rx hs hm hr
               rw [ECX.out, lXX] at h_
               exact h_
             have PD := Lib.hid fun (w : World) (pb : Option Addr) (cb : Nat) (M Rx : List Blk) (hs : SlO M 5 1 (.slice p_v1 n c_v1) n ((MC).map v8)) (hm : Own w0 w (M ++ Rx)) (hr : ∀ w' M', Own w0 w' (M' ++ Rx) → RdB w' pb YY) => show Calls Tryz.prog 46 #[.slice p_v1 n c_v1, .int .i64 (n16 : Int), .slice pb 16 cb] w fun e w' => e = .returned (.tuple #[]) ∧ ∃ M', Own w0 w' (M' ++ Rx) ∧ SlO M' 5 1 (.slice p_v1 n c_v1) n ((MD).map v8) from by
               have h_ := rput_any MC YY n16 n p_v1 pb c_v1 cb lMC hr16 bD w0 w M Rx hs hm hr
               rw [EDY.out, lYY] at h_
               exact h_
             have QEU := Lib.hid hEU
             have QEV := Lib.hid hEV
             have QU2 := Lib.hid hU2
             have QV2 := Lib.hid hV2
             have QQY := Lib.hid hQY
             have QTLB := Lib.hid hTLB
             have QQ2 := Lib.hid hQ2
             have QET := Lib.hid hET
             have QYY := Lib.hid hYY
             have QTH := Lib.hid hTH
             have QEYB := Lib.hid hEYB
             have QQE := Lib.hid hQE
             have QXX := Lib.hid hXX
             clear hEU hEV hU2 hV2 hQY hTLB hQ2 hET hYY hTH hEYB hQE hXX hM0 hMA hMB hMC hMD bA bB bC bD
             go_wp2_with fail
             refine pregion 10 (K2 _ _ 36 ((zer 16).map v8) (EU.map v8) (EV.map v8)) [6, 7, 8, 9] 308 (by kernel_rfl) (by kernel_rfl) rfl (⟨none, none, none, none, rfl, TwoV.start (hm.ext (drew_ext _))⟩) ?_
             simp only [tSC, List.take_zero, dSC, List.drop_zero, List.map_cons, List.map_nil]
             repeat (first
                 | (apply pwalk_mark (T := []) 0 [] rfl rfl rfl rfl rfl; (intro vs_ wx hJ_ hn_ hD_; simp only [pwithS]; obtain ⟨a_, b_, c_, d_, rfl, hT_⟩ := hJ_; obtain rfl : a_ = none := (by simpa using hn_); have hm := hT_.oa; refine ⟨rfl, ?_⟩; (with_reducible apply wq_new hm); exact rfl; infer_instance; clear hm; intro g_ w_ hm; exact mark_end rfl (hT_.j0 hm)))
                 | (apply pwalk_mark (T := []) 1 [] rfl rfl rfl rfl rfl; (intro vs_ wx hJ_ hn_ hD_; simp only [pwithS]; obtain ⟨a_, b_, c_, d_, rfl, hT_⟩ := hJ_; obtain rfl : b_ = none := (by simpa using hn_); have hm := hT_.ob; refine ⟨rfl, ?_⟩; (with_reducible apply wq_new hm); exact rfl; infer_instance; clear hm; intro g_ w_ hm; exact mark_end rfl (hT_.j1 hm)))
                 | (apply pwalk_mark (T := [(40, PMk 0)]) 2 [] rfl rfl rfl rfl rfl; (intro vs_ wx hJ_ hn_ hD_; simp only [pwithS]; obtain ⟨a_, b_, c_, d_, rfl, hT_⟩ := hJ_; obtain rfl : c_ = none := (by simpa using hn_); intro x_ hx_; obtain rfl : a_ = some x_ := (by simpa [PMk] using hx_); obtain ⟨g_, rfl, hm⟩ := hT_.sa; refine ⟨rfl, ?_⟩; (with_reducible apply wq_stW hm); exact rfl; infer_instance; exact rfl; exact rfl; (focus ((repeat (first | exact .hd | assumption | apply Swap.tl | apply Swap.app)); done)); (focus (first | rfl | omega | (simp; done) | (simp; omega))); (focus (first | rfl | omega | (simp; done) | (simp; omega))); (focus (first | exact one_map _ | (simp [one8, one32, one64]; done))); clear hm; intro w_ hm; exact mark_end rfl (fun u_ => hT_.j2 hm)))
                 | (apply pwalk_mark (T := [(41, PMk 1)]) 3 [] rfl rfl rfl rfl rfl; (intro vs_ wx hJ_ hn_ hD_; simp only [pwithS]; obtain ⟨a_, b_, c_, d_, rfl, hT_⟩ := hJ_; obtain rfl : d_ = none := (by simpa using hn_); intro x_ hx_; obtain rfl : b_ = some x_ := (by simpa [PMk] using hx_); obtain ⟨g_, rfl, hm⟩ := hT_.sb; refine ⟨rfl, ?_⟩; (with_reducible apply wq_stW hm); exact rfl; infer_instance; exact rfl; exact rfl; (focus ((repeat (first | exact .hd | assumption | apply Swap.tl | apply Swap.app)); done)); (focus (first | rfl | omega | (simp; done) | (simp; omega))); (focus (first | rfl | omega | (simp; done) | (simp; omega))); (focus (first | exact one_map _ | (simp [one8, one32, one64]; done))); clear hm; intro w_ hm; exact mark_end rfl (fun u_ => hT_.j3 hm)))
                 | (apply pwalk_is rfl rfl rfl rfl
                    · (intro vs_ wx hJ_; obtain ⟨a_, b_, c_, d_, rfl, hT_⟩ := hJ_; have hm := hT_.low; first | ((with_reducible show gives _ _ _ (Sem.run _ (execOp _ (Oper.mk _ (Op.load _ _) _ _ _ _)) _)); first | ((with_reducible apply gq_ldv hm); infer_instance; exact rfl; (focus ((repeat (first | exact .hd | assumption | apply Has.tl | apply Has.app)); done)); (focus (first | omega | (simp; omega) | (refine ltB ?_; first | omega | (simp; done) | (simp; omega))))) | ((with_reducible apply gq_ldW hm); infer_instance; exact rfl; (focus ((repeat (first | exact .hd | assumption | apply Has.tl | apply Has.app)); done)); (focus (first | rfl | omega | (simp; done) | (simp; omega)))) | ((with_reducible apply gq_ld1 hm); infer_instance; exact rfl; (focus ((repeat (first | exact .hd | assumption | apply Has.tl | apply Has.app)); done)); exact rfl)) | (go_simp; (try go_bits); first | exact gives_same | exact gives_skip | with_reducible exact gives_call (E4.out wx hm.x) | with_reducible exact gives_call (E5.out wx hm.x)))
                    · (simp only [Act.put, sIB, sCS, sCZ]; rfl)))
             intro vs_ wz hJ_ hl_ hall_
             simp only [zCC, zNR]
             repeat rw [pfin_is]
             rw [pfin_cons]; intro x40 hx40
             repeat rw [pfin_is]
             rw [pfin_cons]; intro x41 hx41
             repeat rw [pfin_is]
             rw [pfin_cons]; intro y40 hy40
             repeat rw [pfin_is]
             rw [pfin_cons]; intro y41 hy41
             repeat rw [pfin_is]
             rw [pfin_nil]
             simp only [Act.put, sIB, sCS, sCZ]
             obtain ⟨a_, b_, c_, d_, rfl, hT_⟩ := hJ_
             obtain ⟨p_, q_, r_, s_, rfl, rfl, rfl, rfl⟩ := some4 hall_
             clear hm
             obtain ⟨g40_, g41_, rfl, rfl, hm⟩ := hT_.fin
             obtain rfl := pmk0 hx40
             obtain rfl := pmk1 hx41
             clear hT_ hl_ hall_ hx40 hx41 hy40 hy41 y40 y41
             go_wp2_with fail
             obtain ⟨w, rfl⟩ : ∃ w_, w_ = wz := ⟨_, rfl⟩
             have hmu := own_subq (M := Mu ++ (Mv ++ [])) hm (.cons _ (.cons _ ((List.Sublist.cons _ (.cons _ (.cons _ (List.Sublist.append (List.Sublist.refl Mu) (List.Sublist.append (List.Sublist.refl Mv) (List.nil_sublist _)))))).trans (List.sublist_append_right M _))))
             have RDU := Lib.hid fun wx (hwx : Ext w wx) => slo_rdB HSU.out (hmu.ext hwx)
             have RDV := Lib.hid fun wx (hwx : Ext w wx) => slo_rdB HSV.out (hmu.ext hwx).dropN
             have RDA := Lib.hid fun wx (hwx : Ext w wx) => (hm.ext hwx).rdB (g := g40_) (l := EU) (by repeat (first | exact Has.hd | assumption | apply Has.tl | apply Has.app))
             have RDB' := Lib.hid fun wx (hwx : Ext w wx) => (hm.ext hwx).rdB (g := g41_) (l := EV) (by repeat (first | exact Has.hd | assumption | apply Has.tl | apply Has.app))
             clear hmu
             refine region_new 6 (fun w' => Ext _ w') 308 (by kernel_rfl) (by kernel_rfl) rfl (fun _ _ h k => h.trans k) (drew_ext _) ?_
             simp only [tSC, List.take_zero, dSC, List.drop_zero, List.map_cons, List.map_nil]
             repeat (first
                 | (apply walk_some (OwnP (w.heap.size) U2) 263 (OwnP.stable _ _) rfl rfl rfl rfl; (intro wx hwx; go_simp; (have q1 := (RDU.out wx hwx)); (have q2 := (RDA.out wx hwx)); (have q3 := XU.out wx _ hwx.size _ _ cu 16 q1 q2); exact gives_callR q3))
                 | (apply walk_some (OwnP (w.heap.size) V2) 266 (OwnP.stable _ _) rfl rfl rfl rfl; (intro wx hwx; go_simp; (have q1 := (RDV.out wx hwx)); (have q2 := (RDB'.out wx hwx)); (have q3 := XV.out wx _ hwx.size _ _ cv 16 q1 q2); exact gives_callR q3))
                 | (apply walk_is rfl rfl rfl
                    · (intro wx hwx; first | ((with_reducible show gives _ _ _ (Sem.run _ (execOp _ (Oper.mk _ (Op.load _ _) _ _ _ _)) _)); first | ((with_reducible apply gq_ldv (hm.ext hwx)); infer_instance; exact rfl; (focus ((repeat (first | exact .hd | assumption | apply Has.tl | apply Has.app)); done)); (focus (first | omega | (simp; omega) | (refine ltB ?_; first | omega | (simp; done) | (simp; omega))))) | ((with_reducible apply gq_ldW (hm.ext hwx)); infer_instance; exact rfl; (focus ((repeat (first | exact .hd | assumption | apply Has.tl | apply Has.app)); done)); (focus (first | rfl | omega | (simp; done) | (simp; omega)))) | ((with_reducible apply gq_ld1 (hm.ext hwx)); infer_instance; exact rfl; (focus ((repeat (first | exact .hd | assumption | apply Has.tl | apply Has.app)); done)); exact rfl)) | (go_simp; (try go_bits); first | exact gives_same | exact gives_skip))
                    · (simp only [Act.put, sIB, sCS, sCZ]; rfl))
                 | (apply walk_not rfl rfl rfl
                    · (simp only [Act.put, sIB, sCS, sCZ]; rfl)))
             intro wz hwz
             simp only [zCC, zNR]
             repeat rw [fin_is]
             rw [fin_cons]; intro x263 hx263
             repeat rw [fin_is]
             rw [fin_cons]; intro x266 hx266
             repeat rw [fin_is]
             rw [fin_nil]; intro hap
             simp only [Act.put, sIB, sCS, sCZ] at hap ⊢
             obtain ⟨N, pU, cU, pV, cV, rfl, rfl, hmN, hN⟩ := own_twoB hm hwz hx263 hx266
             have HNR := Lib.hid hN
             clear hm hN hap hx263 hx266 RDU RDV RDA RDB'
             have hmN2 := own_assocq (A := N) (B := [⟨g40_, 36, EU.map v8⟩, ⟨g41_, 36, EV.map v8⟩]) (C := M ++ _) hmN
             have hm := hmN2.perm (perm_midq (N ++ [⟨g40_, 36, EU.map v8⟩, ⟨g41_, 36, EV.map v8⟩]) M _)
             clear hmN hmN2
             obtain ⟨w, rfl⟩ : ∃ w_, w_ = wz := ⟨_, rfl⟩
             rw [List.append_assoc N] at hm
             go_wp2_with (first | (go_at_call 46; (with_reducible refine (PA.out _ _ _ M _ HSK.out hm (fun w_ M_ h_ => (HNR.out _ _ _ h_.dropN).1)).mono ?_); rintro e_ w ⟨rfl, M2, hm2, hs2⟩; have HSA := Lib.hid hs2; clear hm hs2; have hm := hm2; clear hm2) | (go_at_call 46; (with_reducible refine (PB.out _ _ _ M2 _ HSA.out hm (fun w_ M_ h_ => (HNR.out _ _ _ h_.dropN).2)).mono ?_); rintro e_ w ⟨rfl, M4, hm2, hs2⟩; have HSB := Lib.hid hs2; clear hm hs2; have hm := hm2; clear hm2))
             have hx0 := hm.x
             have c1 := fun wx (hwx : Ext _ wx) => TCB.out wx (hx0.trans hwx) pU pV cU cV (HNR.out _ _ _ (hm.ext hwx).dropN).1 (HNR.out _ _ _ (hm.ext hwx).dropN).2
             refine region_at 6 (fun w' => Ext _ w') 308 (by kernel_rfl) (by kernel_rfl) rfl (fun _ _ h k => h.trans k) (drew_ext _) ?_
             simp only [tSC, List.take_zero, dSC, List.drop_zero, List.map_cons, List.map_nil]
             repeat (first
                 | (apply walk_is rfl rfl rfl
                    · (intro wx hwx; first | ((with_reducible show gives _ _ _ (Sem.run _ (execOp _ (Oper.mk _ (Op.load _ _) _ _ _ _)) _)); first | ((with_reducible apply gq_ldv (hm.ext hwx)); infer_instance; exact rfl; (focus ((repeat (first | exact .hd | assumption | apply Has.tl | apply Has.app)); done)); (focus (first | omega | (simp; omega) | (refine ltB ?_; first | omega | (simp; done) | (simp; omega))))) | ((with_reducible apply gq_ldW (hm.ext hwx)); infer_instance; exact rfl; (focus ((repeat (first | exact .hd | assumption | apply Has.tl | apply Has.app)); done)); (focus (first | rfl | omega | (simp; done) | (simp; omega)))) | ((with_reducible apply gq_ld1 (hm.ext hwx)); infer_instance; exact rfl; (focus ((repeat (first | exact .hd | assumption | apply Has.tl | apply Has.app)); done)); exact rfl)) | (go_simp; (try go_bits); first | exact gives_same | exact gives_skip | with_reducible exact gives_call (c1 wx hwx) | with_reducible exact gives_call (S6.out wx)))
                    · (simp only [Act.put, sIB, sCS, sCZ]; rfl))
                 | (apply walk_not rfl rfl rfl
                    · (simp only [Act.put, sIB, sCS, sCZ]; rfl)))
             intro wz hwz
             simp only [zCC, zNR]
             repeat (first | rw [fin_is] | (rw [fin_cons]; intro _ _))
             rw [fin_nil]
             try (replace hm := hm.ext hwz)
             simp only [Act.put, sIB, sCS, sCZ]
             clear c1 hx0
             go_wp2_with (first | ((((with_reducible show qSt); first | ((with_reducible apply wq_stW hm); exact rfl; infer_instance; exact rfl; exact rfl; (focus ((repeat (first | exact .hd | assumption | apply Swap.tl | apply Swap.app)); done)); (focus (first | rfl | omega | (simp; done) | (simp; omega))); (focus (first | rfl | omega | (simp; done) | (simp; omega))); (focus (first | exact one_map _ | (simp [one8, one32, one64]; done)))))); clear hm; intro w hm))
             have hx0 := hm.x
             refine region_new 7 (fun w' => Ext _ w') 308 (by kernel_rfl) (by kernel_rfl) rfl (fun _ _ h k => h.trans k) (drew_ext _) ?_
             simp only [tSC, List.take_zero, dSC, List.drop_zero, List.map_cons, List.map_nil]
             repeat (first
                 | (apply walk_some (NewS (w.heap.size) 36 ((zer 16).map v8)) 42 (NewS.stable _ _ _) rfl rfl rfl rfl
                    · (intro wx hwx; go_simp; exact gives_new (cs := (zer 16).map v8) hwx.size))
                 | (apply walk_is rfl rfl rfl
                    · (intro wx hwx; first | ((with_reducible show gives _ _ _ (Sem.run _ (execOp _ (Oper.mk _ (Op.load _ _) _ _ _ _)) _)); first | ((with_reducible apply gq_ldv (hm.ext hwx)); infer_instance; exact rfl; (focus ((repeat (first | exact .hd | assumption | apply Has.tl | apply Has.app)); done)); (focus (first | omega | (simp; omega) | (refine ltB ?_; first | omega | (simp; done) | (simp; omega))))) | ((with_reducible apply gq_ldW (hm.ext hwx)); infer_instance; exact rfl; (focus ((repeat (first | exact .hd | assumption | apply Has.tl | apply Has.app)); done)); (focus (first | rfl | omega | (simp; done) | (simp; omega)))) | ((with_reducible apply gq_ld1 (hm.ext hwx)); infer_instance; exact rfl; (focus ((repeat (first | exact .hd | assumption | apply Has.tl | apply Has.app)); done)); exact rfl)) | (go_simp; (try go_bits); first | exact gives_same | exact gives_skip | with_reducible exact gives_call (S7.out wx) | with_reducible exact gives_call (E6.out wx (hx0.trans hwx))))
                    · (simp only [Act.put, sIB, sCS, sCZ]; rfl))
                 | (apply walk_not rfl rfl rfl
                    · (simp only [Act.put, sIB, sCS, sCZ]; rfl)))
             intro wz hwz
             simp only [zCC, zNR]
             repeat rw [fin_is]
             rw [fin_cons]; intro x42 hx42
             repeat rw [fin_is]
             rw [fin_nil]; intro hap
             simp only [Act.put, sIB, sCS, sCZ] at hap ⊢
             obtain ⟨g42_, rfl, hg42, hr42⟩ := hx42
             replace hm := hm.push hwz hg42 hr42
             clear hap hr42
             clear hx0
             go_wp2_with (first | ((((with_reducible show qSt); first | ((with_reducible apply wq_stW hm); exact rfl; infer_instance; exact rfl; exact rfl; (focus ((repeat (first | exact .hd | assumption | apply Swap.tl | apply Swap.app)); done)); (focus (first | rfl | omega | (simp; done) | (simp; omega))); (focus (first | rfl | omega | (simp; done) | (simp; omega))); (focus (first | exact one_map _ | (simp [one8, one32, one64]; done)))))); clear hm; intro w hm))
             have hx0 := hm.x
             refine region_new 11 (fun w' => Ext _ w') 308 (by kernel_rfl) (by kernel_rfl) rfl (fun _ _ h k => h.trans k) (drew_ext _) ?_
             simp only [tSC, List.take_zero, dSC, List.drop_zero, List.map_cons, List.map_nil]
             repeat (first
                 | (apply walk_some (NewS (w.heap.size) 36 ((zer 16).map v8)) 43 (NewS.stable _ _ _) rfl rfl rfl rfl
                    · (intro wx hwx; go_simp; exact gives_new (cs := (zer 16).map v8) hwx.size))
                 | (apply walk_is rfl rfl rfl
                    · (intro wx hwx; first | ((with_reducible show gives _ _ _ (Sem.run _ (execOp _ (Oper.mk _ (Op.load _ _) _ _ _ _)) _)); first | ((with_reducible apply gq_ldv (hm.ext hwx)); infer_instance; exact rfl; (focus ((repeat (first | exact .hd | assumption | apply Has.tl | apply Has.app)); done)); (focus (first | omega | (simp; omega) | (refine ltB ?_; first | omega | (simp; done) | (simp; omega))))) | ((with_reducible apply gq_ldW (hm.ext hwx)); infer_instance; exact rfl; (focus ((repeat (first | exact .hd | assumption | apply Has.tl | apply Has.app)); done)); (focus (first | rfl | omega | (simp; done) | (simp; omega)))) | ((with_reducible apply gq_ld1 (hm.ext hwx)); infer_instance; exact rfl; (focus ((repeat (first | exact .hd | assumption | apply Has.tl | apply Has.app)); done)); exact rfl)) | (go_simp; (try go_bits); first | exact gives_same | exact gives_skip | with_reducible exact gives_call (S8.out wx) | with_reducible exact gives_call (S9.out wx) | with_reducible exact gives_call (S10.out wx) | with_reducible exact gives_call (E7.out wx (hx0.trans hwx))))
                    · (simp only [Act.put, sIB, sCS, sCZ]; rfl))
                 | (apply walk_not rfl rfl rfl
                    · (simp only [Act.put, sIB, sCS, sCZ]; rfl)))
             intro wz hwz
             simp only [zCC, zNR]
             repeat rw [fin_is]
             rw [fin_cons]; intro x43 hx43
             repeat rw [fin_is]
             rw [fin_nil]; intro hap
             simp only [Act.put, sIB, sCS, sCZ] at hap ⊢
             obtain ⟨g43_, rfl, hg43, hr43⟩ := hx43
             replace hm := hm.push hwz hg43 hr43
             clear hap hr43
             clear hx0
             go_wp2_with (first | ((((with_reducible show qSt); first | ((with_reducible apply wq_stW hm); exact rfl; infer_instance; exact rfl; exact rfl; (focus ((repeat (first | exact .hd | assumption | apply Swap.tl | apply Swap.app)); done)); (focus (first | rfl | omega | (simp; done) | (simp; omega))); (focus (first | rfl | omega | (simp; done) | (simp; omega))); (focus (first | exact one_map _ | (simp [one8, one32, one64]; done)))))); clear hm; intro w hm))
             have hmP := hm.perm (perm_midq ([⟨g43_, 36, XX.map v8⟩, ⟨g42_, 36, YY.map v8⟩]) M4 _)
             clear hm
             simp only [List.cons_append, List.nil_append] at hmP
             have hm := hmP
             clear hmP
             go_wp2_with (first | (go_at_call 46; (with_reducible refine (PCX.out _ _ _ M4 _ HSB.out hm (fun w_ M_ h_ => h_.dropN.rdB .hd)).mono ?_); rintro e_ w ⟨rfl, M5, hm2, hs2⟩; have HSC := Lib.hid hs2; clear hm hs2; have hm := hm2; clear hm2) | (go_at_call 46; (with_reducible refine (PD.out _ _ _ M5 _ HSC.out hm (fun w_ M_ h_ => h_.dropN.rdB (.tl .hd))).mono ?_); rintro e_ w ⟨rfl, M6, hm2, hs2⟩; have HSD := Lib.hid hs2; clear hm hs2; have hm := hm2; clear hm2))
             rw [EFIN.out]
             go_ret
             exact ⟨.slice p_v1 n c_v1, rfl, ⟨p_v1, c_v1, by rw [lMD], by rw [lMD]; exact hcm, slo_rdB HSD.out hm⟩, hm.x⟩
end Go.Proofs.YtaijfigohlkccaaGreatDoor
