/-
  Layer 20: what the statements look at first. Conditions: those written in each theorem.
  Slices of slices: from a place on, up to a place. Conditions: those written in each theorem.
  Layer 20, the document's: bytes put over others, exclusive or as an own slice. Conditions: those written in each theorem.
  Layer 3: the document's boxes. No conditions.
  Layer 15, the document's: the boxes in a struct of a key's parts, made. No conditions.
-/
import Derived.Test.YtaijfigohlkccaaGreatDoorZCoreTurns0
import Derived.Test.YtaijfigohlkccaaGreatDoorZCoreTurns21
import Derived.Test.YtaijfigohlkccaaGreatDoorZCoreTurns15
import Derived.Test.YtaijfigohlkccaaGreatDoorZCoreTurns6
import Derived.Test.YtaijfigohlkccaaGreatDoorZCoreTurns17
import Derived.Test.YtaijfigohlkccaaGreatDoorZCoreTurns14
import Derived.Test.YtaijfigohlkccaaGreatDoorZCoreTurns8
import Derived.Test.YtaijfigohlkccaaGreatDoorZCoreTurns12
set_option linter.unusedSimpArgs false
set_option linter.unusedVariables false
namespace Go.Proofs.YtaijfigohlkccaaGreatDoor
open Go Go.RowKit
set_option maxRecDepth 100000
abbrev textC (p : Option Addr) (n c : Nat) (q : Option Addr) (m d : Nat) (r : Option Addr) (k f : Nat) (b : Bool) : List Value := [.slice p n c, .slice q m d, .slice r k f, .bool b]
def rightT (key : List Byte) (ls : List (List Byte)) (m : Nat) : Bool := (ls.all fun l => decide (l.length ≤ 60)) && (rightL key && (decide (ls.length ≤ 6) && decide (m ≤ 300)))
theorem all_takeT (ls : List (List Byte)) (k : Nat) (h : k < ls.length) : ((ls.take (k + 1)).all fun l => decide (l.length ≤ 60)) = (((ls.take k).all fun l => decide (l.length ≤ 60)) && decide ((ls.getD k []).length ≤ 60)) := by
 rw [List.take_succ_eq_append_getElem h, List.all_append, List.getD_eq_getElem?_getD, List.getElem?_eq_getElem h]; simp
theorem rightT_out {key : List Byte} {ls : List (List Byte)} {m : Nat} (h : rightT key ls m = true) : rightL key = true ∧ (∀ i, (ls.getD i []).length ≤ 60) ∧ ls.length ≤ 6 ∧ m ≤ 300 := by
 simp only [rightT, Bool.and_eq_true, decide_eq_true_eq, List.all_eq_true] at h
 refine ⟨h.2.1, fun i => ?_, h.2.2⟩
 rw [List.getD_eq_getElem?_getD]
 cases hi : ls[i]? with
 | none => simp
 | some x => exact h.1 x (List.mem_of_getElem? hi)
set_option maxHeartbeats 4000000 in
theorem tright_any (key : List Byte) (p : Option Addr) (c : Nat) (ls : List (List Byte)) (q : Option Addr) (d : Nat) (r : Option Addr) (m f : Nat) (b : Bool) (w0 : World) (hl : ls.length ≤ maxLen) (hr : RdR w0 q ls) : Gives Tryz.prog 6 #[.agg (textC p key.length c q ls.length d r m f b).toArray] w0 (.bool (rightT key ls m)) := by
 unfold Gives
 have hm := Own.start w0
 have HR := Lib.hid hr
 have CR := Lib.hid fun w => right15_any key p c w
 have hl2 : ls.length ≤ 9223372036854775807 := Nat.le_trans hl (by decide)
 have ET := Lib.hid (all_takeT ls)
 have e1 : Hid ((ls.all fun l => decide (l.length ≤ 60)) = true → rightT key ls m = (rightL key && (decide (ls.length ≤ 6) && decide (m ≤ 300)))) := Lib.hid fun h => by rw [rightT, h, Bool.true_and]
 have e2 : Hid ((ls.all fun l => decide (l.length ≤ 60)) = false → rightT key ls m = false) := Lib.hid fun h => by rw [rightT, h, Bool.false_and]
 clear hr
 generalize rightT key ls m = V at *
 generalize rightL key = RK at *
 go_enter Tryz.func6, Tryz.ntmps6
 go_wp2_with (first | ((first | ((with_reducible show qBx); first | ((with_reducible apply wq_boxN hm); exact rfl; exact rfl))); clear hm; (first | (have hx_ := g1; clear hx_; intro gx_) | intro g1); intro w hm))
 go_loopw [3] (fun i wr => ∃ k : Nat, k ≤ ls.length ∧ i = .int .i64 k ∧ ((ls.take k).all fun l => decide (l.length ≤ 60)) = true ∧ Own w0 wr [⟨g1, 25, textC p key.length c q ls.length d r m f b⟩]) (fun i _ => ls.length - (intOf i).toNat)
 case atStart => exact ⟨0, by omega, rfl, rfl, hm⟩
 case round =>
   obtain ⟨k, hk, rfl, hall, hm⟩ := hrel
   have HALL := Lib.hid hall
   clear hall
   by_cases hlt : k < ls.length
   · have hd : decide ((k : Int) < (ls.length : Int)) = true := decide_eq_true (by omega)
     have hd2 : (k : Int) < (ls.length : Int) := by omega
     obtain ⟨a, rfl, q', c', hcell, _, _, hlm⟩ := (HR.out.ext hm.x).row k hlt
     have EK := Lib.hid (ET.out k hlt)
     have EA := Lib.hid fun (h : 60 < (ls.getD k []).length) => (show (ls.all fun l => decide (l.length ≤ 60)) = false by
       rw [List.all_eq_false]
       exact ⟨ls.getD k [], by rw [List.getD_eq_getElem?_getD, List.getElem?_eq_getElem hlt]; exact List.getElem_mem hlt, by simpa using h⟩)
     generalize ls.getD k [] = B at *
     by_cases hb : 60 < B.length
     · have c1 : decide ((60 : Int) < (B.length : Int)) = true := decide_eq_true (by omega)
       have c2 : (60 : Int) < (B.length : Int) := by omega
       have eV := e2.out (EA.out hb)
       go_wp2_with (first | ((with_reducible show qLd); first | ((with_reducible apply wq_ld1 hm); exact rfl; infer_instance; exact rfl; (focus (repeat first | exact .hd | assumption | apply Has.tl); done); exact rfl)))
       go_ret
       exact ⟨by rw [eV]; rfl, hm.x⟩
     · have c1 : decide ((60 : Int) < (B.length : Int)) = false := decide_eq_false (by omega)
       have c2 : ¬ (60 : Int) < (B.length : Int) := by omega
       go_wp2_with (first | ((with_reducible show qLd); first | ((with_reducible apply wq_ld1 hm); exact rfl; infer_instance; exact rfl; (focus (repeat first | exact .hd | assumption | apply Has.tl); done); exact rfl)))
       go_roundw
       case rel => exact ⟨k + 1, by omega, by go_num, by rw [EK.out, HALL.out, Bool.true_and, decide_eq_true_eq]; omega, hm⟩
       case measure => simp [intOf] <;> omega
   · obtain rfl : k = ls.length := by omega
     have hall := HALL.out
     rw [List.take_length] at hall
     have eV := e1.out hall
     clear hall
     have hd : decide ((ls.length : Int) < (ls.length : Int)) = false := decide_eq_false (by omega)
     cases RK with
     | false =>
       rw [Bool.false_and] at eV
       go_wp2_with (first | (go_at_call 21; (with_reducible refine (CR.out _).mono ?_); rintro e_ w_ ⟨rfl, rfl⟩) | ((with_reducible show qLd); first | ((with_reducible apply wq_ld1 hm); exact rfl; infer_instance; exact rfl; (focus (repeat first | exact .hd | assumption | apply Has.tl); done); exact rfl)))
       go_ret
       exact ⟨by rw [eV]; rfl, hm.x⟩
     | true =>
       rw [Bool.true_and] at eV
       by_cases h6 : ls.length ≤ 6
       · have f1 : decide ((ls.length : Int) ≤ 6) = true := decide_eq_true (by omega)
         have f2 : (ls.length : Int) ≤ 6 := by omega
         rw [decide_eq_true h6, Bool.true_and] at eV
         by_cases h3 : m ≤ 300
         · have f3 : decide ((m : Int) ≤ 300) = true := decide_eq_true (by omega)
           have f4 : (m : Int) ≤ 300 := by omega
           rw [decide_eq_true h3] at eV
           go_wp2_with (first | (go_at_call 21; (with_reducible refine (CR.out _).mono ?_); rintro e_ w_ ⟨rfl, rfl⟩) | ((with_reducible show qLd); first | ((with_reducible apply wq_ld1 hm); exact rfl; infer_instance; exact rfl; (focus (repeat first | exact .hd | assumption | apply Has.tl); done); exact rfl)))
           go_ret
           exact ⟨by rw [eV]; first | rfl | simp [f1, f3], hm.x⟩
         · have f3 : decide ((m : Int) ≤ 300) = false := decide_eq_false (by omega)
           have f4 : ¬ (m : Int) ≤ 300 := by omega
           rw [decide_eq_false h3] at eV
           go_wp2_with (first | (go_at_call 21; (with_reducible refine (CR.out _).mono ?_); rintro e_ w_ ⟨rfl, rfl⟩) | ((with_reducible show qLd); first | ((with_reducible apply wq_ld1 hm); exact rfl; infer_instance; exact rfl; (focus (repeat first | exact .hd | assumption | apply Has.tl); done); exact rfl)))
           go_ret
           exact ⟨by rw [eV]; first | rfl | simp [f1, f3], hm.x⟩
       · have f1 : decide ((ls.length : Int) ≤ 6) = false := decide_eq_false (by omega)
         have f2 : ¬ (ls.length : Int) ≤ 6 := by omega
         rw [decide_eq_false h6, Bool.false_and] at eV
         go_wp2_with (first | (go_at_call 21; (with_reducible refine (CR.out _).mono ?_); rintro e_ w_ ⟨rfl, rfl⟩) | ((with_reducible show qLd); first | ((with_reducible apply wq_ld1 hm); exact rfl; infer_instance; exact rfl; (focus (repeat first | exact .hd | assumption | apply Has.tl); done); exact rfl)))
         go_ret
         exact ⟨by rw [eV]; first | rfl | simp [f1], hm.x⟩
set_option maxHeartbeats 2000000 in
theorem keys20_ok (key : List Byte) (p : Option Addr) (c : Nat) (w0 : World) (h : rightL key = true) (hkc : key.length ≤ c) (hk : RdB w0 p key) (hc : Coef w0) (hcb : CoefB w0) :
   Calls Tryz.prog 7 #[.slice p key.length c] w0 fun e w' => ∃ g gt gb, e = .returned (.tuple #[.pointer (some ⟨g, 0, none⟩), .bool true]) ∧ w0.heap.size ≤ g ∧ w0.heap.size ≤ gt ∧ gt ≠ g ∧ Row w' g 100 (kcells gt (keyOf key)) ∧ Row w' gt 105 (tcells gb mixT unmixT) ∧ Ext w0 w' := by
 have HC := Lib.hid hc
 have HB := Lib.hid hcb
 have HK := Lib.hid hk
 have h' : 0 < key.length ∧ key.length ≤ 128 := by simpa [rightL] using h
 have H := Lib.hid h'
 clear hc hcb hk h h'
 go_enter Tryz.func7, Tryz.ntmps7
 go_wp2_with fail
 refine (make_new _).mono ?_
 rintro e w1 ⟨gb, rfl, _, hb, hx0⟩
 go_wp2_with fail
 refine (tnew_new gb _ hb (HC.out.ext hx0)).mono ?_
 rintro e w2 ⟨gt, rfl, hgt, hr, hx1⟩
 have hx := hx0.trans hx1
 go_wp2_with fail
 refine (ext_ok gt gb key p c w2 H.out.1 H.out.2 hkc (HK.out.ext hx) (HB.out.ext hx) hr).mono ?_
 rintro e w3 ⟨g, rfl, hg, hkr, hx2⟩
 go_wp2
 go_ret2
 exact ⟨g, gt, gb, rfl, Nat.le_trans hx.size hg, Nat.le_trans hx0.size hgt, Nat.ne_of_lt (Nat.lt_of_lt_of_le (row_lt hr) hg), hkr, row_ext hr hx2, hx.trans hx2⟩
theorem cturn_nil (v m : Value) (back : Bool) (w0 : World) : Calls Tryz.prog 8 #[.pointer none, v, m, .bool back] w0 fun e w' => e = .returned (.tuple #[.slice none 0 0, .int .i64 2]) ∧ w' = w0 := by
 go_enter Tryz.func8, Tryz.ntmps8
 go_wp2
 go_ret2
 exact ⟨rfl, rfl⟩
theorem cturn_short (g : Nat) (v : Value) (p : Option Addr) (n c : Nat) (back : Bool) (w0 : World) (h : n < 32) : Calls Tryz.prog 8 #[.pointer (some ⟨g, 0, none⟩), v, .slice p n c, .bool back] w0 fun e w' => e = .returned (.tuple #[.slice none 0 0, .int .i64 7]) ∧ w' = w0 := by
 have n1 : decide ((n : Int) < 32) = true := decide_eq_true (by omega)
 have n2 : (n : Int) < 32 := by omega
 go_enter Tryz.func8, Tryz.ntmps8
 go_wp2
 go_ret2
 exact ⟨rfl, rfl⟩
set_option maxHeartbeats 4000000 in
theorem awake20 (w0 : World) (hc : Coef w0 ∧ CoefB w0) : Gives Tryz.prog 9 #[] w0 (.bool true) := by
 unfold Gives
 have hm := Own.start w0
 have HC := Lib.hid hc.1
 have HB := Lib.hid hc.2
 have KO := Lib.hid fun (w : World) (p : Option Addr) (c : Nat) (h1 : 1 ≤ c) (h2 : RdB w p [1#8]) (h3 : Coef w) (h4 : CoefB w) => keys20_ok [1#8] p c w rfl h1 h2 h3 h4
 have OKK := Lib.hid (keyOf_ok [1#8])
 generalize keyOf [1#8] = K at *
 have CO := Lib.hid fun (w : World) (g : Nat) (p : Option Addr) (h : KeyR w g K) (hr : RdB w p (zeros 32)) => show Calls Tryz.prog 8 #[.pointer (some ⟨g, 0, none⟩), .slice none 0 0, .slice p 32 32, .bool false] w fun e w' => ∃ px cx, e = .returned (.tuple #[.slice px 32 cx, .int .i64 0]) ∧ 32 ≤ cx ∧ RdB w' px (coreL (eZ K) (hashG (eZ K) []) 1 2 (zeros 32)) ∧ Ext w w' from
   cturn_ok g (eZ K) (eZ_length K) [] none 0 (zeros 32) p 32 false 1 2 (.inl ⟨rfl, rfl, rfl⟩) w ⟨by simp, by simp⟩ (Nat.le_refl _) (by simp) (by simp) hr (by simp) (by simp) (by simp) (fun wx hx j m x h1 h2 h3 => (h.ext hx).e j m x h1 h2 h3)
 have CS := Lib.hid fun (w : World) (g : Nat) (p : Option Addr) => cturn_short g (.slice none 0 0) p 31 31 false w (by omega)
 generalize coreL (eZ K) (hashG (eZ K) []) 1 2 (zeros 32) = D at *
 clear hc
 go_enter Tryz.func9, Tryz.ntmps9
 go_wp2_with (first | ((with_reducible apply wq_bs1c bs1_1 hm); exact rfl; exact rfl; clear hm; intro g9 w hm))
 refine (KO.out _ _ _ (by omega) (hm.rdB (g := g9) (l := [1#8]) (by repeat (first | exact Has.hd | assumption | apply Has.tl))) (HC.out.ext hm.x) (HB.out.ext hm.x)).mono ?_
 rintro e w ⟨g, gt, gb, rfl, hg_, hgt_, hne_, hrk_, hrt_, hx_⟩
 replace hm := hm.push2 hx_ hgt_ hrt_ hg_ hrk_ hne_
 clear hx_ hg_ hgt_ hne_ hrk_ hrt_
 go_wp2_with (first | ((with_reducible apply wq_mkR 32 32 hm); exact rfl; exact rfl; exact rfl; exact rfl; (focus omega); (focus omega); (focus omega); clear hm; intro g2 w hm))
 refine (CO.out _ g _ (KeyR.own (g := g) (gt := gt) (gb := gb) OKK.out hm (by repeat (first | exact Has.hd | assumption | apply Has.tl)) (by repeat (first | exact Has.hd | assumption | apply Has.tl))) (hm.rdB (g := g2) (l := zeros 32) (by repeat (first | exact Has.hd | assumption | apply Has.tl)))).mono ?_
 rintro e w ⟨px, cx, rfl, hcx, hrx, hx_⟩
 replace hm := hm.ext hx_
 clear hx_ hrx
 go_wp2_with (first | ((with_reducible apply wq_mkR 31 31 hm); exact rfl; exact rfl; exact rfl; exact rfl; (focus omega); (focus omega); (focus omega); clear hm; intro g3 w hm))
 refine (CS.out _ g _).mono ?_
 rintro e w_ ⟨rfl, rfl⟩
 go_wp2_with fail
 go_ret
 exact ⟨rfl, hm.x⟩
end Go.Proofs.YtaijfigohlkccaaGreatDoor
namespace Go.Proofs.YtaijfigohlkccaaGreatDoor
open Go Go.RowKit
set_option maxRecDepth 100000
def slP (p : Option Addr) (c l : Nat) : Option Addr := if c = l then p else p.map (·.add l)
section
variable {P : Program} {ops : Array Oper} {Q : Exit → Act → World → Prop} {rest : List Oper} {dst : Option Tmp} {ty : TypeId} {pos : String} {aft : Array Edge} {gd : Option (Nat × Bool)} {a : Act} {w : World} {T e : TypeId} {x y z : Operand}
theorem run_slL (hT : P.underlying T = some (.slice e)) [hE : One1 P e] (p : Option Addr) (n c l : Nat) (hl : l ≤ n) (w : World) : (Instr.sliceAt T (.slice p n c) (some (.int .i64 (l : Int))) none none).run P w = .ok (.slice (slP p c l) (n - l) (c - l)) w := by
 obtain ⟨i, hi1, hi2⟩ := Option.map_eq_some_iff.1 hE.size
 simp [Instr.sliceAt, Instr.slice, Instr.sliceBounds, Instr.sliceBound, asIntOf, Sem.run_bind, run_underlying hT, sizeOf, typeInfo, hi1, hi2, hl, slP]
theorem run_slLH (hT : P.underlying T = some (.slice e)) [hE : One1 P e] (p : Option Addr) (n c l h : Nat) (hl : l ≤ h) (hh : h ≤ c) (w : World) : (Instr.sliceAt T (.slice p n c) (some (.int .i64 (l : Int))) (some (.int .i64 (h : Int))) none).run P w = .ok (.slice (slP p c l) (h - l) (c - l)) w := by
 obtain ⟨i, hi1, hi2⟩ := Option.map_eq_some_iff.1 hE.size
 simp [Instr.sliceAt, Instr.slice, Instr.sliceBounds, Instr.sliceBound, asIntOf, Sem.run_bind, run_underlying hT, sizeOf, typeInfo, hi1, hi2, hl, hh, slP]
theorem gq_slL {p : Option Addr} {n c l r : Nat} (hT : P.underlying T = some (.slice e)) (hE : One1 P e) (hx : a.eval x = .slice p n c) (hy : a.eval y = .int .i64 (l : Int)) (hl : l ≤ n) (hr : n - l = r) : gives P w (Is (.slice (slP p c l) r (c - l))) ((execOp a.eval (Oper.mk dst (.slice T x (some y) none none) ty pos aft gd)).run P w) := by
 subst hr
 unfold execOp
 simp only [hx, hy, Sem.run_bind, run_slL hT p n c l hl w, Result.andThen_ok, Sem.run_pure, Option.map_some, Option.map_none]
 exact gives_same
theorem gq_slLH {p : Option Addr} {n c l h r : Nat} (hT : P.underlying T = some (.slice e)) (hE : One1 P e) (hx : a.eval x = .slice p n c) (hy : a.eval y = .int .i64 (l : Int)) (hz : a.eval z = .int .i64 (h : Int)) (hl : l ≤ h) (hh : h ≤ c) (hr : h - l = r) : gives P w (Is (.slice (slP p c l) r (c - l))) ((execOp a.eval (Oper.mk dst (.slice T x (some y) (some z) none) ty pos aft gd)).run P w) := by
 subst hr
 unfold execOp
 simp only [hx, hy, hz, Sem.run_bind, run_slLH hT p n c l h hl hh w, Result.andThen_ok, Sem.run_pure, Option.map_some, Option.map_none]
 exact gives_same
theorem wq_slLH {p : Option Addr} {n c l h r : Nat} (hT : P.underlying T = some (.slice e)) (hE : One1 P e) (hgd : Region.wanted (Oper.mk dst (.slice T x (some y) (some z) none) ty pos aft gd) (yielded ops a.tmps) = true) (hx : a.eval x = .slice p n c) (hy : a.eval y = .int .i64 (l : Int)) (hz : a.eval z = .int .i64 (h : Int)) (hl : l ≤ h) (hh : h ≤ c) (hr : h - l = r) (hk : wpList P ops Q rest (a.put dst (.slice (slP p c l) r (c - l))) w) : wpList P ops Q ((Oper.mk dst (.slice T x (some y) (some z) none) ty pos aft gd) :: rest) a w :=
 wpList_want hgd fun K hK => by
   subst hr
   unfold Oper.wp execOp
   simp only [hx, hy, hz, Sem.run_bind, run_slLH hT p n c l h hl hh w, Result.andThen_ok, Sem.run_pure, Option.map_some, Option.map_none]
   exact hK _ _ hk
end
theorem RdB.slL {w : World} {p : Option Addr} {L : List Byte} (h : RdB w p L) (c l : Nat) (hc : L.length ≤ c) : RdB w (slP p c l) (L.drop l) := by
 unfold slP
 by_cases e : c = l
 · have : L.drop l = [] := List.drop_eq_nil_of_le (by omega)
   rw [this]; exact RdB.nil _ _
 · rw [if_neg e]
   cases p with
   | none =>
     have : L = [] := RdB.none h
     subst this
     rw [List.drop_nil]; exact RdB.nil _ _
   | some a =>
     refine ⟨fun _ => rfl, fun i hi => ?_⟩
     rw [List.length_drop] at hi
     have e : (a.add l).add i = a.add (l + i) := by unfold Addr.add; split <;> split <;> simp_all <;> omega
     simp only [Option.map, Option.getD_some, e]
     have := h.2 (l + i) (by omega)
     simp only [Option.getD_some] at this
     rw [this]; simp [List.getElem?_drop]
theorem RdB.slLH {w : World} {p : Option Addr} {L : List Byte} (h : RdB w p L) (c l k : Nat) (hc : L.length ≤ c) : RdB w (slP p c l) ((L.drop l).take k) := (h.slL c l hc).take k
end Go.Proofs.YtaijfigohlkccaaGreatDoor
namespace Go.Proofs.YtaijfigohlkccaaGreatDoor
open Go Go.RowKit
set_option maxRecDepth 100000
theorem slc_put {M : List Blk} {e : TypeId} {p : Option Addr} {n c : Nat} {l : List Byte} (h : SlO M e 1 (.slice p n c) n (l.map v8)) (i : Nat) (hi : i < n) : ∃ (g o : Nat) (cur : List Value), p = some ⟨g, o, none⟩ ∧ M = [⟨g, e, cur⟩] ∧ cur[o + i]? = some (v8 (nth l i)) ∧ o + i < cur.length ∧ n ≤ c ∧ ∀ x : Byte, SlO [⟨g, e, cur.set (o + i) (v8 x)⟩] e 1 (.slice p n c) n ((setN l i x).map v8) := by
 obtain ⟨hl, h⟩ := h
 have hl2 : l.length = n := by simpa using hl
 rcases h with ⟨_, h1, _⟩ | ⟨g, o, cap, cur, he, rfl, h1, h2, h3, h4⟩
 · omega
 · cases he
   have ho : o + i < cur.length := by omega
   rw [Nat.mul_one] at h4
   refine ⟨g, o, cur, rfl, rfl, ?_, ho, h1, fun x => ⟨by simp [setN_length, hl2], .inr ⟨g, o, c, _, rfl, rfl, h1, h2, by rw [List.length_set]; exact h3, ?_⟩⟩⟩
   · have h5 : ((cur.drop o).take n)[i]? = (l.map v8)[i]? := by rw [h4]
     rw [List.getElem?_take, if_pos hi, List.getElem?_drop] at h5
     rw [h5]; exact mapv_at v8 l (by omega)
   · rw [Nat.mul_one, List.drop_set, if_neg (by omega), show o + i - o = i by omega, List.take_set, h4, mapv_set]
theorem over_zero (m : List Byte) (at_ : Nat) (h : at_ ≤ m.length) : over m at_ [] = m := by simp [over]
theorem over_step (m b : List Byte) (at_ k : Nat) (hk : k < b.length) (h : at_ + b.length ≤ m.length) : setN (over m at_ (b.take k)) (at_ + k) (nth b k) = over m at_ (b.take (k + 1)) := by
 have l1 : (b.take k).length = k := by rw [List.length_take]; omega
 have l2 : (b.take (k + 1)).length = k + 1 := by rw [List.length_take]; omega
 have e0 : over m at_ (b.take k) = (m.take at_ ++ b.take k) ++ (nth m (at_ + k) :: m.drop (at_ + (k + 1))) := by
   rw [over, l1, show m.drop (at_ + k) = nth m (at_ + k) :: m.drop (at_ + (k + 1)) from by rw [List.drop_eq_getElem_cons (by omega), nth_get (by omega)]; rfl]
 rw [e0, setN, List.set_append_right _ _ (by simp; omega)]
 have e1 : at_ + k - (m.take at_ ++ b.take k).length = 0 := by simp; omega
 rw [e1, sCZ, over, l2, nth_get hk, List.take_succ_eq_append_getElem hk, List.append_assoc, List.append_assoc, List.append_assoc]
 rfl
set_option maxHeartbeats 4000000 in
theorem rput_any (m b : List Byte) (at_ n : Nat) (pm pb : Option Addr) (cm cb : Nat) (hm0 : m.length = n) (hn : n ≤ 1000) (hb : at_ + b.length ≤ n) (w0 w : World) (M R : List Blk) (hs : SlO M 5 1 (.slice pm n cm) n (m.map v8)) (hm : Own w0 w (M ++ R)) (hr : ∀ w' M', Own w0 w' (M' ++ R) → RdB w' pb b) :
   Calls Tryz.prog 46 #[.slice pm n cm, .int .i64 (at_ : Int), .slice pb b.length cb] w fun e w' => e = .returned (.tuple #[]) ∧ ∃ M', Own w0 w' (M' ++ R) ∧ SlO M' 5 1 (.slice pm n cm) n ((over m at_ b).map v8) := by
 have HR := Lib.hid hr
 have HS := Lib.hid hs
 have OS := Lib.hid fun k (h : k < b.length) => over_step m b at_ k h (by omega)
 have O0 := Lib.hid (over_zero m at_ (by omega))
 have OB := Lib.hid (show over m at_ (b.take b.length) = over m at_ b by rw [List.take_length])
 clear hr hs
 go_enter Tryz.func46, Tryz.ntmps46
 go_wp2_with fail
 go_loopw [6] (fun i wr => ∃ (k : Nat) (M' : List Blk), k ≤ b.length ∧ i = .int .i64 k ∧ Own w0 wr (M' ++ R) ∧ SlO M' 5 1 (.slice pm n cm) n ((over m at_ (b.take k)).map v8)) (fun i _ => b.length - (intOf i).toNat)
 case atStart => exact ⟨0, M, by omega, rfl, hm, by rw [List.take_zero, O0.out]; exact HS.out⟩
 case round =>
   obtain ⟨k, M', hk, rfl, hm, hs⟩ := hrel
   by_cases hlt : k < b.length
   · have h1 : decide ((k : Int) < (b.length : Int)) = true := decide_eq_true (by omega)
     have h2 : (k : Int) < (b.length : Int) := by omega
     obtain ⟨i, hi⟩ : ∃ i, i = at_ + k := ⟨_, rfl⟩
     have h3 : (at_ : Int) + (k : Int) = (i : Int) := by omega
     have es := OS.out k hlt
     have hrb := HR.out _ _ hm
     obtain ⟨g, o, cur, rfl, rfl, hcur, ho, hnc, hset⟩ := slc_put hs i (by omega)
     have hset2 := hset (nth b k)
     rw [hi, es] at hset2
     rw [← hi] at hset2
     have h4 : (i : Int) < (n : Int) := by omega
     have h5 : i < n := by omega
     obtain ⟨ab, rfl⟩ := Option.isSome_iff_exists.1 (hrb.1 (by omega))
     have hc := hrb.at k hlt
     simp only [Option.getD_some] at hc
     rw [show b.getD k 0 = nth b k from rfl] at hc
     have HSET := Lib.hid hset2
     clear hs hset hset2 es hcur hrb HS HR OB O0 OS hi
     go_wp2_with (first | ((((with_reducible show qSt); first | ((with_reducible apply wq_s1v (f := v8) hm); exact rfl; infer_instance; exact rfl; exact rfl; infer_instance; (focus ((repeat (first | exact .hd | assumption | apply Swap.tl | apply Swap.app)); done)); (focus (first | omega | (simp; omega) | (refine ltB ?_; first | omega | (simp; done) | (simp; omega))))))); clear hm; intro w hm))
     go_roundw
     case rel => exact ⟨k + 1, _, by omega, by go_num, hm, HSET.out⟩
     case measure => simp [intOf] <;> omega
   · obtain rfl : k = b.length := by omega
     have h1 : decide ((b.length : Int) < (b.length : Int)) = false := decide_eq_false (by omega)
     rw [OB.out] at hs
     have HS2 := Lib.hid hs
     clear hs HS
     go_wp2_with fail
     go_end0
     exact ⟨rfl, M', hm, HS2.out⟩
set_option maxHeartbeats 1000000 in
theorem rxor_ob (a b : List Byte) (p q : Option Addr) (c d : Nat) (w0 : World) (ha : RdB w0 p a) (hb : RdB w0 q b) (hla : a.length ≤ 70368744177664) (hlb : b.length ≤ 70368744177664) :
   Calls Tryz.prog 47 #[.slice p a.length c, .slice q b.length d] w0 fun e w' => ∃ v, e = .returned v ∧ OwnB w' w0.heap.size v (xorL a b) ∧ Ext w0 w' := by
 have hstep : ∀ k, k < a.length → k < b.length → (xorL a b).take k ++ [nth a k ^^^ nth b k] = (xorL a b).take (k + 1) := by
   intro k h1 h2
   have h3 : k < (xorL a b).length := by rw [xorL_length]; omega
   rw [List.take_succ_eq_append_getElem h3]
   simp [xorL, nth, h1, h2]
 have hlx := xorL_length a b
 have hend : ∀ k, (xorL a b).length ≤ k → (xorL a b).take k = xorL a b := fun k hk => List.take_of_length_le hk
 generalize xorL a b = X at *
 have Hlx := Lib.hid hlx
 have Hend := Lib.hid hend
 have Hstep := Lib.hid hstep
 clear hlx hend hstep
 go_enter Tryz.func47, Tryz.ntmps47
 go_wp2
 go_loopw [5, 6] (fun v i wr => ∃ k : Nat, k ≤ a.length ∧ k ≤ b.length ∧ i = .int .i64 k ∧ OwnB wr w0.heap.size v (X.take k) ∧ Ext w0 wr) (fun _ i _ => a.length - (intOf i).toNat)
 case atStart => exact ⟨0, by omega, by omega, rfl, OwnB.nil _ _, Ext.refl _⟩
 case round =>
   obtain ⟨k, hk1, hk2, rfl, hown, hx⟩ := hrel
   obtain ⟨qv, dv, nv, rfl, hnv1, hnv2⟩ := hown.slice'
   have hlt' : (X.take k).length ≤ k := by simp; omega
   by_cases h1 : k < a.length
   · by_cases h2 : k < b.length
     · have ra := fun wx (hwx : Ext wr wx) => (ha.ext hx).ext hwx
       have rb := fun wx (hwx : Ext wr wx) => (hb.ext hx).ext hwx
       have hpa := (ha.ext hx).isSome k (by omega)
       have hpb := (hb.ext hx).isSome k (by omega)
       have hsz := hx.size
       go_wp2
       refine region_new 11 (fun w' => Ext wr w') 32 (by kernel_rfl) (by kernel_rfl) rfl (fun _ _ h k => h.trans k) (drew_ext _) ?_
       simp only [tSC, List.take_zero, dSC, List.drop_zero, List.map_cons, List.map_nil]
       repeat (first
           | (apply walk_is rfl rfl rfl
              · (intro wx hwx; (with_reducible apply gq_rdb ((ra) wx hwx)); infer_instance; exact rfl; (focus (first | omega | (simp; omega) | (refine ltB ?_; first | omega | (simp; done) | (simp; omega)))))
              · (simp only [Act.put, sIB, sCS, sCZ]; rfl))
           | (apply walk_is rfl rfl rfl
              · (intro wx hwx; (with_reducible apply gq_rdb ((rb) wx hwx)); infer_instance; exact rfl; (focus (first | omega | (simp; omega) | (refine ltB ?_; first | omega | (simp; done) | (simp; omega)))))
              · (simp only [Act.put, sIB, sCS, sCZ]; rfl))
           | (apply walk_some (BytesS [nth a k ^^^ nth b k]) 29 (BytesS.stable _) rfl rfl rfl rfl
              · (intro wx hwx; go_simp; exact gives_val (Ext.alloc (Ext.refl _) _) (bytes_new _ [nth a k ^^^ nth b k] _)))
           | (apply walk_is rfl rfl rfl
              · (intro wx hwx; first | ((with_reducible show gives _ _ _ (Sem.run _ (execOp _ (Oper.mk _ (Op.load _ _) _ _ _ _)) _)); first | ((with_reducible apply gq_ldv (hm.ext hwx)); infer_instance; exact rfl; (focus ((repeat (first | exact .hd | assumption | apply Has.tl | apply Has.app)); done)); (focus (first | omega | (simp; omega) | (refine ltB ?_; first | omega | (simp; done) | (simp; omega))))) | ((with_reducible apply gq_ldW (hm.ext hwx)); infer_instance; exact rfl; (focus ((repeat (first | exact .hd | assumption | apply Has.tl | apply Has.app)); done)); (focus (first | rfl | omega | (simp; done) | (simp; omega)))) | ((with_reducible apply gq_ld1 (hm.ext hwx)); infer_instance; exact rfl; (focus ((repeat (first | exact .hd | assumption | apply Has.tl | apply Has.app)); done)); exact rfl)) | (go_simp; (try go_bits); first | exact gives_same | exact gives_skip))
              · (simp only [Act.put, sIB, sCS, sCZ]; rfl))
           | (apply walk_not rfl rfl rfl
              · (simp only [Act.put, sIB, sCS, sCZ]; rfl)))
       intro wz hwz
       simp only [zCC, zNR]
       repeat rw [fin_is]
       rw [fin_cons]; intro x29 hx29
       repeat rw [fin_is]
       rw [fin_nil]; intro hap
       simp only [Act.put, sIB, sCS, sCZ] at hap ⊢
       obtain ⟨p9, c9, rfl, hc9, hr9⟩ := hx29
       have hsz2 := hwz.size
       go_wp2_with (with_reducible show wpList _ _ _ _ _ _; refine wpl_app (m := [nth a k ^^^ nth b k]) rfl rfl rfl rfl rfl (hown.ext hwz) hr9 hc9 (by simp; omega) (by omega) ?_)
       intro v' w' ho' hb' _
       rw [Hstep.out k h1 h2] at ho'
       have hx' : Ext w0 w' := (hx.trans hwz).trans' hb'
       go_wp2
       go_roundw
       case rel => exact ⟨k + 1, by omega, by omega, by go_num, ho', hx'⟩
       case measure => simp [intOf] <;> omega
     · obtain rfl : k = b.length := by omega
       rw [Hend.out _ (by have := Hlx.out; omega)] at hown
       go_wp2
       go_ret
       exact ⟨_, rfl, hown, hx⟩
   · obtain rfl : k = a.length := by omega
     rw [Hend.out _ (by have := Hlx.out; omega)] at hown
     go_wp2
     go_ret
     exact ⟨_, rfl, hown, hx⟩
end Go.Proofs.YtaijfigohlkccaaGreatDoor
namespace Go.Proofs.YtaijfigohlkccaaGreatDoor
open Go Go.RowKit
set_option maxRecDepth 100000
def makeT : Nat → List Byte
 | 0 => boxTab ++ zer 256
 | k + 1 => setN (makeT k) (256 + (nth (makeT k) k).toNat) (BitVec.ofNat 8 k)
theorem boxTab_length : boxTab.length = 256 := tab_length
theorem makeT_length (k : Nat) : (makeT k).length = 512 := by
 induction k with
 | zero => rw [makeT, List.length_append, boxTab_length, zer_length]
 | succ k ih => rw [makeT, setN_length, ih]
theorem makeT_all : makeT 256 = tabs := by rw [tabs_lit]; decide +kernel
theorem build_box (w : World) : (Instr.build 35 #[(0, A8 boxTab)]).run Tryz.prog w = .ok (A8 (makeT 0)) w := by kernel_rfl
attribute [local simp] makeT_length
set_option maxHeartbeats 2000000 in
theorem rmake_any (w0 : World) : Gives Tryz.prog 11 #[] w0 (A8 tabs) := by
 unfold Gives
 have hm := Own.start w0
 go_enter Tryz.func11, Tryz.ntmps11
 go_wp2_with (first | (go_at_call 40; (with_reducible refine (rtable_any _).mono ?_); rintro e_ w ⟨rfl, hx_⟩; replace hm := hm.ext hx_; clear hx_) | ((with_reducible apply wq_build1 build_box); exact rfl; exact rfl) | ((((with_reducible show qSt); first | ((with_reducible apply wq_stW hm); exact rfl; infer_instance; exact rfl; exact rfl; (focus (repeat first | exact .hd | assumption | apply Swap.tl); done); (focus (first | rfl | omega | (simp; done) | (simp; omega))); (focus (first | rfl | omega | (simp; done) | (simp; omega))); (focus (first | exact one_map _ | (simp [one8, one32, one64]; done)))))); clear hm; intro w hm) | ((first | ((with_reducible show qAl); first | ((with_reducible apply wq_new hm); exact rfl; infer_instance))); clear hm; (first | (have hx_ := g1; clear hx_; (first | (have hx_ := g2; clear hx_; intro gx_) | intro g2)) | intro g1); intro w hm))
 go_loopw [2] (fun i wr => ∃ k : Nat, k ≤ 256 ∧ i = .int .i64 k ∧ Own w0 wr [⟨g2, 35, (makeT k).map v8⟩, ⟨g1, 35, (zer 512).map v8⟩]) (fun i _ => 256 - (intOf i).toNat)
 case atStart => exact ⟨0, by omega, rfl, hm⟩
 case round =>
   obtain ⟨k, hk, rfl, hm⟩ := hrel
   by_cases hlt : k < 256
   · have hx := (nth (makeT k) k).isLt
     have hx9 : ((nth (makeT k) k).toNat : Int) < 256 := by omega
     clear hx
     go_wp2_with (first | ((with_reducible show qLd); first | ((with_reducible apply wq_ldv hm); exact rfl; infer_instance; exact rfl; (focus (repeat first | exact .hd | assumption | apply Has.tl); done); (focus (first | omega | (simp; omega) | (refine ltB ?_; first | omega | (simp; done) | (simp; omega)))))) | ((((with_reducible show qSt); first | ((with_reducible apply wq_st8i hm); exact rfl; infer_instance; exact rfl; exact rfl; (focus (repeat first | exact .hd | assumption | apply Swap.tl); done); (focus omega); (focus (first | omega | (simp; omega) | (refine ltB ?_; first | omega | (simp; done) | (simp; omega))))))); clear hm; intro w hm))
     go_roundw
     case rel => exact ⟨k + 1, by omega, by go_num, by rw [makeT]; exact hm⟩
     case measure => simp [intOf] <;> omega
   · obtain rfl : k = 256 := by omega
     rw [makeT_all] at hm
     have tl := tabs_length
     go_wp2_with (first | ((with_reducible show qLd); first | ((with_reducible apply wq_ldW hm); exact rfl; infer_instance; exact rfl; (focus (repeat first | exact .hd | assumption | apply Has.tl); done); (focus (first | rfl | omega | (simp; done) | (simp; omega))))) | ((((with_reducible show qSt); first | ((with_reducible apply wq_stW hm); exact rfl; infer_instance; exact rfl; exact rfl; (focus (repeat first | exact .hd | assumption | apply Swap.tl); done); (focus (first | rfl | omega | (simp; done) | (simp; omega))); (focus (first | rfl | omega | (simp; done) | (simp; omega))); (focus (first | exact one_map _ | (simp [one8, one32, one64]; done)))))); clear hm; intro w hm))
     refine ret_own hm rfl rfl (by infer_instance) (by repeat (first | exact Has.hd | assumption | apply Has.tl)) (by first | rfl | omega | (simp only [zeros_length, zer_length, tab_length, part_length, setN_length, List.length_map, List.length_cons, List.length_nil, List.length_append, List.length_take, List.length_drop, List.length_replicate, blk_length, putL_length] <;> omega)) rfl ⟨rfl, hm.x⟩
end Go.Proofs.YtaijfigohlkccaaGreatDoor
namespace Go.Proofs.YtaijfigohlkccaaGreatDoor
open Go Go.RowKit
set_option maxRecDepth 100000
theorem build_rk (w : World) : (Instr.build 39 #[(0, A8 tabs)]).run Tryz.prog w = .ok (A8 (tabs ++ zer 48)) w := by
 rw [tabs_lit]
 kernel_rfl
end Go.Proofs.YtaijfigohlkccaaGreatDoor
