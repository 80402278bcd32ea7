/-
  Layers 17 to 25 and the top, walked. Conditions: those written in each theorem.
-/
import Derived.Test.YtdmgchdhilcncaaGreatDoorZTopStore0
import Derived.Test.YtdmgchdhilcncaaGreatDoorZTopStore28
import Derived.Test.YtdmgchdhilcncaaGreatDoorZTopStore24
import Derived.Test.YtdmgchdhilcncaaGreatDoorZTopStore26
import Derived.Test.YtdmgchdhilcncaaGreatDoorZTopStore12
set_option linter.unusedSimpArgs false
set_option linter.unusedVariables false
namespace Go.Proofs.YtdmgchdhilcncaaGreatDoor
open Go Go.RowKit
set_option maxRecDepth 100000
def XorT (B n : Nat) (l : List Byte) : Slot := fun v w => ∃ g, v = .slice (some ⟨g, 0, none⟩) n n ∧ B ≤ g ∧ Row w g 5 (l.map v8)
theorem XorT.stable (B n : Nat) (l : List Byte) : Stable (XorT B n l) := fun _ _ _ ⟨g, h1, h2, h3⟩ hx => ⟨g, h1, h2, row_ext h3 hx⟩
set_option maxHeartbeats 1000000 in
theorem xor_newT (B : Nat) (a b : List Byte) (p q : Option Addr) (c d : Nat) (w : World) (ha : RdB w p a) (hb : RdB w q b) (hla : a.length ≤ 140737488355328) (hlb : b.length ≤ 140737488355328) (hB : B ≤ w.heap.size) :
   GivesR Tryz.prog 51 #[.slice p a.length c, .slice q b.length d] w (XorT B (xorL a b).length (xorL a b)) := by
 unfold GivesR
 have hn := xorL_length a b
 generalize hN : (xorL a b).length = n at *
 have hx : Ext w (w.alloc (.cells ((zeros n).map v8).toArray 5)) := (Ext.refl w).alloc _
 have hrow := row_new w 5 ((zeros n).map v8)
 have HN := Lib.hid hN
 have Hn := Lib.hid hn
 have hn1 : n ≤ a.length := by omega
 have hn2 : n ≤ b.length := by omega
 clear hN hn
 rcases Nat.lt_or_ge b.length a.length with hab | hab
 all_goals
   go_enter Tryz.func51, Tryz.ntmps51
   go_wp2_with (with_reducible show wpList _ _ _ _ _ _; refine make_b n rfl rfl rfl rfl (by have := Hn.out; omega) (by have := Hn.out; omega) (by omega) ?_)
   go_loopw [6, 15] (fun _ i wr => ∃ k : Nat, k ≤ n ∧ i = .int .i64 k ∧ Row wr w.heap.size 5 ((fillTo (xorL a b) k).map v8) ∧ Ext w wr) (fun _ i _ => n - (intOf i).toNat)
   case atStart => exact ⟨0, Nat.zero_le _, rfl, by rw [fillTo_zero, HN.out]; exact hrow, hx⟩
   case round =>
     obtain ⟨k, hk, rfl, hr, hxr⟩ := hrel
     by_cases hlt : k < n
     · have hka : k < a.length := by omega
       have hkb : k < b.length := by omega
       have hpa := (ha.ext hxr).isSome k (by omega)
       have hpb := (hb.ext hxr).isSome k (by omega)
       have hca := fun wx (hwx : Ext wr wx) => ((ha.ext hxr).ext hwx).at k (by omega)
       have hcb := fun wx (hwx : Ext wr wx) => ((hb.ext hxr).ext hwx).at k (by omega)
       have hset := fillTo_set (xorL a b) k (by rw [HN.out]; exact hlt)
       have e : a.getD k 0 ^^^ b.getD k 0 = a[k] ^^^ b[k] := by simp [hka, hkb]
       rw [xorL_getD a b k (by rw [HN.out]; exact hlt), e] at hset
       have Hset := Lib.hid hset
       clear hset e
       go_wp2
       refine region_at 12 (fun w' => Ext wr w') 32 (by kernel_rfl) (by kernel_rfl) rfl (fun _ _ h k => h.trans k) (drew_ext _) ?_
       simp only [tSC, List.take_zero, dSC, List.drop_zero, List.map_cons, List.map_nil]
       repeat (first
           | (apply walk_is rfl rfl rfl
              · (intro wx hwx; go_simp; (try go_bits); first | exact gives_same | exact gives_skip)
              · (simp only [Act.put, sIB, sCS, sCZ]; rfl))
           | (apply walk_not rfl rfl rfl
              · (simp only [Act.put, sIB, sCS, sCZ]; rfl)))
       intro wz hwz
       simp only [zCC, zNR]
       repeat (first | rw [fin_is] | (rw [fin_cons]; intro _ _))
       rw [fin_nil]
       try (replace hm := hm.ext hwz)
       simp only [Act.put, sIB, sCS, sCZ]
       have hr' := row_ext hr hwz
       have hc := row_v8 hr' k (by rw [fillTo_length _ _ (by rw [HN.out]; omega), HN.out]; exact hlt)
       have hf := row_free hr' k
       have hrs := row_set hr' k (v8 (a[k] ^^^ b[k]))
       rw [← List.map_set, Hset.out] at hrs
       have hxz := ext_setCell (hxr.trans hwz) ⟨w.heap.size, k, none⟩ (v8 (a[k] ^^^ b[k])) (Nat.le_refl _)
       go_wp2
       go_roundw
       case rel => exact ⟨k + 1, by omega, by go_num, hrs, hxz⟩
       case measure => simp [intOf] <;> omega
     · obtain rfl : k = n := by omega
       go_wp2
       go_ret
       have hr' : Row wr w.heap.size 5 ((xorL a b).map v8) := by rw [← HN.out, fillTo_all] at hr; exact hr
       exact ⟨_, rfl, ⟨w.heap.size, rfl, hB, hr'⟩, hxr⟩
theorem rounds_le (n : Nat) (h1 : 1 ≤ n) (h2 : n ≤ 31) : 8 ≤ roundsN n ∧ roundsN n ≤ 24 := by
 unfold roundsN
 rw [if_neg (by omega)]
 split
 · omega
 · split
   · omega
   · split <;> omega
theorem roundsI_nat (n : Nat) : roundsI (n : Int) = (roundsN n : Int) := by
 unfold roundsI roundsN
 by_cases h : n < 1 ∨ 31 < n
 · rw [if_pos (by omega), if_pos h]; rfl
 · rw [if_neg (by omega), if_neg h]
   by_cases h1 : n = 1
   · rw [if_pos (by omega), if_pos h1]; rfl
   · rw [if_neg (by omega), if_neg h1]
     by_cases h2 : n = 2
     · rw [if_pos (by omega), if_pos h2]; rfl
     · rw [if_neg (by omega), if_neg h2]
       by_cases h3 : n < 16
       · rw [if_pos (by omega), if_pos h3]; rfl
       · rw [if_neg (by omega), if_neg h3]; rfl
set_option maxHeartbeats 16000000 in
theorem tturn_fwd (g : Nat) (F : Int → Int → List Byte → List Byte) (hF : ∀ j m x, (F j m x).length = 16) (ls : List (List Byte)) (q : Option Addr) (d : Nat) (l : List Byte) (p : Option Addr) (c : Nat) (w0 : World) (hr : RdR w0 q ls) (hrd : ls.length ≤ d) (hrm : ls.length ≤ 70368744177000) (hrs : ∀ i, (ls.getD i []).length ≤ 70368744177000) (hl : RdB w0 p l) (hlc : l.length ≤ c) (h1 : 1 ≤ l.length) (h31 : l.length ≤ 31)
   (CE : ∀ wx, Ext w0 wx → ∀ (j m : Int) (x : List Byte), x.length = 16 → j ≤ 9223372036854775807 → m ≤ 9223372036854775807 → Gives Tryz.prog 190 #[.pointer (some ⟨g, 0, none⟩), .int .i64 j, .int .i64 m, A8 x] wx (A8 (F j m x))) :
   Calls Tryz.prog 178 #[.pointer (some ⟨g, 0, none⟩), .slice q ls.length d, .slice p l.length c, .bool false] w0 fun e w' => ∃ px cx, e = .returned (.tuple #[.slice px l.length cx, .int .i64 0]) ∧ l.length ≤ cx ∧ RdB w' px (tinyL F (hashG F ls) false l) ∧ Ext w0 w' := by
 have hm := Own.start w0
 have H1 := Lib.hid fun (wx : World) (hx : Ext w0 wx) => hhash_any (.pointer (some ⟨g, 0, none⟩)) rfl rfl F hF ls q d wx (hr.ext hx) hrd hrm hrs (fun wy hy j m x e1 e2 e3 => CE wy (hx.trans hy) j m x e1 e2 e3)
 obtain ⟨H, hH⟩ : ∃ H, H = hashG F ls := ⟨_, rfl⟩
 have lH : H.length = 16 := by rw [hH]; exact hashG_length F ls
 rw [← hH] at H1
 obtain ⟨m, hm0⟩ : ∃ m, m = l := ⟨_, rfl⟩
 have lm : m.length = l.length := by rw [hm0]
 obtain ⟨n, hn⟩ : ∃ n, n = l.length := ⟨_, rfl⟩
 rw [← hn] at lm
 obtain ⟨N, hN⟩ : ∃ N, N = numN n := ⟨_, rfl⟩
 obtain ⟨R, hR⟩ : ∃ R, R = roundsN n := ⟨_, rfl⟩
 have R8 : 8 ≤ R ∧ R ≤ 24 := by rw [hR]; exact rounds_le n (by omega) (by omega)
 obtain ⟨RT, hRT⟩ : ∃ RT, RT = rndsT (stepL F H N) (ordN false R) (pairT m) := ⟨_, rfl⟩
 have HTW := Lib.hid fun k => show TwoN n (RT k) from by rw [hRT, ← lm]; exact rndsT_two _ (stepL_length F H N) (stepL_ok F H N) _ _ _ (pairT_two m) k
 have HST := Lib.hid fun k => show RT (k + 1) = ((RT k).2, xorL (RT k).1 (stepL F H N (ordN false R k) (RT k).2)) from by rw [hRT]; rfl
 have H00 := Lib.hid (show RT 0 = (halvesL m 0 n, halvesL m n n) from by rw [hRT, ← lm]; rfl)
 obtain ⟨J, hJ⟩ : ∃ J, J = joinN ((RT R).2 ++ (RT R).1) := ⟨_, rfl⟩
 have lJ : J.length = n := by rw [hJ, joinN_length, List.length_append, (HTW.out R).l, (HTW.out R).r]; omega
 have eT : tinyL F (hashG F ls) false l = flipL F H J := by
   rw [hJ, hRT, hN, hR, ← lm, hm0, ← hH]; rfl
 rw [eT]
 have RC := Lib.hid fun w => show Calls Tryz.prog 181 #[.int .i64 (n : Int)] w fun e w' => e = .returned (.int .i64 (R : Int)) ∧ w' = w from by rw [hR, ← roundsI_nat]; exact rounds_any (n : Int) w
 have SC := Lib.hid fun (B : Nat) (w : World) (r : List Byte) (gr : Nat) (j : Nat) (hx : Ext w0 w) (lr : r.length = n) (hj : j ≤ 9223372036854775807) (hB : B ≤ w.heap.size) (hr : RdB w (some ⟨gr, 0, none⟩) r) => show GivesR Tryz.prog 184 #[.pointer (some ⟨g, 0, none⟩), A8 H, .int .i64 N, .int .i64 (j : Int), .slice (some ⟨gr, 0, none⟩) n n] w (XorT B n (stepL F H N j r)) from by
   have N0 : 0 ≤ N ∧ N ≤ 9 := by rw [hN]; unfold numN; split <;> omega
   have := step_new g F hF H lH N N0.1 (by omega) j hj r (some ⟨gr, 0, none⟩) n (by omega) w hr (fun wx h => CE wx (hx.trans h))
   rw [lr] at this
   exact this.mono fun e w' ⟨k, e1, e2⟩ => ⟨_, e1, ⟨k, rfl, Nat.le_trans hB (e2.base .hd), e2.row .hd⟩, e2.x⟩
 have XC := Lib.hid fun (B : Nat) (w : World) (a b : List Byte) (ga gb : Nat) (la : a.length = n) (lb : b.length = n) (hB : B ≤ w.heap.size) (ha : RdB w (some ⟨ga, 0, none⟩) a) (hb : RdB w (some ⟨gb, 0, none⟩) b) => show GivesR Tryz.prog 51 #[.slice (some ⟨ga, 0, none⟩) n n, .slice (some ⟨gb, 0, none⟩) n n] w (XorT B n (xorL a b)) from by
   have := xor_newT B a b (some ⟨ga, 0, none⟩) (some ⟨gb, 0, none⟩) n n w ha hb (by omega) (by omega) hB
   rw [la, lb, show (xorL a b).length = n by rw [xorL_length, la, lb, Nat.min_self]] at this
   exact this
 have FC := Lib.hid fun (w : World) (a : List Byte) (p : Option Addr) (c : Nat) (hx : Ext w0 w) (la : a.length = n) (ha : RdB w p a) => show Calls Tryz.prog 182 #[.pointer (some ⟨g, 0, none⟩), A8 H, .slice p n c] w fun e w' => ∃ v M, e = .returned v ∧ SlO M 5 1 v n ((flipL F H a).map v8) ∧ Own w w' M from by
   have := flip_sl g F hF H lH a p c (by omega) w ha (fun wx h => CE wx (hx.trans h))
   rwa [la] at this
 have HC := Lib.hid fun (w : World) (p : Option Addr) (c : Nat) (ha : RdB w p m) => show Calls Tryz.prog 183 #[.slice p n c] w fun e w' => ∃ g k, e = .returned (.agg ([.slice (some ⟨g, 0, none⟩) n n, .slice (some ⟨k, 0, none⟩) n n] : List Value).toArray) ∧ Own w w' [⟨k, 5, (halvesL m n n).map v8⟩, ⟨g, 5, (halvesL m 0 n).map v8⟩] from by
   have := halves_pair m p c (by omega) w ha
   rwa [lm] at this
 have JC := Lib.hid fun (w : World) p2 n2 c2 (h : RdB w p2 ((RT R).2 ++ (RT R).1) ∧ n2 = ((RT R).2 ++ (RT R).1).length ∧ n2 ≤ c2) => show Calls Tryz.prog 185 #[.slice p2 n2 c2] w fun e w' => ∃ g, e = .returned (.slice (some ⟨g, 0, none⟩) n n) ∧ Own w w' [⟨g, 5, J.map v8⟩] from by
   have hl2 : (((RT R).2 ++ (RT R).1).length + 1) / 2 = n := by rw [List.length_append, (HTW.out R).l, (HTW.out R).r]; omega
   have := join_new ((RT R).2 ++ (RT R).1) p2 c2 (by rw [List.length_append, (HTW.out R).l, (HTW.out R).r]; omega) w h.1
   rw [hl2, ← hJ] at this
   rw [h.2.1]
   exact this
 have HL := Lib.hid hl
 have HM0 := Lib.hid hm0
 have HN := Lib.hid hN
 have HNL := Lib.hid hn.symm
 clear hH hR hRT hJ eT CE hF hr hm0 hl hN
 rw [← hn] at hlc h1 h31 ⊢
 clear hn
 have a1 : ((n : Int) == 0) = false := by rw [beq_eq_false_iff_ne]; omega
 have a2 : ¬ (n : Int) = 0 := by omega
 have a3 : decide ((31 : Int) < (n : Int)) = false := decide_eq_false (by omega)
 have a4 : ¬ (31 : Int) < (n : Int) := by omega
 have a5 : decide ((n : Int) > 31) = false := decide_eq_false (by omega)
 go_enter Tryz.func178, Tryz.ntmps178
 go_wp2_with fail
 refine wp_scope_goto 0 (fun a_ w_ => ∃ (k gl gr gB gh cm jj : Nat) (pm : Option Addr) (u1 u4 u5 u6 u7 u15 u16 u17 u18 u19 u20 u21 u22 u23 u24 u25 u26 u27 u28 u29 u30 u31 u32 u33 u34 u35 u36 u37 u38 u39 u40 u41 u42 u43 u44 u45 u46 u47 u48 u49 u50 u51 u52 u53 u54 u55 u56 u57 u58 u59 u60 u61 u62 u63 u64 u65 u66 u67 u68 u69 u70 u71 u72 u73 u74 u75 u76 u77 u78 u79 u80 u81 u82 : Value), a_ = { tmps := #[(.pointer (some ⟨g, 0, none⟩)), u1, (.slice pm n cm), (.bool false), u4, u5, u6, u7, (.slice none 0 0), (.int .i64 0), (.pointer (some ⟨gh, 0, none⟩)), (.int .i64 N), (.int .i64 (jj : Int)), (.int .i64 (1)), (.pointer (some ⟨gB, 0, none⟩)), u15, u16, u17, u18, u19, u20, u21, u22, u23, u24, u25, u26, u27, u28, u29, u30, u31, u32, u33, u34, u35, u36, u37, u38, u39, u40, u41, u42, u43, u44, u45, u46, u47, u48, u49, u50, u51, u52, u53, u54, u55, u56, u57, u58, u59, u60, u61, u62, u63, u64, u65, u66, u67, u68, u69, u70, u71, u72, u73, u74, u75, u76, u77, u78, u79, u80, u81, u82], defers := [] } ∧ k < R ∧ jj = ordN false R k ∧ Own w0 w_ [⟨gB, 266, [.slice (some ⟨gl, 0, none⟩) n n, .slice (some ⟨gr, 0, none⟩) n n]⟩, ⟨gl, 5, (RT k).1.map v8⟩, ⟨gr, 5, (RT k).2.map v8⟩, ⟨gh, 94, H.map v8⟩]) (fun a_ _ => R - (intOf (a_.tmps.getD 12 undef)).toNat) rfl ?_ ?_
 · clear hm
   have key_ : ∀ (P_ : Act → World → Prop), (∀ (w_ : World) (k gl gr gB gh cm jj : Nat) (pm : Option Addr) (u1 u4 u5 u6 u7 u15 u16 u17 u18 u19 u20 u21 u22 u23 u24 u25 u26 u27 u28 u29 u30 u31 u32 u33 u34 u35 u36 u37 u38 u39 u40 u41 u42 u43 u44 u45 u46 u47 u48 u49 u50 u51 u52 u53 u54 u55 u56 u57 u58 u59 u60 u61 u62 u63 u64 u65 u66 u67 u68 u69 u70 u71 u72 u73 u74 u75 u76 u77 u78 u79 u80 u81 u82 : Value), k < R ∧ jj = ordN false R k ∧ Own w0 w_ [⟨gB, 266, [.slice (some ⟨gl, 0, none⟩) n n, .slice (some ⟨gr, 0, none⟩) n n]⟩, ⟨gl, 5, (RT k).1.map v8⟩, ⟨gr, 5, (RT k).2.map v8⟩, ⟨gh, 94, H.map v8⟩] → P_ { tmps := #[(.pointer (some ⟨g, 0, none⟩)), u1, (.slice pm n cm), (.bool false), u4, u5, u6, u7, (.slice none 0 0), (.int .i64 0), (.pointer (some ⟨gh, 0, none⟩)), (.int .i64 N), (.int .i64 (jj : Int)), (.int .i64 (1)), (.pointer (some ⟨gB, 0, none⟩)), u15, u16, u17, u18, u19, u20, u21, u22, u23, u24, u25, u26, u27, u28, u29, u30, u31, u32, u33, u34, u35, u36, u37, u38, u39, u40, u41, u42, u43, u44, u45, u46, u47, u48, u49, u50, u51, u52, u53, u54, u55, u56, u57, u58, u59, u60, u61, u62, u63, u64, u65, u66, u67, u68, u69, u70, u71, u72, u73, u74, u75, u76, u77, u78, u79, u80, u81, u82], defers := [] } w_) → ∀ (a_ : Act) (w_ : World), (∃ (k gl gr gB gh cm jj : Nat) (pm : Option Addr) (u1 u4 u5 u6 u7 u15 u16 u17 u18 u19 u20 u21 u22 u23 u24 u25 u26 u27 u28 u29 u30 u31 u32 u33 u34 u35 u36 u37 u38 u39 u40 u41 u42 u43 u44 u45 u46 u47 u48 u49 u50 u51 u52 u53 u54 u55 u56 u57 u58 u59 u60 u61 u62 u63 u64 u65 u66 u67 u68 u69 u70 u71 u72 u73 u74 u75 u76 u77 u78 u79 u80 u81 u82 : Value), a_ = { tmps := #[(.pointer (some ⟨g, 0, none⟩)), u1, (.slice pm n cm), (.bool false), u4, u5, u6, u7, (.slice none 0 0), (.int .i64 0), (.pointer (some ⟨gh, 0, none⟩)), (.int .i64 N), (.int .i64 (jj : Int)), (.int .i64 (1)), (.pointer (some ⟨gB, 0, none⟩)), u15, u16, u17, u18, u19, u20, u21, u22, u23, u24, u25, u26, u27, u28, u29, u30, u31, u32, u33, u34, u35, u36, u37, u38, u39, u40, u41, u42, u43, u44, u45, u46, u47, u48, u49, u50, u51, u52, u53, u54, u55, u56, u57, u58, u59, u60, u61, u62, u63, u64, u65, u66, u67, u68, u69, u70, u71, u72, u73, u74, u75, u76, u77, u78, u79, u80, u81, u82], defers := [] } ∧ k < R ∧ jj = ordN false R k ∧ Own w0 w_ [⟨gB, 266, [.slice (some ⟨gl, 0, none⟩) n n, .slice (some ⟨gr, 0, none⟩) n n]⟩, ⟨gl, 5, (RT k).1.map v8⟩, ⟨gr, 5, (RT k).2.map v8⟩, ⟨gh, 94, H.map v8⟩]) → P_ a_ w_ :=
     fun P_ h_ a_ w_ z => z.elim fun k z => z.elim fun gl z => z.elim fun gr z => z.elim fun gB z => z.elim fun gh z => z.elim fun cm z => z.elim fun jj z => z.elim fun pm z => z.elim fun u1 z => z.elim fun u4 z => z.elim fun u5 z => z.elim fun u6 z => z.elim fun u7 z => z.elim fun u15 z => z.elim fun u16 z => z.elim fun u17 z => z.elim fun u18 z => z.elim fun u19 z => z.elim fun u20 z => z.elim fun u21 z => z.elim fun u22 z => z.elim fun u23 z => z.elim fun u24 z => z.elim fun u25 z => z.elim fun u26 z => z.elim fun u27 z => z.elim fun u28 z => z.elim fun u29 z => z.elim fun u30 z => z.elim fun u31 z => z.elim fun u32 z => z.elim fun u33 z => z.elim fun u34 z => z.elim fun u35 z => z.elim fun u36 z => z.elim fun u37 z => z.elim fun u38 z => z.elim fun u39 z => z.elim fun u40 z => z.elim fun u41 z => z.elim fun u42 z => z.elim fun u43 z => z.elim fun u44 z => z.elim fun u45 z => z.elim fun u46 z => z.elim fun u47 z => z.elim fun u48 z => z.elim fun u49 z => z.elim fun u50 z => z.elim fun u51 z => z.elim fun u52 z => z.elim fun u53 z => z.elim fun u54 z => z.elim fun u55 z => z.elim fun u56 z => z.elim fun u57 z => z.elim fun u58 z => z.elim fun u59 z => z.elim fun u60 z => z.elim fun u61 z => z.elim fun u62 z => z.elim fun u63 z => z.elim fun u64 z => z.elim fun u65 z => z.elim fun u66 z => z.elim fun u67 z => z.elim fun u68 z => z.elim fun u69 z => z.elim fun u70 z => z.elim fun u71 z => z.elim fun u72 z => z.elim fun u73 z => z.elim fun u74 z => z.elim fun u75 z => z.elim fun u76 z => z.elim fun u77 z => z.elim fun u78 z => z.elim fun u79 z => z.elim fun u80 z => z.elim fun u81 z => z.elim fun u82 z => Eq.subst (motive := fun z_ => P_ z_ w_) z.1.symm (h_ w_ k gl gr gB gh cm jj pm u1 u4 u5 u6 u7 u15 u16 u17 u18 u19 u20 u21 u22 u23 u24 u25 u26 u27 u28 u29 u30 u31 u32 u33 u34 u35 u36 u37 u38 u39 u40 u41 u42 u43 u44 u45 u46 u47 u48 u49 u50 u51 u52 u53 u54 u55 u56 u57 u58 u59 u60 u61 u62 u63 u64 u65 u66 u67 u68 u69 u70 u71 u72 u73 u74 u75 u76 u77 u78 u79 u80 u81 u82 z.2)
   refine key_ _ ?_
   clear key_
   intro w k gl gr gB gh cm jj pm u1 u4 u5 u6 u7 u15 u16 u17 u18 u19 u20 u21 u22 u23 u24 u25 u26 u27 u28 u29 u30 u31 u32 u33 u34 u35 u36 u37 u38 u39 u40 u41 u42 u43 u44 u45 u46 u47 u48 u49 u50 u51 u52 u53 u54 u55 u56 u57 u58 u59 u60 u61 u62 u63 u64 u65 u66 u67 u68 u69 u70 u71 u72 u73 u74 u75 u76 u77 u78 u79 u80 u81 u82
   rintro ⟨hk, hjj, hm⟩
   have TW := HTW.out k
   have ST := HST.out k
   have l1 := TW.l
   have l2 := TW.r
   clear TW
   have TW := HTW.out (k + 1)
   rw [ST] at TW
   have l3 : (xorL (RT k).1 (stepL F H N (ordN false R k) (RT k).2)).length = n := TW.r
   clear TW
   have l4 : (stepL F H N jj (RT k).2).length = n := (stepL_length F H N jj _).trans l2
   rw [← hjj] at ST l3
   have j63 : jj ≤ 9223372036854775807 := by rw [hjj]; unfold ordN; split <;> omega
   have HJJ := Lib.hid hjj
   have XC1 := Lib.hid fun (B : Nat) (w : World) (ga gb : Nat) hB ha hb => XC.out B w (RT k).1 (stepL F H N jj (RT k).2) ga gb l1 l4 hB ha hb
   have SC1 := Lib.hid fun (B : Nat) (w : World) (gr : Nat) hx hB hr => SC.out B w (RT k).2 gr jj hx l2 j63 hB hr
   have STH := Lib.hid ST
   clear hjj ST l4
   generalize hX : xorL (RT k).1 (stepL F H N jj (RT k).2) = X at *
   generalize stepL F H N jj (RT k).2 = SV at *
   generalize (RT k).1 = LL at *
   generalize (RT k).2 = RR at *
   clear hX
   go_wp2_with fail
   have hx0 := hm.x
   have c1 := fun wx (hwx : Ext w wx) => SC1.out w.heap.size wx gr (hx0.trans hwx) hwx.size ((hm.ext hwx).rdB (g := gr) (l := RR) (by repeat (first | exact Has.hd | assumption | apply Has.tl | apply Has.app)))
   have c2 := fun wx (hwx : Ext w wx) g' hr' => XC1.out w.heap.size wx gl g' hwx.size ((hm.ext hwx).rdB (g := gl) (l := LL) (by repeat (first | exact Has.hd | assumption | apply Has.tl | apply Has.app))) hr'
   refine region_new 13 (fun w' => Ext _ w') 83 (by kernel_rfl) (by kernel_rfl) rfl (fun _ _ h k => h.trans k) (drew_ext _) ?_
   simp only [tSC, List.take_zero, dSC, List.drop_zero, List.map_cons, List.map_nil]
   repeat (first
       | (apply walk_some (XorT w.heap.size n SV) 54 (XorT.stable _ _ _) rfl rfl rfl rfl
          · (intro wx hwx; go_simp; with_reducible exact gives_callR (c1 wx hwx)))
       | (apply walk_from_some (T := [(54, XorT w.heap.size n SV)]) (XorT w.heap.size n X) 55 (XorT.stable _ _ _) rfl rfl rfl
          · (intro wx hwx; simp only [withS]; (rintro x_ ⟨g', rfl, hB', hr'⟩); refine ⟨rfl, ?_⟩; go_simp; with_reducible exact gives_callR (c2 wx hwx g' (RdB.of_row hr'))))
       | (apply walk_is rfl rfl rfl
          · (intro wx hwx; first | ((with_reducible show gives _ _ _ (Sem.run _ (execOp _ (Oper.mk _ (Op.load _ _) _ _ _ _)) _)); first | ((with_reducible apply gq_ldW (hm.ext hwx)); infer_instance; exact rfl; (focus ((repeat (first | exact .hd | assumption | apply Has.tl | apply Has.app)); done)); (focus (first | rfl | omega | (simp; done) | (simp; omega)))) | ((with_reducible apply gq_ld1 (hm.ext hwx)); infer_instance; exact rfl; (focus ((repeat (first | exact .hd | assumption | apply Has.tl | apply Has.app)); done)); exact rfl)) | (go_simp; (try go_bits); first | exact gives_same | exact gives_skip))
          · (simp only [Act.put, sIB, sCS, sCZ]; rfl))
       | (apply walk_not rfl rfl rfl
          · (simp only [Act.put, sIB, sCS, sCZ]; rfl)))
   intro wz hwz
   simp only [zCC, zNR]
   repeat rw [fin_is]
   rw [fin_cons]; intro x54 hx54
   repeat rw [fin_is]
   rw [fin_cons]; intro x55 hx55
   repeat rw [fin_is]
   rw [fin_nil]; intro hap
   simp only [Act.put, sIB, sCS, sCZ] at hap ⊢
   obtain ⟨gs, rfl, _, _⟩ := hx54
   obtain ⟨gx, rfl, bX, rX⟩ := hx55
   replace hm := hm.push hwz bX rX
   clear c1 c2 hap hx0 bX rX
   obtain ⟨w', rfl⟩ : ∃ w', w' = wz := ⟨_, rfl⟩
   have hjk : jj = k := HJJ.out
   have x1 : (jj : Int) + 1 = ((k + 1 : Nat) : Int) := by omega
   generalize hk1 : k + 1 = k1 at *
   have y1 : decide ((k1 : Int) ≥ 0) = true := decide_eq_true (by omega)
   have y2 : decide ((0 : Int) ≤ (k1 : Int)) = true := decide_eq_true (by omega)
   have y3 : (0 : Int) ≤ (k1 : Int) := by omega
   by_cases hlt : k1 < R
   · have z1 : decide ((k1 : Int) < (R : Int)) = true := decide_eq_true (by omega)
     have z2 : (k1 : Int) < (R : Int) := by omega
     go_wp2_with (first | ((with_reducible show qSt); (with_reducible apply wq_stfT (v := .slice (some ⟨gr, 0, none⟩) n n) hm); exact rfl; infer_instance; exact rfl; exact rfl; exact rfl; exact rfl; (focus ((repeat (first | exact .hd | apply Swap.tl | apply Swap.app | apply Swap.app)); done)); exact rfl; (exact (show _ < 2 from by omega)); clear hm; intro w hm) | ((with_reducible show qSt); (with_reducible apply wq_stfT (v := .slice (some ⟨gx, 0, none⟩) n n) hm); exact rfl; infer_instance; exact rfl; exact rfl; exact rfl; exact rfl; (focus ((repeat (first | exact .hd | apply Swap.tl | apply Swap.app | apply Swap.app)); done)); exact rfl; (exact (show _ < 2 from by omega)); clear hm; intro w hm) | (go_at_call 181; (with_reducible refine (RC.out _).mono ?_); rintro e_ w_ ⟨rfl, rfl⟩))
     have hm2 := own_subT (M := ⟨gx, 5, X.map v8⟩ :: ([⟨gB, 266, [.slice (some ⟨gr, 0, none⟩) n n, .slice (some ⟨gx, 0, none⟩) n n]⟩, ⟨gr, 5, RR.map v8⟩] ++ [⟨gh, 94, H.map v8⟩])) hm (by repeat (first | exact List.Sublist.refl _ | exact List.nil_sublist _ | apply List.Sublist.cons_cons | apply List.Sublist.cons))
     have hm3 := hm2.perm List.perm_middle.symm
     go_step3
     exact ⟨rfl, ⟨_, _, _, _, _, _, _, _, _, _, _, _, _, _, _, _, _, _, _, _, _, _, _, _, _, _, _, _, _, _, _, _, _, _, _, _, _, _, _, _, _, _, _, _, _, _, _, _, _, _, _, _, _, _, _, _, _, _, _, _, _, _, _, _, _, _, _, _, _, _, _, _, _, _, _, _, _, _, _, _, _, rfl, ⟨hlt, by show k + 1 = k1; exact hk1, by rw [STH.out]; exact hm3⟩⟩, by simp [intOf]; omega⟩
   · obtain rfl : k1 = R := by omega
     have z1 : decide ((k1 : Int) < (k1 : Int)) = false := decide_eq_false (by omega)
     have z2 : ¬ (k1 : Int) < (k1 : Int) := by omega
     have FIT := Lib.hid (show (n + n) * (1 + 1) ≤ 140737488355328 by omega)
     have LR := Lib.hid (show (RR.map v8).length = n * 1 by rw [List.length_map, l2, Nat.mul_one])
     have SX := Lib.hid (SlO.whole gx 5 1 n (X.map v8) (by rw [List.length_map, l3, Nat.mul_one]) (by unfold maxLen; omega))
     go_wp2_with (first | ((with_reducible show qSt); (with_reducible apply wq_stfT (v := .slice (some ⟨gr, 0, none⟩) n n) hm); exact rfl; infer_instance; exact rfl; exact rfl; exact rfl; exact rfl; (focus ((repeat (first | exact .hd | apply Swap.tl | apply Swap.app | apply Swap.app)); done)); exact rfl; (exact (show _ < 2 from by omega)); clear hm; intro w hm) | ((with_reducible show qSt); (with_reducible apply wq_stfT (v := .slice (some ⟨gx, 0, none⟩) n n) hm); exact rfl; infer_instance; exact rfl; exact rfl; exact rfl; exact rfl; (focus ((repeat (first | exact .hd | apply Swap.tl | apply Swap.app | apply Swap.app)); done)); exact rfl; (exact (show _ < 2 from by omega)); clear hm; intro w hm) | (go_at_call 181; (with_reducible refine (RC.out _).mono ?_); rintro e_ w_ ⟨rfl, rfl⟩) | ((with_reducible show wpList _ _ _ (Oper.mk _ (Op.call _) _ _ _ _ :: _) _ _); refine wplO_app (M := [⟨gx, 5, X.map v8⟩]) (R := _) (ds := RR.map v8) hm SX.out rfl rfl rfl rfl Tryz.underlying22 LR.out (cellsB (hm.rdB (g := gr) (l := RR) (by repeat (first | exact Has.hd | assumption | apply Has.tl | apply Has.app)))) (one_map _) FIT.out ?_; clear hm; intro v2 w M2 hm hs2; obtain ⟨p_v2, c_v2, rfl⟩ := hs2.form) | ((with_reducible show qLd); first | ((with_reducible apply wq_ld1 hm); exact rfl; infer_instance; exact rfl; (focus ((repeat (first | exact .hd | assumption | apply Has.tl | apply Has.app)); done)); exact rfl)))
     rw [← List.map_append] at hs2
     have eRT := STH.out
     have e2 : (RT k1).2 ++ (RT k1).1 = X ++ RR := by rw [eRT]
     have JC1 := JC.out
     rw [e2] at JC1
     have hr2 := slo_bytes hs2 hm
     refine (JC1 _ _ _ _ hr2).mono ?_
     rintro e w ⟨gj, rfl, hmM⟩
     have hm2 := Own.join hm.dropN hmM
     clear hm hmM hr2 hs2 JC1 e2 eRT
     simp only [List.cons_append, List.nil_append] at hm2
     have hm := hm2
     clear hm2
     go_wp2_with (first | ((with_reducible show qLd); first | ((with_reducible apply wq_ldW hm); exact rfl; infer_instance; exact rfl; (focus ((repeat (first | exact .hd | assumption | apply Has.tl | apply Has.app)); done)); (focus (first | rfl | omega | (simp; done) | (simp; omega))))))
     refine (FC.out _ J _ _ hm.x lJ (hm.rdB (g := gj) (l := J) (by repeat (first | exact Has.hd | assumption | apply Has.tl | apply Has.app)))).mono ?_
     rintro e w ⟨v5, M5, rfl, hs5, hmM⟩
     obtain ⟨p5, c5, rfl⟩ := hs5.form
     have hr5 := Lib.hid (slo_bytes (R := []) hs5 (by simpa using hmM))
     have hx5 := hm.x.trans hmM.x
     clear hm hmM hs5
     go_wp2_with fail
     try simp only [Exit.jump]
     go_ret2
     exact ⟨p5, c5, rfl, hr5.out.2.2, hr5.out.1, hx5⟩
 · intro hp
   by_cases h16 : n < 16
   · obtain rfl : N = 7 := by rw [HN.out]; exact if_pos h16
     have b1 : decide ((16 : Int) ≤ (n : Int)) = false := decide_eq_false (by omega)
     have b2 : ¬ (16 : Int) ≤ (n : Int) := by omega
     have b3 : decide ((n : Int) ≥ 16) = false := decide_eq_false (by omega)
     have HJ0 := Lib.hid (show (0 : Nat) = ordN false R 0 from rfl)
     go_wp2_with (first | (go_at_call 180; (with_reducible refine (H1.out _ hm.x).mono ?_); rintro e_ w ⟨rfl, hx_⟩; replace hm := hm.ext hx_; clear hx_) | ((((with_reducible show qSt); first | ((with_reducible apply wq_stW hm); exact rfl; infer_instance; exact rfl; exact rfl; (focus ((repeat (first | exact .hd | assumption | apply Swap.tl | apply Swap.app)); done)); (focus (first | rfl | omega | (simp; done) | (simp; omega))); (focus (first | rfl | omega | (simp; done) | (simp; omega))); (focus (first | exact one_map _ | (simp [one8, one32, one64]; done)))))); clear hm; intro w hm) | ((first | ((with_reducible show qAl); first | ((with_reducible apply wq_new hm); exact rfl; infer_instance))); clear hm; intro gx_; intro w hm))
     refine (HC.out _ p c (HM0.out ▸ HL.out.ext hm.x)).mono ?_
     rintro e w ⟨gl, gr, rfl, hmM⟩
     have hm2 := Own.join hm hmM
     clear hm hmM
     simp only [List.cons_append, List.nil_append] at hm2
     have hm := hm2
     clear hm2
     go_wp2_with (first | ((with_reducible show wpList _ _ _ (Oper.mk _ (Op.store 266 _ _) _ _ _ _ :: _) _ _); (with_reducible apply wq_stW (cs' := [.slice (some ⟨gl, 0, none⟩) n n, .slice (some ⟨gr, 0, none⟩) n n]) hm); exact rfl; infer_instance; exact rfl; exact rfl; (focus ((repeat (first | exact .hd | apply Swap.tl | apply Swap.app | apply Swap.app)); done)); exact rfl; exact rfl; (exact two_one); clear hm; intro w hm) | ((first | ((with_reducible show qAl); first | ((with_reducible apply wq_new hm); exact rfl; infer_instance))); clear hm; intro gx_; intro w hm))
     have hm3 := hm.perm (((List.Perm.swap _ _ _).cons _))
     go_step3
     rename_i hK
     exact hK _ _ (hp _ _ ⟨_, _, _, _, _, _, _, _, _, _, _, _, _, _, _, _, _, _, _, _, _, _, _, _, _, _, _, _, _, _, _, _, _, _, _, _, _, _, _, _, _, _, _, _, _, _, _, _, _, _, _, _, _, _, _, _, _, _, _, _, _, _, _, _, _, _, _, _, _, _, _, _, _, _, _, _, _, _, _, _, _, rfl, ⟨(show 0 < R from by omega), HJ0.out, (by rw [H00.out]; exact hm3)⟩⟩)
   · obtain rfl : N = 6 := by rw [HN.out]; exact if_neg h16
     have b1 : decide ((16 : Int) ≤ (n : Int)) = true := decide_eq_true (by omega)
     have b2 : (16 : Int) ≤ (n : Int) := by omega
     have b3 : decide ((n : Int) ≥ 16) = true := decide_eq_true (by omega)
     have HJ0 := Lib.hid (show (0 : Nat) = ordN false R 0 from rfl)
     go_wp2_with (first | (go_at_call 180; (with_reducible refine (H1.out _ hm.x).mono ?_); rintro e_ w ⟨rfl, hx_⟩; replace hm := hm.ext hx_; clear hx_) | ((((with_reducible show qSt); first | ((with_reducible apply wq_stW hm); exact rfl; infer_instance; exact rfl; exact rfl; (focus ((repeat (first | exact .hd | assumption | apply Swap.tl | apply Swap.app)); done)); (focus (first | rfl | omega | (simp; done) | (simp; omega))); (focus (first | rfl | omega | (simp; done) | (simp; omega))); (focus (first | exact one_map _ | (simp [one8, one32, one64]; done)))))); clear hm; intro w hm) | ((first | ((with_reducible show qAl); first | ((with_reducible apply wq_new hm); exact rfl; infer_instance))); clear hm; intro gx_; intro w hm))
     refine (HC.out _ p c (HM0.out ▸ HL.out.ext hm.x)).mono ?_
     rintro e w ⟨gl, gr, rfl, hmM⟩
     have hm2 := Own.join hm hmM
     clear hm hmM
     simp only [List.cons_append, List.nil_append] at hm2
     have hm := hm2
     clear hm2
     go_wp2_with (first | ((with_reducible show wpList _ _ _ (Oper.mk _ (Op.store 266 _ _) _ _ _ _ :: _) _ _); (with_reducible apply wq_stW (cs' := [.slice (some ⟨gl, 0, none⟩) n n, .slice (some ⟨gr, 0, none⟩) n n]) hm); exact rfl; infer_instance; exact rfl; exact rfl; (focus ((repeat (first | exact .hd | apply Swap.tl | apply Swap.app | apply Swap.app)); done)); exact rfl; exact rfl; (exact two_one); clear hm; intro w hm) | ((first | ((with_reducible show qAl); first | ((with_reducible apply wq_new hm); exact rfl; infer_instance))); clear hm; intro gx_; intro w hm))
     have hm3 := hm.perm (((List.Perm.swap _ _ _).cons _))
     go_step3
     rename_i hK
     exact hK _ _ (hp _ _ ⟨_, _, _, _, _, _, _, _, _, _, _, _, _, _, _, _, _, _, _, _, _, _, _, _, _, _, _, _, _, _, _, _, _, _, _, _, _, _, _, _, _, _, _, _, _, _, _, _, _, _, _, _, _, _, _, _, _, _, _, _, _, _, _, _, _, _, _, _, _, _, _, _, _, _, _, _, _, _, _, _, _, rfl, ⟨(show 0 < R from by omega), HJ0.out, (by rw [H00.out]; exact hm3)⟩⟩)
section
variable {P : Program} {ops : Array Oper} {Q : Exit → Act → World → Prop} {rest : List Oper} {a : Act} {w0 w : World} {L : List Blk} {dst : Option Tmp} {T e ty : TypeId} {pos : String} {aft : Array Edge} {gd : Option (Nat × Bool)}
theorem wq_bs1g {u0 : Value} {x0 : Operand} {cs : List Value} (hb : ∀ w, (Instr.buildSlice T 1 #[(0, u0)]).run P w = .ok (.slice (some ⟨w.heap.size, 0, none⟩) 1 1) (w.alloc (.cells cs.toArray e))) (hm : Own w0 w L) (hgd : Region.wanted (Oper.mk dst (.buildSlice T 1 #[(0, x0)]) ty pos aft gd) (yielded ops a.tmps) = true) (hx0 : a.eval x0 = u0) (hr : ∀ g w', Own w0 w' (⟨g, e, cs⟩ :: L) → wpList P ops Q rest (a.put dst (.slice (some ⟨g, 0, none⟩) 1 1)) w') : wpList P ops Q ((Oper.mk dst (.buildSlice T 1 #[(0, x0)]) ty pos aft gd) :: rest) a w :=
 wpList_want hgd fun K hK => by
   unfold Oper.wp execOp
   simp [hx0, hb, Sem.run_bind, Result.andThen_ok, Sem.run_pure]
   exact hK _ _ (hr _ _ (hm.alloc e cs))
end
theorem bs_s1 (p : Option Addr) (n c : Nat) (w : World) : (Instr.buildSlice 222 1 #[(0, .slice p n c)]).run Tryz.prog w = .ok (.slice (some ⟨w.heap.size, 0, none⟩) 1 1) (w.alloc (.cells [.slice p n c].toArray 22)) := by kernel_rfl
theorem rdR1 {w : World} {g : Nat} {t : TypeId} {p : Option Addr} {a : List Byte} {c : Nat} (h : Row w g t [.slice p a.length c]) (ha : RdB w p a) (hc : a.length ≤ c) (la : a.length ≤ maxLen) : RdR w (some ⟨g, 0, none⟩) [a] := by
 refine ⟨fun _ => rfl, fun i hi => ?_⟩
 have hcell : ∀ k, w.cell? (((some (⟨g, 0, none⟩ : Addr)).getD default).add k) = w.cell? ⟨g, k, none⟩ := fun k => by rw [show ((some (⟨g, 0, none⟩ : Addr)).getD default).add k = ⟨g, k, none⟩ from by simp [Addr.add]; exact fun h => h.symm]
 match i, hi with
 | 0, _ => exact ⟨p, c, (hcell 0).trans (row_cell h 0), ha, hc, la⟩
def aezL (key t m : List Byte) : List Byte := tinyL (eZ (keyOf key)) (hashG (eZ (keyOf key)) [t]) false m
theorem aezL_length (key t m : List Byte) : (aezL key t m).length = m.length := tinyL_length _ _ _ _
set_option maxHeartbeats 2000000 in
theorem ezrow_any (g : Nat) (key t m : List Byte) (h1 : 1 ≤ m.length) (h31 : m.length ≤ 31) (ht : t.length ≤ 500) (q p : Option Addr) (d c : Nat) (hd : 1 ≤ d) (hc : m.length ≤ c) (w0 : World) (hk : KeyR w0 g (keyOf key)) (hr : RdR w0 q [t]) (hq : RdB w0 p m) :
   Calls Tryz.prog 177 #[.agg #[.pointer (some ⟨g, 0, none⟩)], .slice q 1 d, .slice p m.length c, .bool false] w0 fun e w' => ∃ px cx, e = .returned (.tuple #[.slice px m.length cx, .int .i64 0]) ∧ m.length ≤ cx ∧ RdB w' px (aezL key t m) ∧ Ext w0 w' := by
 have hm := Own.start w0
 have TT := Lib.hid fun (w : World) (hx : Ext w0 w) => tturn_fwd g (eZ (keyOf key)) (eZ_length (keyOf key)) [t] q d m p c w (hr.ext hx) hd (show 1 ≤ 70368744177000 from by omega) (fun i => by match i with | 0 => exact Nat.le_trans ht (by omega) | i + 1 => exact Nat.zero_le _) (hq.ext hx) hc h1 h31 (fun wx hwx j n x e1 e2 e3 => ((hk.ext hx).ext hwx).e j n x e1 e2 e3)
 rw [show (tinyL (eZ (keyOf key)) (hashG (eZ (keyOf key)) [t]) false m) = aezL key t m from rfl, show ([t] : List (List Byte)).length = 1 from rfl] at TT
 have d1 : decide ((m.length : Int) < 32) = true := decide_eq_true (by omega)
 have d2 : (m.length : Int) < 32 := by omega
 obtain ⟨X, hX⟩ : ∃ x, x = aezL key t m := ⟨_, rfl⟩
 rw [← hX] at TT ⊢
 obtain ⟨n, hn⟩ : ∃ x, x = m.length := ⟨_, rfl⟩
 rw [← hn] at TT d1 d2 ⊢
 clear hX hn hq hr hk h1 h31 hc ht hd
 go_enter Tryz.func177, Tryz.ntmps177
 go_wp2_with (first | ((with_reducible apply wq_boxN (cs := [.pointer (some ⟨g, 0, none⟩)]) hm); exact rfl; exact rfl; clear hm; intro gz w hm) | ((with_reducible show qLd); first | ((with_reducible apply wq_ld1 hm); exact rfl; infer_instance; exact rfl; (focus (repeat first | exact .hd | assumption | apply Has.tl); done); exact rfl)))
 refine (TT.out w hm.x).mono ?_
 rintro e_ w ⟨px, cx, rfl, hcx, hpx, hx_⟩
 replace hm := hm.ext hx_
 clear hx_
 go_wp2_with fail
 go_ret2
 exact ⟨px, cx, rfl, hcx, hpx, hm.x⟩
set_option maxHeartbeats 2000000 in
theorem ezenc_any (g : Nat) (key t m : List Byte) (h1 : 1 ≤ m.length) (h31 : m.length ≤ 31) (ht : t.length ≤ 500) (q p : Option Addr) (d c : Nat) (hd : t.length ≤ d) (hc : m.length ≤ c) (w0 : World) (hk : KeyR w0 g (keyOf key)) (hr : RdB w0 q t) (hq : RdB w0 p m) :
   Calls Tryz.prog 176 #[.agg #[.pointer (some ⟨g, 0, none⟩)], .slice q t.length d, .slice p m.length c] w0 fun e w' => ∃ px cx, e = .returned (.tuple #[.slice px m.length cx, .int .i64 0]) ∧ m.length ≤ cx ∧ RdB w' px (aezL key t m) ∧ Ext w0 w' := by
 have hm := Own.start w0
 have lt : t.length ≤ maxLen := Nat.le_trans ht (by decide)
 have TT := Lib.hid fun (gr : Nat) (w : World) (hx : Ext w0 w) (hr1 : Row w gr 22 [.slice q t.length d]) => ezrow_any g key t m h1 h31 ht (some ⟨gr, 0, none⟩) p 1 c (Nat.le_refl _) hc w (hk.ext hx) (rdR1 hr1 (hr.ext hx) hd lt) (hq.ext hx)
 have BS := Lib.hid (bs_s1 q t.length d)
 obtain ⟨X, hX⟩ : ∃ x, x = aezL key t m := ⟨_, rfl⟩
 rw [← hX] at TT ⊢
 obtain ⟨n, hn⟩ : ∃ x, x = m.length := ⟨_, rfl⟩
 rw [← hn] at TT ⊢
 obtain ⟨k, hk0⟩ : ∃ x, x = t.length := ⟨_, rfl⟩
 rw [← hk0] at TT BS ⊢
 clear hX hn hq hr hk h1 h31 hc ht hd lt hk0
 go_enter Tryz.func176, Tryz.ntmps176
 go_wp2_with (first | ((with_reducible apply wq_boxN (cs := [.pointer (some ⟨g, 0, none⟩)]) hm); exact rfl; exact rfl; clear hm; intro gz w hm) | ((with_reducible apply wq_bs1g (BS.out) hm); exact rfl; exact rfl; clear hm; intro gb w hm) | ((with_reducible show qLd); first | ((with_reducible apply wq_ldW hm); exact rfl; infer_instance; exact rfl; (focus (repeat first | exact .hd | assumption | apply Has.tl); done); (focus (first | rfl | omega | (simp; done) | (simp; omega))))))
 refine (TT.out gb w hm.x (hm.row .hd)).mono ?_
 rintro e_ w ⟨px, cx, rfl, hcx, hpx, hx_⟩
 replace hm := hm.ext hx_
 clear hx_
 go_wp2_with fail
 go_ret2
 exact ⟨px, cx, rfl, hcx, hpx, hm.x⟩
def adPk (key : List Byte) : AdP := ⟨key, eK0 ((adX key).take 32), eKs ((adX key).take 32), eKl ((adX key).take 32), blk ((adX key).drop 32), blk (((adX key).drop 32).drop 16), nhW (((adX key).drop 32).drop 32)⟩
def wideE (a : Int) (key t m : List Byte) : List Byte :=
 if a = 1 then adEn (adPk key) t m (m.length - 16) else if a = 2 then hcDo (eK0 key) (eKs key) (eKl key) (hcH key) (hcL key) (aesE (eK0 key) (eKs key) (eKl key)) t m else aezL key t m
theorem wideE_length (a : Int) (key t m : List Byte) (h : 16 ≤ m.length) : (wideE a key t m).length = m.length := by
 unfold wideE
 split
 · rw [adEn_length _ _ _ _ (by omega)]; omega
 · split
   · rw [hcDo, List.length_append, bothL_length, hcBulk_length]; omega
   · exact aezL_length _ _ _
def CipR (w : World) (g : Nat) (a : Int) (key : List Byte) : Prop := ∃ gi,
 (a = 1 ∧ Row w g 72 [.int .i64 1, .iface 82 (.pointer (some ⟨gi, 0, none⟩))] ∧ AdiP w gi (adPk key))
 ∨ (a = 2 ∧ Row w g 72 [.int .i64 2, .iface 85 (.pointer (some ⟨gi, 0, none⟩))] ∧ HcR w gi (eK0 key) (eKs key) (eKl key) (hcH key) (hcL key))
 ∨ (a = 3 ∧ Row w g 72 [.int .i64 3, .iface 92 (.agg #[.pointer (some ⟨gi, 0, none⟩)])] ∧ KeyR w gi (keyOf key))
theorem CipR.ext {w w' : World} {g : Nat} {a : Int} {key : List Byte} (h : CipR w g a key) (hx : Ext w w') : CipR w' g a key := by
 obtain ⟨gi, ⟨h1, h2, h3⟩ | ⟨h1, h2, h3⟩ | ⟨h1, h2, h3⟩⟩ := h
 · exact ⟨gi, .inl ⟨h1, row_ext h2 hx, AdiR.ext h3 hx⟩⟩
 · exact ⟨gi, .inr (.inl ⟨h1, row_ext h2 hx, h3.ext hx⟩)⟩
 · exact ⟨gi, .inr (.inr ⟨h1, row_ext h2 hx, h3.ext hx⟩)⟩
theorem slo_read {w0 w : World} {M R : List Blk} {v : Value} {n : Nat} {X : List Byte} (hm : Own w0 w (M ++ R)) (hs : SlO M 5 1 v n (X.map v8)) : ∃ px cx, v = .slice px n cx ∧ RdB w px X ∧ n ≤ cx := by
 obtain ⟨p, c, rfl⟩ := hs.form
 refine ⟨p, c, rfl, slo_rdZ hs hm, ?_⟩
 rcases hs.2 with ⟨_, h1, _⟩ | ⟨g, o, cap, cur, e1, _, h2, h3⟩
 · omega
 · cases e1; omega
theorem meth_ad (n : Nat) (p : Addr) (w : World) : (method (n + 1) 82 (.pointer (some p)) "Encipher").run Tryz.prog w = .ok (110, .pointer (some p)) w := by kernel_rfl
theorem meth_hc (n : Nat) (p : Addr) (w : World) : (method (n + 1) 85 (.pointer (some p)) "Encipher").run Tryz.prog w = .ok (151, .pointer (some p)) w := by kernel_rfl
theorem meth_ez (n : Nat) (v : Value) (w : World) : (method (n + 1) 92 (.agg #[v]) "Encipher").run Tryz.prog w = .ok (176, .agg #[v]) w := by kernel_rfl
set_option maxHeartbeats 2000000 in
theorem turned1_any (g gi n : Nat) (P : AdP) (t m : List Byte) (ht : t.length ≤ 500) (hl : m.length = n + 16) (hn : n < 400) (p q : Option Addr) (c d : Nat) (hc : t.length ≤ c) (hd : n + 16 ≤ d) (w0 : World) (hw : Row w0 g 72 [.int .i64 1, .iface 82 (.pointer (some ⟨gi, 0, none⟩))]) (hh : AdiP w0 gi P) (hr : RdB w0 p t) (hq : RdB w0 q m) :
   Calls Tryz.prog 37 #[.pointer (some ⟨g, 0, none⟩), .slice p t.length c, .slice q (n + 16) d, .bool false] w0 fun e w' => ∃ px cx, e = .returned (.tuple #[.slice px (n + 16) cx, .int .i64 0]) ∧ n + 16 ≤ cx ∧ RdB w' px (adEn P t m n) ∧ Ext w0 w' := by
 have EN := Lib.hid (aenc_any gi n P t m (by omega) hl hn p q c d hc hd w0 hh hr hq)
 have LE := Lib.hid (least12 g _ _ 1 (.inl rfl) w0 hw)
 have c1 : w0.cell? ⟨g, 1, none⟩ = some (.iface 82 (.pointer (some ⟨gi, 0, none⟩))) := by rw [row_cell hw]; rfl
 have me := fun n => meth_ad n ⟨gi, 0, none⟩
 obtain ⟨X, hX⟩ : ∃ x, x = adEn P t m n := ⟨_, rfl⟩
 rw [← hX] at EN ⊢
 obtain ⟨TL, hTL⟩ : ∃ x, x = t.length := ⟨_, rfl⟩
 rw [← hTL] at EN ⊢
 skip
 obtain ⟨K, hK⟩ : ∃ x, x = n + 16 := ⟨_, rfl⟩
 rw [← hK] at EN ⊢
 have d2 : ¬ (K : Int) < 16 := by omega
 have d3 : decide ((K : Int) < 16) = false := decide_eq_false d2
 clear hX hq hr hw hh ht hc hTL hK hl hn hd
 go_enter Tryz.func37, Tryz.ntmps37
 go_wp2_with (go_at_call 47; (with_reducible refine (LE.out).mono ?_); rintro e_ w ⟨rfl, rfl⟩)
 refine (EN.out).mono ?_
 rintro e_ w ⟨v5, M5, R5, rfl, hm1, hs5⟩
 obtain ⟨px, cx, rfl, hpx, hcx⟩ := slo_read hm1 hs5
 have hx := hm1.x
 clear hm1 hs5
 go_wp2_with fail
 go_ret2
 exact ⟨px, cx, rfl, hcx, hpx, hx⟩
set_option maxHeartbeats 2000000 in
theorem turned2_any (g gi n : Nat) (k0 kl h l : List Byte) (ks : List (List Byte)) (t m : List Byte) (ht : t.length ≤ 500) (hl : m.length = n + 16) (hn : n < 400) (p q : Option Addr) (c d : Nat) (hc : t.length ≤ c) (hd : n + 16 ≤ d) (w0 : World) (hw : Row w0 g 72 [.int .i64 2, .iface 85 (.pointer (some ⟨gi, 0, none⟩))]) (hh : HcR w0 gi k0 ks kl h l) (hr : RdB w0 p t) (hq : RdB w0 q m) :
   Calls Tryz.prog 37 #[.pointer (some ⟨g, 0, none⟩), .slice p t.length c, .slice q (n + 16) d, .bool false] w0 fun e w' => ∃ px cx, e = .returned (.tuple #[.slice px (n + 16) cx, .int .i64 0]) ∧ n + 16 ≤ cx ∧ RdB w' px (hcDo k0 ks kl h l (aesE k0 ks kl) t m) ∧ Ext w0 w' := by
 have EN := Lib.hid (henc_any gi n k0 kl h l t m ks ht hl hn p q c d hc hd w0 hh hr hq)
 have LE := Lib.hid (least12 g _ _ 2 (.inr rfl) w0 hw)
 have c1 : w0.cell? ⟨g, 1, none⟩ = some (.iface 85 (.pointer (some ⟨gi, 0, none⟩))) := by rw [row_cell hw]; rfl
 have me := fun n => meth_hc n ⟨gi, 0, none⟩
 obtain ⟨X, hX⟩ : ∃ x, x = hcDo k0 ks kl h l (aesE k0 ks kl) t m := ⟨_, rfl⟩
 rw [← hX] at EN ⊢
 obtain ⟨TL, hTL⟩ : ∃ x, x = t.length := ⟨_, rfl⟩
 rw [← hTL] at EN ⊢
 skip
 obtain ⟨K, hK⟩ : ∃ x, x = n + 16 := ⟨_, rfl⟩
 rw [← hK] at EN ⊢
 have d2 : ¬ (K : Int) < 16 := by omega
 have d3 : decide ((K : Int) < 16) = false := decide_eq_false d2
 clear hX hq hr hw hh ht hc hTL hK hl hn hd
 go_enter Tryz.func37, Tryz.ntmps37
 go_wp2_with (go_at_call 47; (with_reducible refine (LE.out).mono ?_); rintro e_ w ⟨rfl, rfl⟩)
 refine (EN.out).mono ?_
 rintro e_ w ⟨v5, M5, R5, rfl, hm1, hs5⟩
 obtain ⟨px, cx, rfl, hpx, hcx⟩ := slo_read hm1 hs5
 have hx := hm1.x
 clear hm1 hs5
 go_wp2_with fail
 go_ret2
 exact ⟨px, cx, rfl, hcx, hpx, hx⟩
set_option maxHeartbeats 2000000 in
theorem turned3_any (g gi n : Nat) (key : List Byte) (t m : List Byte) (ht : t.length ≤ 500) (hl : m.length = n + 16) (hn : n ≤ 15) (p q : Option Addr) (c d : Nat) (hc : t.length ≤ c) (hd : n + 16 ≤ d) (w0 : World) (hw : Row w0 g 72 [.int .i64 3, .iface 92 (.agg #[.pointer (some ⟨gi, 0, none⟩)])]) (hh : KeyR w0 gi (keyOf key)) (hr : RdB w0 p t) (hq : RdB w0 q m) :
   Calls Tryz.prog 37 #[.pointer (some ⟨g, 0, none⟩), .slice p t.length c, .slice q (n + 16) d, .bool false] w0 fun e w' => ∃ px cx, e = .returned (.tuple #[.slice px (n + 16) cx, .int .i64 0]) ∧ n + 16 ≤ cx ∧ RdB w' px (aezL key t m) ∧ Ext w0 w' := by
 have EN := Lib.hid (ezenc_any gi key t m (by omega) (by omega) ht p q c d hc (by omega) w0 hh hr hq)
 have LE := Lib.hid (least3 g _ _ w0 hw)
 have c1 : w0.cell? ⟨g, 1, none⟩ = some (.iface 92 (.agg #[.pointer (some ⟨gi, 0, none⟩)])) := by rw [row_cell hw]; rfl
 have me := fun n => meth_ez n (.pointer (some ⟨gi, 0, none⟩))
 obtain ⟨X, hX⟩ : ∃ x, x = aezL key t m := ⟨_, rfl⟩
 rw [← hX] at EN ⊢
 obtain ⟨TL, hTL⟩ : ∃ x, x = t.length := ⟨_, rfl⟩
 rw [← hTL] at EN ⊢
 rw [hl] at EN
 obtain ⟨K, hK⟩ : ∃ x, x = n + 16 := ⟨_, rfl⟩
 rw [← hK] at EN ⊢
 have d2 : ¬ (K : Int) < 1 := by omega
 have d3 : decide ((K : Int) < 1) = false := decide_eq_false d2
 clear hX hq hr hw hh ht hc hTL hK hl hn hd
 go_enter Tryz.func37, Tryz.ntmps37
 go_wp2_with (go_at_call 47; (with_reducible refine (LE.out).mono ?_); rintro e_ w ⟨rfl, rfl⟩)
 refine (EN.out).mono ?_
 rintro e_ w ⟨px, cx, rfl, hcx, hpx, hx⟩
 go_wp2_with fail
 go_ret2
 exact ⟨px, cx, rfl, hcx, hpx, hx⟩
theorem turned_any (g n : Nat) (al : Int) (key t m : List Byte) (ht : t.length ≤ 500) (hl : m.length = n + 16) (hn : n ≤ 15) (p q : Option Addr) (c d : Nat) (hc : t.length ≤ c) (hd : n + 16 ≤ d) (w0 : World) (hh : CipR w0 g al key) (hr : RdB w0 p t) (hq : RdB w0 q m) :
   Calls Tryz.prog 37 #[.pointer (some ⟨g, 0, none⟩), .slice p t.length c, .slice q (n + 16) d, .bool false] w0 fun e w' => ∃ px cx, e = .returned (.tuple #[.slice px (n + 16) cx, .int .i64 0]) ∧ n + 16 ≤ cx ∧ RdB w' px (wideE al key t m) ∧ Ext w0 w' := by
 obtain ⟨gi, ⟨h1, h2, h3⟩ | ⟨h1, h2, h3⟩ | ⟨h1, h2, h3⟩⟩ := hh
 · rw [show wideE al key t m = adEn (adPk key) t m n from by rw [wideE, if_pos h1, hl, Nat.add_sub_cancel]]
   exact turned1_any g gi n (adPk key) t m ht hl (by omega) p q c d hc hd w0 h2 h3 hr hq
 · rw [show wideE al key t m = hcDo (eK0 key) (eKs key) (eKl key) (hcH key) (hcL key) (aesE (eK0 key) (eKs key) (eKl key)) t m from by rw [wideE, if_neg (by omega), if_pos h1]]
   exact turned2_any g gi n _ _ _ _ _ t m ht hl (by omega) p q c d hc hd w0 h2 h3 hr hq
 · rw [show wideE al key t m = aezL key t m from by rw [wideE, if_neg (by omega), if_neg (by omega)]]
   exact turned3_any g gi n key t m ht hl hn p q c d hc hd w0 h2 h3 hr hq
def SchOk (al : Int) (key : List Byte) : Prop := (al = 1 ∧ key.length = 32) ∨ (al = 2 ∧ (key.length = 16 ∨ key.length = 24 ∨ key.length = 32)) ∨ (al = 3 ∧ 0 < key.length ∧ key.length ≤ 128)
def SchR (al : Int) (key : List Byte) (v : Value) (w : World) : Prop := ∃ gi,
 (al = 1 ∧ v = .iface 82 (.pointer (some ⟨gi, 0, none⟩)) ∧ AdiP w gi (adPk key))
 ∨ (al = 2 ∧ v = .iface 85 (.pointer (some ⟨gi, 0, none⟩)) ∧ HcR w gi (eK0 key) (eKs key) (eKl key) (hcH key) (hcL key))
 ∨ (al = 3 ∧ v = .iface 92 (.agg #[.pointer (some ⟨gi, 0, none⟩)]) ∧ KeyR w gi (keyOf key))
theorem SchR.cip {al : Int} {key : List Byte} {v : Value} {w : World} {g : Nat} (h : SchR al key v w) (hr : Row w g 72 [.int .i64 al, v]) : CipR w g al key := by
 obtain ⟨gi, ⟨h1, h2, h3⟩ | ⟨h1, h2, h3⟩ | ⟨h1, h2, h3⟩⟩ := h
 · exact ⟨gi, .inl ⟨h1, by subst h1; subst h2; exact hr, h3⟩⟩
 · exact ⟨gi, .inr (.inl ⟨h1, by subst h1; subst h2; exact hr, h3⟩)⟩
 · exact ⟨gi, .inr (.inr ⟨h1, by subst h1; subst h2; exact hr, h3⟩)⟩
theorem adPk_of {w : World} {g : Nat} {key : List Byte} (h : AdiK w g key) : AdiP w g (adPk key) := by unfold adPk; exact h
set_option maxHeartbeats 2000000 in
theorem schemed1_any (gt gb : Nat) (key : List Byte) (hk : key.length = 32) (p : Option Addr) (c : Nat) (hc : key.length ≤ c) (w0 : World) (hr : RdB w0 p key) (ht : TabR gt gb w0) (hcb : CoefB w0) :
   Calls Tryz.prog 26 #[.pointer (some ⟨gt, 0, none⟩), .int .i64 1, .slice p key.length c] w0 fun e w' => ∃ v L, e = .returned (.tuple #[v, .int .i64 0]) ∧ Own w0 w' L ∧ Keeps L (TabR gt gb) (SchR 1 key v) ∧ ∃ T x, v = .iface T x := by
 have hm := Own.start w0
 have EN := Lib.hid (adinew_any gt gb key hk p c (by omega) w0 hr ht)
 have KE := Lib.hid fun (gi : Nat) (L : List Blk) (h : Keeps L (TabR gt gb) (fun wx => AdiK wx gi key)) => (show Keeps L (TabR gt gb) (SchR 1 key (.iface 82 (.pointer (some ⟨gi, 0, none⟩)))) from (fun wx h1 h2 => ⟨gi, .inl ⟨rfl, rfl, adPk_of (h wx h1 h2)⟩⟩))
 obtain ⟨TL, hTL⟩ : ∃ x, x = key.length := ⟨_, rfl⟩
 rw [hk] at hTL
 rw [hk]; subst hTL
 clear hr ht hcb hc
 go_enter Tryz.func26, Tryz.ntmps26
 go_wp2_with fail
 refine (EN.out).mono ?_
 rintro e_ w ⟨gi, L, rfl, _, hm, hk1⟩
 go_wp2_with fail
 go_ret2
 exact ⟨_, L, rfl, hm, KE.out gi L hk1, _, _, rfl⟩
set_option maxHeartbeats 2000000 in
theorem schemed2_any (gt gb : Nat) (key : List Byte) (hk : key.length = 16 ∨ key.length = 24 ∨ key.length = 32) (p : Option Addr) (c : Nat) (hc : key.length ≤ c) (w0 : World) (hr : RdB w0 p key) (ht : TabR gt gb w0) (hcb : CoefB w0) :
   Calls Tryz.prog 26 #[.pointer (some ⟨gt, 0, none⟩), .int .i64 2, .slice p key.length c] w0 fun e w' => ∃ v L, e = .returned (.tuple #[v, .int .i64 0]) ∧ Own w0 w' L ∧ Keeps L (TabR gt gb) (SchR 2 key v) ∧ ∃ T x, v = .iface T x := by
 have hm := Own.start w0
 have EN := Lib.hid (hnew_any gt gb key hk p c hc w0 hr ht)
 have KE := Lib.hid fun (gi : Nat) (L : List Blk) (h : Keeps L (TabR gt gb) (fun wx => HcR wx gi (eK0 key) (eKs key) (eKl key) (hcH key) (hcL key))) => (show Keeps L (TabR gt gb) (SchR 2 key (.iface 85 (.pointer (some ⟨gi, 0, none⟩)))) from (fun wx h1 h2 => ⟨gi, .inr (.inl ⟨rfl, rfl, h wx h1 h2⟩)⟩))
 obtain ⟨TL, hTL⟩ : ∃ x, x = key.length := ⟨_, rfl⟩
 skip
 rw [← hTL] at EN ⊢
 clear hr ht hcb hc hTL
 go_enter Tryz.func26, Tryz.ntmps26
 go_wp2_with fail
 refine (EN.out).mono ?_
 rintro e_ w ⟨gi, L, rfl, _, hm, hk1⟩
 go_wp2_with fail
 go_ret2
 exact ⟨_, L, rfl, hm, KE.out gi L hk1, _, _, rfl⟩
set_option maxHeartbeats 2000000 in
theorem schemed3_any (gt gb : Nat) (key : List Byte) (h0 : 0 < key.length) (h1 : key.length ≤ 128) (p : Option Addr) (c : Nat) (hc : key.length ≤ c) (w0 : World) (hr : RdB w0 p key) (ht : TabR gt gb w0) (hcb : CoefB w0) :
   Calls Tryz.prog 26 #[.pointer (some ⟨gt, 0, none⟩), .int .i64 3, .slice p key.length c] w0 fun e w' => ∃ v L, e = .returned (.tuple #[v, .int .i64 0]) ∧ Own w0 w' L ∧ Keeps L (TabR gt gb) (SchR 3 key v) ∧ ∃ T x, v = .iface T x := by
 have hm := Own.start w0
 have EN := Lib.hid (ext_ok gt gb key p c w0 h0 h1 hc hr hcb ht.1)
 have KE := Lib.hid fun (gi : Nat) (L : List Blk) (h : Has L ⟨gi, 119, kcells gt (keyOf key)⟩) => (show Keeps L (TabR gt gb) (SchR 3 key (.iface 92 (.agg #[.pointer (some ⟨gi, 0, none⟩)]))) from (fun wx h1 h2 => ⟨gi, .inr (.inr ⟨rfl, rfl, keyOf_ok key, gt, gb, h1 _ h.mem, h2.1⟩)⟩))
 obtain ⟨TL, hTL⟩ : ∃ x, x = key.length := ⟨_, rfl⟩
 skip
 rw [← hTL] at EN ⊢
 clear hr ht hcb hc hTL
 go_enter Tryz.func26, Tryz.ntmps26
 go_wp2_with fail
 refine (EN.out).mono ?_
 rintro e_ w ⟨gi, rfl, hg, hrow, hx⟩
 replace hm := hm.push hx hg hrow
 clear hx hg hrow
 go_wp2_with fail
 go_ret2
 exact ⟨_, _, rfl, hm, KE.out gi _ .hd, _, _, rfl⟩
theorem schemed_any (al : Int) (gt gb : Nat) (key : List Byte) (hk : SchOk al key) (p : Option Addr) (c : Nat) (hc : key.length ≤ c) (w0 : World) (hr : RdB w0 p key) (ht : TabR gt gb w0) (hcb : CoefB w0) :
   Calls Tryz.prog 26 #[.pointer (some ⟨gt, 0, none⟩), .int .i64 al, .slice p key.length c] w0 fun e w' => ∃ T x L, e = .returned (.tuple #[.iface T x, .int .i64 0]) ∧ Own w0 w' L ∧ Keeps L (TabR gt gb) (SchR al key (.iface T x)) := by
 have F : ∀ {e : Ending} {w' : World}, (∃ v L, e = .returned (.tuple #[v, .int .i64 0]) ∧ Own w0 w' L ∧ Keeps L (TabR gt gb) (SchR al key v) ∧ ∃ T x, v = .iface T x) → ∃ T x L, e = .returned (.tuple #[.iface T x, .int .i64 0]) ∧ Own w0 w' L ∧ Keeps L (TabR gt gb) (SchR al key (.iface T x)) := by
   rintro e w' ⟨v, L, h1, h2, h3, T, x, rfl⟩; exact ⟨T, x, L, h1, h2, h3⟩
 obtain ⟨rfl, h1⟩ | ⟨rfl, h1⟩ | ⟨rfl, h1, h2⟩ := hk
 · exact (schemed1_any gt gb key h1 p c hc w0 hr ht hcb).mono fun e w' ⟨v, L, h1, h2, h3, h4⟩ => F ⟨v, L, h1, h2, h3, h4⟩
 · exact (schemed2_any gt gb key h1 p c hc w0 hr ht hcb).mono fun e w' ⟨v, L, h1, h2, h3, h4⟩ => F ⟨v, L, h1, h2, h3, h4⟩
 · exact (schemed3_any gt gb key h1 h2 p c hc w0 hr ht hcb).mono fun e w' ⟨v, L, h1, h2, h3, h4⟩ => F ⟨v, L, h1, h2, h3, h4⟩
theorem build_wc (al : Int) (T : TypeId) (x : Value) (w : World) : (Instr.build 72 #[(0, .int .i64 al), (1, .iface T x)]).run Tryz.prog w = .ok (.agg ([.int .i64 al, .iface T x] : List Value).toArray) w := by kernel_rfl
set_option maxHeartbeats 2000000 in
theorem wnew_any (al : Int) (gt gb : Nat) (key : List Byte) (hk : SchOk al key) (p : Option Addr) (c : Nat) (hc : key.length ≤ c) (w0 : World) (hr : RdB w0 p key) (ht : TabR gt gb w0) (hcb : CoefB w0) :
   Calls Tryz.prog 16 #[.pointer (some ⟨gt, 0, none⟩), .int .i64 al, .slice p key.length c] w0 fun e w' => ∃ g L, e = .returned (.tuple #[.pointer (some ⟨g, 0, none⟩), .int .i64 0]) ∧ w0.heap.size ≤ g ∧ Own w0 w' L ∧ Keeps L (TabR gt gb) (fun wx => CipR wx g al key) := by
 have EN := Lib.hid (schemed_any al gt gb key hk p c hc w0 hr ht hcb)
 have BB := Lib.hid (build_wc al)
 have KE := Lib.hid fun (g : Nat) (L : List Blk) (T : TypeId) (x : Value) (h : Keeps L (TabR gt gb) (SchR al key (.iface T x))) => (show Keeps (⟨g, 72, [.int .i64 al, .iface T x]⟩ :: L) (TabR gt gb) (fun wx => CipR wx g al key) from fun wx h1 h2 => (h wx (fun b hb => h1 b (List.mem_cons_of_mem _ hb)) h2).cip (h1 _ List.mem_cons_self))
 obtain ⟨TL, hTL⟩ : ∃ x, x = key.length := ⟨_, rfl⟩
 rw [← hTL] at EN ⊢
 clear hr ht hcb hc hTL hk
 go_enter Tryz.func16, Tryz.ntmps16
 go_wp2_with fail
 refine (EN.out).mono ?_
 rintro e_ w ⟨T, x, L, rfl, hm, hk1⟩
 go_wp2_with (first | ((with_reducible apply wq_build2 (BB.out T x)); exact rfl; exact rfl; exact rfl) | ((with_reducible apply wq_boxN (cs := [.int .i64 al, .iface T x]) hm); exact rfl; exact rfl; clear hm; intro gw w hm))
 go_ret2
 have := hm.base .hd
 exact ⟨_, _, rfl, this, hm, KE.out _ _ _ _ hk1⟩
end Go.Proofs.YtdmgchdhilcncaaGreatDoor
