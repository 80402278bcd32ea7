/-
  Layer 19: the statement that it is rounds of two halves. Conditions: the program's variables lie as its text lays them.
-/
import Derived.Test.YtmgopjeaehmbfaaDoorLawT5
import Derived.Test.YtmgopjeaehmbfaaDoorRegQ
namespace Go.Proofs.YtmgopjeaehmbfaaDoor
open Go Go.RowKit
set_option maxRecDepth 100000
set_option linter.unusedVariables false
set_option linter.unusedSimpArgs false

/-- An own slice made of none, with two appends, in a region that draws its order. -/
def X3 (w0 : World) (R : List Blk) (e : TypeId) (sz n1 : Nat) (cs1 : List Value) (n2 : Nat) (cs2 : List Value) : Option Value → Option Value → Option Value → World → Prop
  | none, none, none, w => Own w0 w R
  | some v, none, none, w => SlAt w0 R e sz v 0 [] w
  | some _, some v, none, w => SlAt w0 R e sz v n1 cs1 w
  | some _, some _, some v, w => SlAt w0 R e sz v n2 cs2 w
  | _, _, _, _ => False
section
variable {w0 w w' : World} {R M : List Blk} {e : TypeId} {sz n1 n2 : Nat} {cs1 cs2 : List Value} {a b c : Option Value} {u v x : Value}
theorem X3.ext (h : X3 w0 R e sz n1 cs1 n2 cs2 a b c w) (hx : Ext w w') : X3 w0 R e sz n1 cs1 n2 cs2 a b c w' := by
  cases a <;> cases b <;> cases c <;> first | exact Own.ext h hx | exact SlAt.ext h hx | exact h
theorem X3.low (h : X3 w0 R e sz n1 cs1 n2 cs2 a b c w) : Own w0 w R := by
  cases a <;> cases b <;> cases c <;> first | exact h | exact SlAt.low h | exact h.elim
theorem X3.at0 (h : X3 w0 R e sz n1 cs1 n2 cs2 none b c w) : b = none ∧ c = none ∧ Own w0 w R := by
  cases b <;> cases c <;> first | exact ⟨rfl, rfl, h⟩ | exact h.elim
theorem X3.at1 (h : X3 w0 R e sz n1 cs1 n2 cs2 (some v) none c w) : c = none ∧ SlAt w0 R e sz v 0 [] w := by
  cases c
  · exact ⟨rfl, h⟩
  · exact h.elim
theorem X3.at2 (h : X3 w0 R e sz n1 cs1 n2 cs2 a (some v) none w) : ∃ u, a = some u ∧ SlAt w0 R e sz v n1 cs1 w := by
  cases a
  · exact h.elim
  · exact ⟨_, rfl, h⟩
theorem X3.at3 (h : X3 w0 R e sz n1 cs1 n2 cs2 a b (some v) w) : ∃ u x, a = some u ∧ b = some x ∧ SlAt w0 R e sz v n2 cs2 w := by
  cases a <;> cases b <;> first | exact ⟨_, _, rfl, rfl, h⟩ | exact h.elim
def JA3 (w0 : World) (R : List Blk) (e : TypeId) (sz n1 : Nat) (cs1 : List Value) (n2 : Nat) (cs2 : List Value) : Marks :=
  Marks.of (fun s w => ∃ a b c, s = [a, b, c] ∧ X3 w0 R e sz n1 cs1 n2 cs2 a b c w) fun _ _ _ ⟨a, b, c, e, h⟩ hx => ⟨a, b, c, e, h.ext hx⟩
theorem X3.j0 (hm : Own w0 w (⟨n1, e, []⟩ :: R)) (hs : SlO [⟨n1, e, []⟩] e sz v 0 []) {k1 : Nat} {c1 : List Value} : (JA3 w0 R e sz k1 c1 n2 cs2).J (([none, none, none] : List (Option Value)).set 0 (some v)) w := ⟨some v, none, none, rfl, _, hm, hs⟩
theorem X3.j1 (hm : Own w0 w (M ++ R)) (hs : SlO M e sz v n1 cs1) : (JA3 w0 R e sz n1 cs1 n2 cs2).J (([some u, none, none] : List (Option Value)).set 1 (some v)) w := ⟨some u, some v, none, rfl, M, hm, hs⟩
theorem X3.j2 (hm : Own w0 w (M ++ R)) (hs : SlO M e sz v n2 cs2) : (JA3 w0 R e sz n1 cs1 n2 cs2).J (([some u, some x, none] : List (Option Value)).set 2 (some v)) w := ⟨some u, some x, some v, rfl, M, hm, hs⟩
end
theorem some3 {a b c : Option Value} (h : ∀ i, i < 3 → ∃ x, ([a, b, c] : List (Option Value))[i]? = some (some x)) : ∃ p q r, a = some p ∧ b = some q ∧ c = some r := by
  obtain ⟨p, hp⟩ := h 0 (by omega)
  obtain ⟨q, hq⟩ := h 1 (by omega)
  obtain ⟨r, hr⟩ := h 2 (by omega)
  simp at hp hq hr
  exact ⟨p, q, r, hp, hq, hr⟩
/-- What a call brings behind all three marks. -/
def JoiP (n : Nat) (C : List Byte) : PSlot := fun v vs w => (∃ a b c, vs = [some a, some b, some c]) ∧ ∃ g, v = .slice (some ⟨g, 0, none⟩) n n ∧ RdB w (some ⟨g, 0, none⟩) C
theorem JoiP.stable {Sp : List (Option Value) → Nat → Value → World → World → Prop} (n : Nat) (C : List Byte) : PStable Sp (JoiP n C) where
  ext := fun _ _ _ _ ⟨h1, g, h2, h4⟩ hx => ⟨h1, g, h2, h4.ext hx⟩
  mark := fun v vs i x w w' ⟨⟨a, b, c, e⟩, _⟩ hn _ => by subst e; rcases i with _ | _ | _ | i <;> simp at hn
theorem pmk2 {x p : Value} {q r : Option Value} {l : List (Option Value)} {w : World} (h : PMk 2 x (q :: r :: some p :: l) w) : p = x := by simpa [PMk] using h

set_option maxHeartbeats 8000000 in
theorem tsteady_walk (key : List Byte) (p : Option Addr) (c : Nat) (ls : List (List Byte)) (q : Option Addr) (d : Nat) (m : List Byte) (r : Option Addr) (f : Nat) (back : Bool) (w0 : World) (hk : RdB w0 p key) (hkc : key.length ≤ c) (hkm : key.length ≤ maxLen) (hl : RdR w0 q ls) (hld : ls.length ≤ d) (hlm : ls.length ≤ maxLen) (hr : RdB w0 r m) (hrf : m.length ≤ f) (hrm : m.length ≤ maxLen) (hc : Coef w0 ∧ CoefB w0) :
    Calls Tryd.prog 17 #[.agg (textC p key.length c q ls.length d r m.length f back).toArray] w0 fun e w' => e = .returned (.bool true) ∧ Ext w0 w' := by
  have hm := Own.start w0
  have HC := Lib.hid hc.1
  have HB := Lib.hid hc.2
  have HK := Lib.hid hk
  have HL := Lib.hid hl
  have HM := Lib.hid hr
  have TR := Lib.hid fun (w : World) (h : Ext w0 w) => tright_any key p c ls q d r m.length f back w hlm (hl.ext h)
  have KO := Lib.hid fun (h : rightL key = true) (w : World) (h1 : RdB w p key) (h2 : Coef w) (h3 : CoefB w) => keys19_ok key p c w h hkc h1 h2 h3
  have AW := Lib.hid fun (w : World) (h : Ext w0 w) => awake19 w ⟨hc.1.ext h, hc.2.ext h⟩
  have OKK := Lib.hid (keyOf_ok key)
  clear hc hk hl hr
  generalize keyOf key = K at *
  by_cases hR : rightT key ls m.length = true
  · rw [hR] at TR
    obtain ⟨hK, f1, f2, f3⟩ := rightT_out hR
    have KO := Lib.hid (KO.out hK)
    by_cases h0 : m.length = 0
    · have a1 : ((m.length : Int) == 0) = true := by rw [h0]; rfl
      have a2 : (m.length : Int) = 0 := by omega
      have H0 := Lib.hid h0
      clear h0
      go_enter Tryd.func17, Tryd.ntmps17
      go_wp2_with (first | (go_at_call 39; (with_reducible refine (TR.out _ hm.x).mono ?_); rintro e_ w ⟨rfl, hx_⟩; replace hm := hm.ext hx_; clear hx_) | ((with_reducible show wpList _ _ _ (Oper.mk _ (Op.load _ _) _ _ _ _ :: _) _ _); first | ((with_reducible apply wq_ldW hm); (exact rfl); infer_instance; (exact rfl); (focus ((repeat (first | exact .hd | assumption | apply Has.tl | apply Has.app)); done)); (focus (first | rfl | omega | (simp; done) | (simp; omega) | fail))) | ((with_reducible apply wq_ld1 hm); (exact rfl); infer_instance; (exact rfl); (focus ((repeat (first | exact .hd | assumption | apply Has.tl | apply Has.app)); done)); (exact rfl)) | fail) | ((first | ((with_reducible show wpList _ _ _ (Oper.mk _ (Op.box _ _) _ _ _ _ :: _) _ _); first | ((with_reducible apply wq_boxN hm); (exact rfl); (exact rfl)) | fail)); clear hm; (first | (have hx_ := g1; clear hx_; (first | (have hx_ := g2; clear hx_; (first | (have hx_ := g3; clear hx_; (first | (have hx_ := g4; clear hx_; (first | (have hx_ := g5; clear hx_; (first | (have hx_ := g6; clear hx_; (first | (have hx_ := g7; clear hx_; (first | (have hx_ := g8; clear hx_; (first | (have hx_ := g9; clear hx_; intro g10) | intro g9)) | intro g8)) | intro g7)) | intro g6)) | intro g5)) | intro g4)) | intro g3)) | intro g2)) | intro g1); intro w hm) | fail)
      go_ret
      exact ⟨rfl, hm.x⟩
    · have a1 : ((m.length : Int) == 0) = false := by rw [beq_eq_false_iff_ne]; omega
      have a2 : ¬ (m.length : Int) = 0 := by omega
      by_cases h31 : 31 < m.length
      · have a3 : decide ((31 : Int) < (m.length : Int)) = true := decide_eq_true (by omega)
        have a4 : (31 : Int) < (m.length : Int) := by omega
        have a5 : decide ((m.length : Int) > 31) = true := decide_eq_true (by omega)
        go_enter Tryd.func17, Tryd.ntmps17
        go_wp2_with (first | (go_at_call 39; (with_reducible refine (TR.out _ hm.x).mono ?_); rintro e_ w ⟨rfl, hx_⟩; replace hm := hm.ext hx_; clear hx_) | ((with_reducible show wpList _ _ _ (Oper.mk _ (Op.load _ _) _ _ _ _ :: _) _ _); first | ((with_reducible apply wq_ldW hm); (exact rfl); infer_instance; (exact rfl); (focus ((repeat (first | exact .hd | assumption | apply Has.tl | apply Has.app)); done)); (focus (first | rfl | omega | (simp; done) | (simp; omega) | fail))) | ((with_reducible apply wq_ld1 hm); (exact rfl); infer_instance; (exact rfl); (focus ((repeat (first | exact .hd | assumption | apply Has.tl | apply Has.app)); done)); (exact rfl)) | fail) | ((first | ((with_reducible show wpList _ _ _ (Oper.mk _ (Op.box _ _) _ _ _ _ :: _) _ _); first | ((with_reducible apply wq_boxN hm); (exact rfl); (exact rfl)) | fail)); clear hm; (first | (have hx_ := g1; clear hx_; (first | (have hx_ := g2; clear hx_; (first | (have hx_ := g3; clear hx_; (first | (have hx_ := g4; clear hx_; (first | (have hx_ := g5; clear hx_; (first | (have hx_ := g6; clear hx_; (first | (have hx_ := g7; clear hx_; (first | (have hx_ := g8; clear hx_; (first | (have hx_ := g9; clear hx_; intro g10) | intro g9)) | intro g8)) | intro g7)) | intro g6)) | intro g5)) | intro g4)) | intro g3)) | intro g2)) | intro g1); intro w hm) | fail)
        go_ret
        exact ⟨rfl, hm.x⟩
      · have a3 : decide ((31 : Int) < (m.length : Int)) = false := decide_eq_false (by omega)
        have a4 : ¬ (31 : Int) < (m.length : Int) := by omega
        have a5 : decide ((m.length : Int) > 31) = false := decide_eq_false (by omega)
        have g3 : ∀ i, (ls.getD i []).length ≤ 70368744177000 := fun i => by have := f1 i; omega
        obtain ⟨H, hH⟩ : ∃ H, H = hashG (eZ K) ls := ⟨_, rfl⟩
        have lH : H.length = 16 := by rw [hH]; exact hashG_length _ _
        obtain ⟨n, hn⟩ : ∃ n, n = m.length := ⟨_, rfl⟩
        obtain ⟨N, hN⟩ : ∃ N, N = numN n := ⟨_, rfl⟩
        obtain ⟨R, hR2⟩ : ∃ R, R = roundsN n := ⟨_, rfl⟩
        have R8 : 8 ≤ R ∧ R ≤ 24 := by rw [hR2]; exact rounds_le n (by omega) (by omega)
        obtain ⟨RT, hRT⟩ : ∃ RT, RT = rndsT (stepL (eZ K) H N) (ordN false R) (pairT m) := ⟨_, rfl⟩
        have HTW := Lib.hid fun k => show TwoN n (RT k) from by rw [hRT, hn]; exact rndsT_two _ (stepL_length (eZ K) H N) (stepL_ok (eZ K) H N) _ _ _ (pairT_two m) k
        have HST := Lib.hid fun k => show RT (k + 1) = ((RT k).2, xorL (RT k).1 (stepL (eZ K) H N k (RT k).2)) from by rw [hRT]; rfl
        have H00 := Lib.hid (show RT 0 = (halvesL m 0 n, halvesL m n n) from by rw [hRT, hn]; rfl)
        obtain ⟨J, hJ⟩ : ∃ J, J = joinN ((RT R).2 ++ (RT R).1) := ⟨_, rfl⟩
        have lJ : J.length = n := by rw [hJ, joinN_length, List.length_append, (HTW.out R).l, (HTW.out R).r]; omega
        have eT : tinyL (eZ K) (hashG (eZ K) ls) false m = flipL (eZ K) H J := by rw [hJ, hRT, hN, hR2, hn, ← hH]; rfl
        obtain ⟨Z, hZ⟩ : ∃ Z, Z = flipL (eZ K) H J := ⟨_, rfl⟩
        have lZ : Z.length = n := by rw [hZ, flipL_length]; exact lJ
        rw [← hZ] at eT
        have RC := Lib.hid fun w => show Calls Tryd.prog 45 #[.int .i64 (n : Int)] w fun e w' => e = .returned (.int .i64 (R : Int)) ∧ w' = w from by rw [hR2, ← roundsI_nat]; exact rounds_any (n : Int) w
        have SC := Lib.hid fun (w : World) (g : Nat) (r : List Byte) (gr : Nat) (j : Nat) (h : KeyR w g K) (lr : r.length = n) (hj : j ≤ 9223372036854775807) (hr : RdB w (some ⟨gr, 0, none⟩) r) => show Calls Tryd.prog 47 #[.pointer (some ⟨g, 0, none⟩), A8 H, .int .i64 N, .int .i64 (j : Int), .slice (some ⟨gr, 0, none⟩) n n] w fun e w' => ∃ k, e = .returned (.slice (some ⟨k, 0, none⟩) n n) ∧ RdB w' (some ⟨k, 0, none⟩) (stepL (eZ K) H N j r) ∧ Ext w w' from by
          have N0 : 0 ≤ N ∧ N ≤ 9 := by rw [hN]; unfold numN; split <;> omega
          have := step_new g (eZ K) (eZ_length K) H lH N N0.1 (by omega) j hj r (some ⟨gr, 0, none⟩) n (by omega) w hr (fun wx hx j m x e1 e2 e3 => (h.ext hx).e j m x e1 e2 e3)
          rw [lr] at this
          exact this.mono fun e w' ⟨k, e1, e2⟩ => ⟨k, e1, e2.rdB .hd, e2.x⟩
        have XC := Lib.hid fun (w : World) (a b : List Byte) (ga gb : Nat) (la : a.length = n) (lb : b.length = n) (ha : RdB w (some ⟨ga, 0, none⟩) a) (hb : RdB w (some ⟨gb, 0, none⟩) b) => show GivesR Tryd.prog 46 #[.slice (some ⟨ga, 0, none⟩) n n, .slice (some ⟨gb, 0, none⟩) n n] w (XorT 0 n (xorL a b)) from by
          have := xor_newT 0 a b (some ⟨ga, 0, none⟩) (some ⟨gb, 0, none⟩) n n w ha hb (by omega) (by omega) (Nat.zero_le _)
          rw [la, lb, show (xorL a b).length = n by rw [xorL_length, la, lb, Nat.min_self]] at this
          exact this
        have FC := Lib.hid fun (w : World) (g : Nat) (a : List Byte) (p : Option Addr) (c : Nat) (h : KeyR w g K) (la : a.length = n) (ha : RdB w p a) => show GivesR Tryd.prog 43 #[.pointer (some ⟨g, 0, none⟩), A8 H, .slice p n c] w (BytesS (flipL (eZ K) H a)) from by
          have := flip_any g (eZ K) (eZ_length K) H lH a p c (by omega) w ha (fun wx hx j m x e1 e2 e3 => (h.ext hx).e j m x e1 e2 e3)
          rwa [la] at this
        have FCJ := Lib.hid fun (w : World) (g : Nat) (p : Option Addr) (c : Nat) (h : KeyR w g K) (ha : RdB w p J) => hZ ▸ FC.out w g J p c h lJ ha
        obtain ⟨f1', f2', _, _⟩ := fl_tiny_at m.length (by omega)
        have cv := conv_if f2'.of
        rw [← hn] at cv
        have C1 := Lib.hid fun w (hx : Ext w0 w) => show Calls Tryd.prog 44 #[.slice r n f, .complex .f64 0 (flv n)] w fun e w' => ∃ g, e = .returned (.tuple #[.slice (some ⟨g, 0, none⟩) n n, .bool true]) ∧ Own w w' [⟨g, 5, (halvesL m 0 n).map v8⟩] from by
          have := halves_new m r f _ 0 _ m.length _ f1' f2' (by omega) (by omega) w (HM.out.ext hx)
          rwa [fl0, ← hn] at this
        have C2 := Lib.hid fun w (hx : Ext w0 w) => show Calls Tryd.prog 44 #[.slice r n f, .complex .f64 (flv n) (flv n)] w fun e w' => ∃ g, e = .returned (.tuple #[.slice (some ⟨g, 0, none⟩) n n, .bool true]) ∧ Own w w' [⟨g, 5, (halvesL m n n).map v8⟩] from by
          have := halves_new m r f _ m.length _ m.length _ f2' f2' (by omega) (by omega) w (HM.out.ext hx)
          rwa [← hn] at this
        have JC := Lib.hid fun (w : World) p2 c2 (h : RdB w p2 ((RT R).2 ++ (RT R).1)) => show Calls Tryd.prog 48 #[.slice p2 (n + n) c2] w fun e w' => ∃ g, e = .returned (.slice (some ⟨g, 0, none⟩) n n) ∧ Own w w' [⟨g, 5, J.map v8⟩] from by
          have l2 : ((RT R).2 ++ (RT R).1).length = n + n := by rw [List.length_append, (HTW.out R).l, (HTW.out R).r]
          have hl2 : (((RT R).2 ++ (RT R).1).length + 1) / 2 = n := by rw [l2]; omega
          have := join_new ((RT R).2 ++ (RT R).1) p2 c2 (by omega) w h
          rw [hl2, ← hJ, l2] at this
          exact this
        have T1 := Lib.hid fun (w : World) (g : Nat) (h : KeyR w g K) (hq : RdR w q ls) (hr : RdB w r m) => show Calls Tryd.prog 41 #[.pointer (some ⟨g, 0, none⟩), .slice q ls.length d, .slice r n f, .bool false] w fun e w' => ∃ px cx, e = .returned (.tuple #[.slice px n cx, .int .i64 0]) ∧ n ≤ cx ∧ RdB w' px Z ∧ Ext w w' from by
          have := tturn_any g (eZ K) (eZ_length K) ls q d m r f false w hq hld (by omega) g3 hr hrf (by omega) (by omega) (fun wx hx j m x e1 e2 e3 => (h.ext hx).e j m x e1 e2 e3)
          rwa [eT, ← hn] at this
        have G1 := Lib.hid fun (w : World) (g : Nat) (h : KeyR w g K) (h' : RdR w q ls) => hH ▸ hhash_any (.pointer (some ⟨g, 0, none⟩)) rfl rfl (eZ K) (eZ_length K) ls q d w h' hld (by omega) g3 (fun wx hx j m x e1 e2 e3 => (h.ext hx).e j m x e1 e2 e3)
        have S1 := Lib.hid fun w px cx (h : RdB w px Z) => show (convert 22 9 (.slice px n cx)).run Tryd.prog w = .ok (.string (bstr Z)) w from lZ ▸ conv_str px Z cx w h
        have HN := Lib.hid hN
        have HZL := Lib.hid lZ
        rw [← hn] at TR a1 a2 a3 a4 a5 h0 h31 ⊢
        clear eT hZ lZ hH hRT hR2 hJ hN hn g3 f1 FC f1' f2'
        generalize flv n = b at *
        have hcase : (decide ((16 : Int) ≤ (n : Int)) = false ∧ ¬ (16 : Int) ≤ (n : Int) ∧ decide ((n : Int) ≥ 16) = false ∧ N = 7) ∨ (decide ((16 : Int) ≤ (n : Int)) = true ∧ (16 : Int) ≤ (n : Int) ∧ decide ((n : Int) ≥ 16) = true ∧ N = 6) := by
          rw [HN.out]
          by_cases h16 : n < 16
          · exact .inl ⟨decide_eq_false (by omega), by omega, decide_eq_false (by omega), if_pos h16⟩
          · exact .inr ⟨decide_eq_true (by omega), by omega, decide_eq_true (by omega), if_neg h16⟩
        clear HN
        rcases hcase with ⟨b1, b2, b3, rfl⟩ | ⟨b1, b2, b3, rfl⟩
        all_goals
          go_enter Tryd.func17, Tryd.ntmps17
          go_wp2_with (first | (go_at_call 39; (with_reducible refine (TR.out _ hm.x).mono ?_); rintro e_ w ⟨rfl, hx_⟩; replace hm := hm.ext hx_; clear hx_) | ((with_reducible show wpList _ _ _ (Oper.mk _ (Op.load _ _) _ _ _ _ :: _) _ _); first | ((with_reducible apply wq_ldW hm); (exact rfl); infer_instance; (exact rfl); (focus ((repeat (first | exact .hd | assumption | apply Has.tl | apply Has.app)); done)); (focus (first | rfl | omega | (simp; done) | (simp; omega) | fail))) | ((with_reducible apply wq_ld1 hm); (exact rfl); infer_instance; (exact rfl); (focus ((repeat (first | exact .hd | assumption | apply Has.tl | apply Has.app)); done)); (exact rfl)) | fail) | ((first | ((with_reducible show wpList _ _ _ (Oper.mk _ (Op.box _ _) _ _ _ _ :: _) _ _); first | ((with_reducible apply wq_boxN hm); (exact rfl); (exact rfl)) | fail)); clear hm; (first | (have hx_ := g1; clear hx_; (first | (have hx_ := g2; clear hx_; (first | (have hx_ := g3; clear hx_; (first | (have hx_ := g4; clear hx_; (first | (have hx_ := g5; clear hx_; (first | (have hx_ := g6; clear hx_; (first | (have hx_ := g7; clear hx_; (first | (have hx_ := g8; clear hx_; (first | (have hx_ := g9; clear hx_; intro g10) | intro g9)) | intro g8)) | intro g7)) | intro g6)) | intro g5)) | intro g4)) | intro g3)) | intro g2)) | intro g1); intro w hm) | fail)
          refine (KO.out _ (HK.out.ext hm.x) (HC.out.ext hm.x) (HB.out.ext hm.x)).mono ?_
          rintro e w ⟨g, gt, gb, rfl, hg_, hgt_, hne_, hrk_, hrt_, hx_⟩
          replace hm := hm.push2 hx_ hgt_ hrt_ hg_ hrk_ hne_
          clear hx_ hg_ hgt_ hne_ hrk_ hrt_
          go_wp2_with (first | ((with_reducible show wpList _ _ _ (Oper.mk _ (Op.load _ _) _ _ _ _ :: _) _ _); first | ((with_reducible apply wq_ld1 hm); (exact rfl); infer_instance; (exact rfl); (focus ((repeat (first | exact .hd | assumption | apply Has.tl | apply Has.app)); done)); (exact rfl)) | fail) | fail)
          refine (G1.out _ g (KeyR.own (gt := gt) (gb := gb) OKK.out hm (by repeat (first | exact Has.hd | assumption | apply Has.tl | apply Has.app)) (by repeat (first | exact Has.hd | assumption | apply Has.tl | apply Has.app))) (HL.out.ext hm.x)).mono ?_
          rintro e w ⟨rfl, hx_⟩
          replace hm := hm.ext hx_
          clear hx_
          go_wp2_with (first | ((with_reducible show wpList _ _ _ (Oper.mk _ (Op.load _ _) _ _ _ _ :: _) _ _); first | ((with_reducible apply wq_ld1 hm); (exact rfl); infer_instance; (exact rfl); (focus ((repeat (first | exact .hd | assumption | apply Has.tl | apply Has.app)); done)); (exact rfl)) | fail) | ((((with_reducible show wpList _ _ _ (Oper.mk _ (Op.store _ _ _) _ _ _ _ :: _) _ _); first | ((with_reducible apply wq_stW hm); (exact rfl); infer_instance; (exact rfl); (exact rfl); (focus ((repeat (first | exact .hd | assumption | apply Swap.tl | apply Swap.app)); done)); (focus (first | rfl | omega | (simp; done) | (simp; omega) | fail)); (focus (first | rfl | omega | (simp; done) | (simp; omega) | fail)); (focus (first | exact one_map _ | (simp [one8, one32, one64]; done) | fail))) | fail)); clear hm; intro w hm) | ((first | ((with_reducible show wpList _ _ _ (Oper.mk _ (Op.alloc _) _ _ _ _ :: _) _ _); first | ((with_reducible apply wq_new hm); (exact rfl); infer_instance) | fail)); clear hm; (first | (have hx_ := g1; clear hx_; (first | (have hx_ := g2; clear hx_; (first | (have hx_ := g3; clear hx_; (first | (have hx_ := g4; clear hx_; (first | (have hx_ := g5; clear hx_; (first | (have hx_ := g6; clear hx_; (first | (have hx_ := g7; clear hx_; (first | (have hx_ := g8; clear hx_; (first | (have hx_ := g9; clear hx_; intro g10) | intro g9)) | intro g8)) | intro g7)) | intro g6)) | intro g5)) | intro g4)) | intro g3)) | intro g2)) | intro g1); intro w hm) | fail)
          refine (C1.out _ hm.x).mono ?_
          rintro e w ⟨gl, rfl, hmM⟩
          replace hm := hm.ext hmM.x
          have hrl := hmM.rdB (g := gl) (l := halvesL m 0 n) .hd
          clear hmM
          go_wp2_with (first | ((with_reducible show wpList _ _ _ (Oper.mk _ (Op.load _ _) _ _ _ _ :: _) _ _); first | ((with_reducible apply wq_ld1 hm); (exact rfl); infer_instance; (exact rfl); (focus ((repeat (first | exact .hd | assumption | apply Has.tl | apply Has.app)); done)); (exact rfl)) | fail) | fail)
          refine (C2.out _ hm.x).mono ?_
          rintro e w ⟨gr, rfl, hmM⟩
          replace hm := hm.ext hmM.x
          replace hrl := hrl.ext hmM.x
          have hrr := hmM.rdB (g := gr) (l := halvesL m n n) .hd
          clear hmM
          go_wp2_with fail
          go_loopw [8, 10, 12] (fun vl vr vj wr => ∃ k gl gr : Nat, k ≤ R ∧ vl = .slice (some ⟨gl, 0, none⟩) n n ∧ vr = .slice (some ⟨gr, 0, none⟩) n n ∧ vj = .int .i64 k ∧ RdB wr (some ⟨gl, 0, none⟩) (RT k).1 ∧ RdB wr (some ⟨gr, 0, none⟩) (RT k).2 ∧ Own w0 wr [⟨g2, 27, H.map v8⟩, ⟨g, 96, kcells gt K⟩, ⟨gt, 122, tcells gb mixT unmixT⟩, ⟨g1, 66, textC p key.length c q ls.length d r n f back⟩]) (fun _ _ j _ => R - (intOf j).toNat)
          case atStart => exact ⟨0, gl, gr, by omega, rfl, rfl, rfl, by rw [H00.out]; exact hrl, by rw [H00.out]; exact hrr, hm⟩
          case round =>
            obtain ⟨k, gl', gr', hk, rfl, rfl, rfl, hrl, hrr, hm⟩ := hrel
            have HRL := Lib.hid hrl
            have HRR := Lib.hid hrr
            clear hrl hrr
            by_cases hlt : k < R
            · have d1 : decide ((k : Int) < (R : Int)) = true := decide_eq_true (by omega)
              have d2 : (k : Int) < (R : Int) := by omega
              have ST := Lib.hid (HST.out k)
              have l1 := (HTW.out k).l
              have l2 := (HTW.out k).r
              generalize hk1 : k + 1 = k1 at *
              go_wp2_with (first | (go_at_call 45; (with_reducible refine (RC.out _).mono ?_); rintro e_ w_ ⟨rfl, rfl⟩) | ((with_reducible show wpList _ _ _ (Oper.mk _ (Op.load _ _) _ _ _ _ :: _) _ _); first | ((with_reducible apply wq_ldW hm); (exact rfl); infer_instance; (exact rfl); (focus ((repeat (first | exact .hd | assumption | apply Has.tl | apply Has.app)); done)); (focus (first | rfl | omega | (simp; done) | (simp; omega) | fail))) | fail) | fail)
              refine (SC.out _ g (RT k).2 gr' k (KeyR.own (gt := gt) (gb := gb) OKK.out hm (by repeat (first | exact Has.hd | assumption | apply Has.tl | apply Has.app)) (by repeat (first | exact Has.hd | assumption | apply Has.tl | apply Has.app))) l2 (by omega) HRR.out).mono ?_
              rintro e w ⟨gs, rfl, hrs, hx_⟩
              replace hm := hm.ext hx_
              have HRL2 := Lib.hid (HRL.out.ext hx_)
              have HRR2 := Lib.hid (HRR.out.ext hx_)
              clear hx_
              go_wp2_with fail
              refine (XC.out _ (RT k).1 _ gl' gs l1 ((stepL_length (eZ K) H _ k (RT k).2).trans l2) HRL2.out hrs).mono ?_
              rintro e w ⟨x, rfl, ⟨gx, rfl, _, rX⟩, hx_⟩
              replace hm := hm.ext hx_
              have HRR3 := Lib.hid (HRR2.out.ext hx_)
              have HRX := Lib.hid (RdB.of_row rX)
              clear hx_ hrs rX
              go_wp2_with fail
              go_roundw
              case rel => exact ⟨k1, gr', gx, by omega, rfl, rfl, by go_num, by rw [← hk1, HST.out k]; exact HRR3.out, by rw [← hk1, HST.out k]; exact HRX.out, hm⟩
              case measure => simp [intOf] <;> omega
            · obtain rfl : k = R := by omega
              have d1 : decide ((k : Int) < (k : Int)) = false := decide_eq_false (by omega)
              have l1 := (HTW.out k).l
              have l2 := (HTW.out k).r
              have LA := Lib.hid (show ((RT k).2.map v8).length = n * 1 by simp [l2])
              have LB := Lib.hid (show ((RT k).1.map v8).length = n * 1 by simp [l1])
              have EAB := Lib.hid (show ([] ++ (RT k).2.map v8) ++ (RT k).1.map v8 = ((RT k).2 ++ (RT k).1).map v8 by simp)
              have FIT := Lib.hid (show (0 + n) * (1 + 1) ≤ 140737488355328 ∧ (n + n) * (1 + 1) ≤ 140737488355328 by omega)
              have KZ := Lib.hid (KeyR.own (g := g) (gt := gt) (gb := gb) OKK.out hm (by repeat (first | exact Has.hd | assumption | apply Has.tl | apply Has.app)) (by repeat (first | exact Has.hd | assumption | apply Has.tl | apply Has.app)))
              have TX := Lib.hid (hm.row (g := g1) (by repeat (first | exact Has.hd | assumption | apply Has.tl | apply Has.app)))
              have HH := Lib.hid (hm.rdB (g := g2) (l := H) (by repeat (first | exact Has.hd | assumption | apply Has.tl | apply Has.app)))
              have hx1 := hm.x
              clear hm
              have hm := Own.start wr
              generalize hA : (RT k).2 = A at *
              generalize hB : (RT k).1 = B at *
              clear hA hB
              go_wp2_with (first | (go_at_call 45; (with_reducible refine (RC.out _).mono ?_); rintro e_ w_ ⟨rfl, rfl⟩) | fail)
              obtain ⟨wb, hwb⟩ : ∃ v, v = w_ := ⟨_, rfl⟩
              have kr := fun wx (hwx : Ext _ wx) => KZ.out.ext (hm.x.trans hwx)
              clear hwb wb
              refine pregion 8 (JA3 _ [] 5 1 n ([] ++ A.map v8) (n + n) ([] ++ A.map v8 ++ B.map v8)) [2, 4, 6] 121 (by kernel_rfl) (by kernel_rfl) rfl (⟨none, none, none, rfl, hm.ext (drew_ext _)⟩) ?_
              simp only [List.take_succ_cons, List.take_zero, List.drop_succ_cons, List.drop_zero, List.map_cons, List.map_nil]
              repeat (first
                  | (apply pwalk_is rfl rfl rfl rfl
                     · (intro vs_ wx hJ_; obtain ⟨a_, b_, c_, rfl, hX_⟩ := hJ_; have hm := hX_.low; have hwx := hm.x; (with_reducible apply gq_rdW ((fun wx hwx => HH.out.ext hwx) wx hwx)); infer_instance; (exact rfl); (focus (first | rfl | omega | (simp; done) | (simp; omega) | fail)))
                     · (simp only [Act.put, List.setIfInBounds_toArray, List.set_cons_succ, List.set_cons_zero]; rfl))
                  | (apply pwalk_mark (T := []) 0 [] rfl rfl rfl (by kernel_rfl) rfl
                     · (intro vs_ wx hJ_ hn_ hD_; simp only [pwithS]; obtain ⟨a_, b_, c_, rfl, hX_⟩ := hJ_; obtain rfl : a_ = none := (by simpa using hn_); obtain ⟨rfl, rfl, hm⟩ := hX_.at0; refine ⟨rfl, ?_⟩; (with_reducible apply wq_bs0 bs0_b hm); (exact rfl); clear hm; intro gz w_ hm; exact mark_end rfl (X3.j0 hm (slo_room0 _ _ 1))))
                  | (apply pwalk_mark (T := [(93, PMk 0)]) 1 [0] rfl rfl rfl (by kernel_rfl) rfl
                     · (intro vs_ wx hJ_ hn_ hD_; simp only [pwithS]; obtain ⟨a_, b_, c_, rfl, hX_⟩ := hJ_; obtain rfl : b_ = none := (by simpa using hn_); intro x_ hx_; obtain rfl : a_ = some x_ := (by simpa [PMk] using hx_); obtain ⟨rfl, M_, hm, hs_⟩ := hX_.at1; refine ⟨rfl, ?_⟩; refine wplO_app (M := M_) (ds := A.map v8) hm hs_ rfl rfl rfl rfl Tryd.underlying22 LA.out (cellsB (HRR.out.ext hm.x)) (one_map _) FIT.out.1 ?_; intro v_ w_ M1_ hm1_ hs1_; rw [Nat.zero_add] at hs1_; exact mark_end rfl (X3.j1 hm1_ hs1_)))
                  | (apply pwalk_mark (T := [(95, PMk 1)]) 2 [0, 1] rfl rfl rfl (by kernel_rfl) rfl
                     · (intro vs_ wx hJ_ hn_ hD_; simp only [pwithS]; obtain ⟨a_, b_, c_, rfl, hX_⟩ := hJ_; obtain rfl : c_ = none := (by simpa using hn_); intro x_ hx_; obtain rfl : b_ = some x_ := (by simpa [PMk] using hx_); obtain ⟨u_, rfl, M_, hm, hs_⟩ := hX_.at2; refine ⟨rfl, ?_⟩; refine wplO_app (M := M_) (ds := B.map v8) hm hs_ rfl rfl rfl rfl Tryd.underlying22 LB.out (cellsB (HRL.out.ext hm.x)) (one_map _) FIT.out.2 ?_; intro v_ w_ M1_ hm1_ hs1_; exact mark_end rfl (X3.j2 hm1_ hs1_)))
                  | (apply pwalk_from_some (T := [(97, PMk 2)]) (JoiP n J) 98 (JoiP.stable _ _) rfl rfl rfl rfl; (intro vs_ wx hJ_; simp only [pwithS]; intro x_ hx_; obtain ⟨a_, b_, c_, rfl, hX_⟩ := hJ_; obtain rfl : c_ = some x_ := (by simpa [PMk] using hx_); obtain ⟨u_, y_, rfl, rfl, M_, hm, hs_⟩ := hX_.at3; rw [EAB.out] at hs_; obtain ⟨ps_, cs_, rfl⟩ := hs_.form; have hr_ := (slo_bytes hs_ hm).1; have gr_ : GivesR Tryd.prog 48 #[.slice ps_ (n + n) cs_] wx (fun v w' => JoiP n J v [some u_, some y_, some (.slice ps_ (n + n) cs_)] w') := (JC.out wx ps_ cs_ hr_).mono (fun e w' ⟨g, h1, h2⟩ => ⟨_, h1, ⟨⟨_, _, _, rfl⟩, g, rfl, h2.rdB .hd⟩, h2.x⟩); refine ⟨rfl, ?_⟩; go_simp; with_reducible exact gives_callR gr_))
                  | (apply pwalk_is rfl rfl rfl rfl
                     · (intro vs_ wx hJ_; obtain ⟨a_, b_, c_, rfl, hX_⟩ := hJ_; have hm := hX_.low; have hwx := hm.x; first | ((with_reducible show gives _ _ _ (Sem.run _ (execOp _ (Oper.mk _ (Op.load _ _) _ _ _ _)) _)); first | ((with_reducible apply gq_ldv hm); infer_instance; (exact rfl); (focus ((repeat (first | exact .hd | assumption | apply Has.tl | apply Has.app)); done)); (focus (first | omega | (simp; omega) | (refine Nat.lt_of_lt_of_le (BitVec.isLt _) ?_; first | omega | (simp; done) | (simp; omega) | fail) | fail))) | ((with_reducible apply gq_ldW hm); infer_instance; (exact rfl); (focus ((repeat (first | exact .hd | assumption | apply Has.tl | apply Has.app)); done)); (focus (first | rfl | omega | (simp; done) | (simp; omega) | fail))) | ((with_reducible apply gq_ld1 hm); infer_instance; (exact rfl); (focus ((repeat (first | exact .hd | assumption | apply Has.tl | apply Has.app)); done)); (exact rfl)) | fail) | (go_simp; (try go_bits); first | exact gives_same | exact gives_skip))
                     · (simp only [Act.put, List.setIfInBounds_toArray, List.set_cons_succ, List.set_cons_zero]; rfl)))
              intro vs_ wz hJ_ hl_ hall_
              simp only [List.zip_cons_cons, List.zip_nil_right]
              repeat rw [pfin_is]
              rw [pfin_cons]; intro x93 hx93
              repeat rw [pfin_is]
              rw [pfin_cons]; intro x95 hx95
              repeat rw [pfin_is]
              rw [pfin_cons]; intro x97 hx97
              repeat rw [pfin_is]
              rw [pfin_cons]; intro x98 hx98
              repeat rw [pfin_is]
              rw [pfin_nil]
              simp only [Act.put, List.setIfInBounds_toArray, List.set_cons_succ, List.set_cons_zero]
              obtain ⟨a_, b_, c_, rfl, hX_⟩ := hJ_
              have hm2 := hX_.low
              obtain ⟨_, gj, rfl, hrj⟩ := hx98
              have HRJ := Lib.hid hrj
              clear hm hx93 hx95 hx97 hl_ hall_ hX_ hrj kr
              have hm := hm2
              clear hm2
              go_wp2_with fail
              refine (FCJ.out _ g _ _ (KZ.out.ext hm.x) HRJ.out).mono ?_
              rintro e w ⟨x, rfl, ⟨pz, cz, rfl, hcz, hrz⟩, hx_⟩
              replace hm := hm.ext hx_
              rw [HZL.out]
              have HRZ := Lib.hid hrz
              clear hx_ hrz
              have hq1 : w.cell? ⟨g1, 1, none⟩ = some (.slice q ls.length d) := row_cell (row_ext TX.out hm.x) 1
              have hq2 : w.cell? ⟨g1, 2, none⟩ = some (.slice r n f) := row_cell (row_ext TX.out hm.x) 2
              go_wp2_with fail
              clear hq1 hq2
              refine (T1.out _ g (KZ.out.ext hm.x) (HL.out.ext (hx1.trans hm.x)) (HM.out.ext (hx1.trans hm.x))).mono ?_
              rintro e w ⟨px, cx, rfl, hcx, hrx, hx_⟩
              replace hm := hm.ext hx_
              have s1 := S1.out w px cx hrx
              have s2 := S1.out w pz cz (HRZ.out.ext hx_)
              clear hx_ hrx
              go_wp2_with (first | (go_at_call 42; (with_reducible refine (AW.out _ (hx1.trans hm.x)).mono ?_); rintro e_ w ⟨rfl, hx_⟩; replace hm := hm.ext hx_; clear hx_) | fail)
              go_ret
              exact ⟨rfl, hx1.trans hm.x⟩
  · have e : rightT key ls m.length = false := by cases h : rightT key ls m.length <;> simp_all
    rw [e] at TR
    go_enter Tryd.func17, Tryd.ntmps17
    go_wp2_with (first | (go_at_call 39; (with_reducible refine (TR.out _ hm.x).mono ?_); rintro e_ w ⟨rfl, hx_⟩; replace hm := hm.ext hx_; clear hx_) | ((with_reducible show wpList _ _ _ (Oper.mk _ (Op.load _ _) _ _ _ _ :: _) _ _); first | ((with_reducible apply wq_ldW hm); (exact rfl); infer_instance; (exact rfl); (focus ((repeat (first | exact .hd | assumption | apply Has.tl | apply Has.app)); done)); (focus (first | rfl | omega | (simp; done) | (simp; omega) | fail))) | fail) | ((first | ((with_reducible show wpList _ _ _ (Oper.mk _ (Op.box _ _) _ _ _ _ :: _) _ _); first | ((with_reducible apply wq_boxN hm); (exact rfl); (exact rfl)) | fail)); clear hm; (first | (have hx_ := g1; clear hx_; (first | (have hx_ := g2; clear hx_; (first | (have hx_ := g3; clear hx_; (first | (have hx_ := g4; clear hx_; (first | (have hx_ := g5; clear hx_; (first | (have hx_ := g6; clear hx_; (first | (have hx_ := g7; clear hx_; (first | (have hx_ := g8; clear hx_; (first | (have hx_ := g9; clear hx_; intro g10) | intro g9)) | intro g8)) | intro g7)) | intro g6)) | intro g5)) | intro g4)) | intro g3)) | intro g2)) | intro g1); intro w hm) | fail)
    go_ret
    exact ⟨rfl, hm.x⟩

end Go.Proofs.YtmgopjeaehmbfaaDoor
