/-
  Layer 20: the statement on messages turned, held against the document. Conditions: the program's variables lie as its text lays them.
  What a datum tells of an array's cells: an array of numbers, of 64 bits too, and an array of arrays. No conditions.
  Layers 15 on: what the listed variables of a statement give: the first numbers, the rows and the coefficients lie as the program's text lays them. Conditions: as the rows list them.
-/
import Derived.Test.YtaijfigohlkccaaGreatDoorZCoreTurns0
import Derived.Test.YtaijfigohlkccaaGreatDoorZCoreTurns22
import Derived.Test.YtaijfigohlkccaaGreatDoorZCoreTurns31
import Derived.Test.YtaijfigohlkccaaGreatDoorZCoreTurns27
import Derived.Test.YtaijfigohlkccaaGreatDoorZCoreTurns7
import Derived.ProofKit
import Derived.LaidMore
import Derived.OpenShut
import Derived.Stop.Joined
import Derived.Test.YtaijfigohlkccaaGreatDoorRows
import Derived.Test.YtaijfigohlkccaaGreatDoorZCoreTurns10
set_option linter.unusedSimpArgs false
set_option linter.unusedVariables false
namespace Go.Proofs.YtaijfigohlkccaaGreatDoor
open Go Go.RowKit
set_option maxRecDepth 100000
theorem waysT (back : Bool) : ∃ a b : Int, (back = false ∧ a = 1 ∧ b = 2) ∨ (back = true ∧ a = 2 ∧ b = 1) := by
 cases back
 · exact ⟨1, 2, .inl ⟨rfl, rfl, rfl⟩⟩
 · exact ⟨2, 1, .inr ⟨rfl, rfl, rfl⟩⟩
set_option maxHeartbeats 16000000 in
theorem cturns_walk (key : List Byte) (p : Option Addr) (c : Nat) (ls : List (List Byte)) (q : Option Addr) (d : Nat) (m : List Byte) (r : Option Addr) (f : Nat) (back : Bool) (w0 : World) (hk : RdB w0 p key) (hkc : key.length ≤ c) (hkm : key.length ≤ maxLen) (hl : RdR w0 q ls) (hld : ls.length ≤ d) (hlm : ls.length ≤ maxLen) (hr : RdB w0 r m) (hrf : m.length ≤ f) (hrm : m.length ≤ maxLen) (hc : Coef w0 ∧ CoefB w0) :
   Calls Tryz.prog 3 #[.agg (textC p key.length c q ls.length d r m.length f back).toArray] w0 fun e w' => e = .returned (.bool true) ∧ Ext w0 w' := by
 have hm := Own.start w0
 have HC := Lib.hid hc.1
 have HB := Lib.hid hc.2
 have HK := Lib.hid hk
 have HL := Lib.hid hl
 have HM := Lib.hid hr
 have TR := Lib.hid fun (w : World) (h : Ext w0 w) => tright_any key p c ls q d r m.length f back w hlm (hl.ext h)
 have KO := Lib.hid fun (h : rightL key = true) (w : World) (h1 : RdB w p key) (h2 : Coef w) (h3 : CoefB w) => keys20_ok key p c w h hkc h1 h2 h3
 have AW := Lib.hid fun (w : World) (h : Ext w0 w) => awake20 w ⟨hc.1.ext h, hc.2.ext h⟩
 have OKK := Lib.hid (keyOf_ok key)
 have RE := Lib.hid fun (h : rightL key = true) (w : World) (h1 : RdB w p key) => rext_any key p c w (by simp [rightL] at h; omega) (by simp [rightL] at h; omega) hkc h1
 have MK := Lib.hid fun wx => rmake_any wx
 clear hc hk hl hr
 generalize keyOf key = K at *
 by_cases hR : rightT key ls m.length = true
 · rw [hR] at TR
   obtain ⟨hK, f1, f2, f3⟩ := rightT_out hR
   have KO := Lib.hid (KO.out hK)
   have RX := Lib.hid (RE.out hK)
   have lR := rkL_length OKK.out
   clear RE
   by_cases h32 : m.length < 32
   · have a1 : decide ((m.length : Int) < 32) = true := decide_eq_true (by omega)
     have a2 : (m.length : Int) < 32 := by omega
     have TE := Lib.hid fun (w : World) (g : Nat) => cturn_short g (.slice q ls.length d) r m.length f back w h32
     clear RX MK HM lR h32 hR f1
     go_enter Tryz.func3, Tryz.ntmps3
     go_wp2_with (first | (go_at_call 6; (with_reducible refine (TR.out _ hm.x).mono ?_); rintro e_ w ⟨rfl, hx_⟩; replace hm := hm.ext hx_; clear hx_) | ((with_reducible show qLd); first | ((with_reducible apply wq_ldW hm); exact rfl; infer_instance; exact rfl; (focus (repeat first | exact .hd | assumption | apply Has.tl); done); (focus (first | rfl | omega | (simp; done) | (simp; omega)))) | ((with_reducible apply wq_ld1 hm); exact rfl; infer_instance; exact rfl; (focus (repeat first | exact .hd | assumption | apply Has.tl); done); exact rfl)) | ((first | ((with_reducible show qBx); first | ((with_reducible apply wq_boxN hm); exact rfl; exact rfl))); clear hm; (first | (have hx_ := g1; clear hx_; (first | (have hx_ := g2; clear hx_; (first | (have hx_ := g3; clear hx_; intro gx_) | intro g3)) | intro g2)) | intro g1); intro w hm))
     refine (KO.out _ (HK.out.ext hm.x) (HC.out.ext hm.x) (HB.out.ext hm.x)).mono ?_
     rintro e w ⟨g, gt, gb, rfl, hg_, hgt_, hne_, hrk_, hrt_, hx_⟩
     replace hm := hm.push2 hx_ hgt_ hrt_ hg_ hrk_ hne_
     clear hx_ hg_ hgt_ hne_ hrk_ hrt_
     go_wp2_with (first | ((with_reducible show qLd); first | ((with_reducible apply wq_ld1 hm); exact rfl; infer_instance; exact rfl; (focus (repeat first | exact .hd | assumption | apply Has.tl); done); exact rfl)))
     refine (TE.out _ g).mono ?_
     rintro e w_ ⟨rfl, rfl⟩
     go_wp2_with (first | ((with_reducible show qLd); first | ((with_reducible apply wq_ld1 hm); exact rfl; infer_instance; exact rfl; (focus (repeat first | exact .hd | assumption | apply Has.tl); done); exact rfl)))
     refine (cturn_nil _ _ _ _).mono ?_
     rintro e w_ ⟨rfl, rfl⟩
     go_wp2_with (first | (go_at_call 9; (with_reducible refine (AW.out _ hm.x).mono ?_); rintro e_ w ⟨rfl, hx_⟩; replace hm := hm.ext hx_; clear hx_) | ((with_reducible show qLd); first | ((with_reducible apply wq_ld1 hm); exact rfl; infer_instance; exact rfl; (focus (repeat first | exact .hd | assumption | apply Has.tl); done); exact rfl)))
     go_ret
     exact ⟨rfl, hm.x⟩
   · have a1 : decide ((m.length : Int) < 32) = false := decide_eq_false (by omega)
     have a2 : ¬ (m.length : Int) < 32 := by omega
     obtain ⟨A, B, hab⟩ := waysT back
     have g3 : ∀ i, (ls.getD i []).length ≤ 70368744177000 := fun i => by have := f1 i; omega
     obtain ⟨D, hD⟩ : ∃ D, D = coreL (eZ K) (hashG (eZ K) ls) A B m := ⟨_, rfl⟩
     have lD : D.length = m.length := by rw [hD]; exact coreL_length _ (eZ_length K) _ _ _ m (by omega)
     have T1 := Lib.hid fun (w : World) (g : Nat) (h : KeyR w g K) (hq : RdR w q ls) (hr : RdB w r m) => show Calls Tryz.prog 8 #[.pointer (some ⟨g, 0, none⟩), .slice q ls.length d, .slice r m.length f, .bool back] w fun e w' => ∃ px cx, e = .returned (.tuple #[.slice px m.length cx, .int .i64 0]) ∧ m.length ≤ cx ∧ RdB w' px D ∧ Ext w w' from by
       rw [hD]
       exact cturn_ok g (eZ K) (eZ_length K) ls q d m r f back A B hab w hq hld (by omega) g3 hr hrf (by omega) f3 (fun wx hx j m x e1 e2 e3 => (h.ext hx).e j m x e1 e2 e3)
     have RT := Lib.hid fun (w : World) (hq : RdR w q ls) (hr : RdB w r m) => show GivesR Tryz.prog 12 #[A8 (rkL K), .slice q ls.length d, .slice r m.length f, .bool back] w (BytesS D) from by
       rw [hD]
       exact rturn_any (rkL K) lR (eZ K) (eZ_length K) ls q d m r f back A B hab w hq hld (by omega) g3 hr (by omega) f3 (fun wx _ j m x e1 e2 e3 e4 e5 => re_any K j m x e1 wx OKK.out e2 e4 e3 e5)
     have LD := Lib.hid lD
     generalize rkL K = R at *
     generalize tabs = T at *
     clear hab g3 f1 hD h32 hR lD
     go_enter Tryz.func3, Tryz.ntmps3
     go_wp2_with (first | (go_at_call 6; (with_reducible refine (TR.out _ hm.x).mono ?_); rintro e_ w ⟨rfl, hx_⟩; replace hm := hm.ext hx_; clear hx_) | ((with_reducible show qLd); first | ((with_reducible apply wq_ldW hm); exact rfl; infer_instance; exact rfl; (focus (repeat first | exact .hd | assumption | apply Has.tl); done); (focus (first | rfl | omega | (simp; done) | (simp; omega)))) | ((with_reducible apply wq_ld1 hm); exact rfl; infer_instance; exact rfl; (focus (repeat first | exact .hd | assumption | apply Has.tl); done); exact rfl)) | ((first | ((with_reducible show qBx); first | ((with_reducible apply wq_boxN hm); exact rfl; exact rfl))); clear hm; (first | (have hx_ := g1; clear hx_; (first | (have hx_ := g2; clear hx_; (first | (have hx_ := g3; clear hx_; intro gx_) | intro g3)) | intro g2)) | intro g1); intro w hm))
     refine (KO.out _ (HK.out.ext hm.x) (HC.out.ext hm.x) (HB.out.ext hm.x)).mono ?_
     rintro e w ⟨g, gt, gb, rfl, hg_, hgt_, hne_, hrk_, hrt_, hx_⟩
     replace hm := hm.push2 hx_ hgt_ hrt_ hg_ hrk_ hne_
     clear hx_ hg_ hgt_ hne_ hrk_ hrt_
     go_wp2_with (first | ((with_reducible show qLd); first | ((with_reducible apply wq_ld1 hm); exact rfl; infer_instance; exact rfl; (focus (repeat first | exact .hd | assumption | apply Has.tl); done); exact rfl)))
     refine (T1.out _ g (KeyR.own (gt := gt) (gb := gb) OKK.out hm (by repeat (first | exact Has.hd | assumption | apply Has.tl)) (by repeat (first | exact Has.hd | assumption | apply Has.tl))) (HL.out.ext hm.x) (HM.out.ext hm.x)).mono ?_
     rintro e w ⟨px, cx, rfl, hcx, hrx, hx_⟩
     replace hm := hm.ext hx_
     obtain ⟨w1, hw1⟩ : ∃ v, v = w := ⟨_, rfl⟩
     have HRX : Hid (RdB w1 px D) := Lib.hid (by rw [hw1]; exact hrx)
     have HX1 : Hid (Ext w1 w) := Lib.hid (by rw [hw1]; exact Ext.refl _)
     have HM1 : Hid (Own w0 w1 [⟨g, 100, kcells gt K⟩, ⟨gt, 105, tcells gb mixT unmixT⟩, ⟨g1, 25, textC p key.length c q ls.length d r m.length f back⟩]) := Lib.hid (by rw [hw1]; exact hm)
     clear hx_ hrx
     clear hw1
     go_wp2_with (first | ((with_reducible show qLd); first | ((with_reducible apply wq_ld1 hm); exact rfl; infer_instance; exact rfl; (focus (repeat first | exact .hd | assumption | apply Has.tl); done); exact rfl)))
     refine (cturn_nil _ _ _ _).mono ?_
     rintro e w_ ⟨rfl, rfl⟩
     go_wp2_with (first | ((with_reducible show qLd); first | ((with_reducible apply wq_ld1 hm); exact rfl; infer_instance; exact rfl; (focus (repeat first | exact .hd | assumption | apply Has.tl); done); exact rfl)))
     obtain ⟨w, rfl⟩ : ∃ w', w' = w_ := ⟨_, rfl⟩
     have hx0 := hm.x
     have HXS := Lib.hid HX1.out.size
     have c2 := fun wx (hwx : Ext _ wx) => RX.out wx (HK.out.ext (hx0.trans hwx))
     refine region_new 5 (fun w' => Ext _ w') 88 (by kernel_rfl) (by kernel_rfl) rfl (fun _ _ h k => h.trans k) (drew_ext _) ?_
     simp only [tSC, List.take_zero, dSC, List.drop_zero, List.map_cons, List.map_nil]
     repeat (first
         | (apply walk_some (NewS (w.heap.size) 39 ((zer 560).map v8)) 9 (NewS.stable _ _ _) rfl rfl rfl rfl
            · (intro wx hwx; go_simp; exact gives_new (cs := (zer 560).map v8) hwx.size))
         | (apply walk_is rfl rfl rfl
            · (intro wx hwx; first | ((with_reducible show gives _ _ _ (Sem.run _ (execOp _ (Oper.mk _ (Op.load _ _) _ _ _ _)) _)); first | ((with_reducible apply gq_ldv (hm.ext hwx)); infer_instance; exact rfl; (focus (repeat first | exact .hd | assumption | apply Has.tl); done); (focus (first | omega | (simp; omega) | (refine ltB ?_; first | omega | (simp; done) | (simp; omega))))) | ((with_reducible apply gq_ldW (hm.ext hwx)); infer_instance; exact rfl; (focus (repeat first | exact .hd | assumption | apply Has.tl); done); (focus (first | rfl | omega | (simp; done) | (simp; omega)))) | ((with_reducible apply gq_ld1 (hm.ext hwx)); infer_instance; exact rfl; (focus (repeat first | exact .hd | assumption | apply Has.tl); done); exact rfl)) | (go_simp; (try go_bits); first | exact gives_same | exact gives_skip | with_reducible exact gives_call (MK.out wx) | with_reducible exact gives_call (c2 wx hwx)))
            · (simp only [Act.put, sIB, sCS, sCZ]; rfl))
         | (apply walk_not rfl rfl rfl
            · (simp only [Act.put, sIB, sCS, sCZ]; rfl)))
     intro wz hwz
     simp only [zCC, zNR]
     repeat rw [fin_is]
     rw [fin_cons]; intro x9 hx9
     repeat rw [fin_is]
     rw [fin_nil]; intro hap
     simp only [Act.put, sIB, sCS, sCZ] at hap ⊢
     obtain ⟨g9_, rfl, hg9, hr9⟩ := hx9
     replace hm := hm.push hwz hg9 hr9
     clear hap hr9
     replace HX1 := Lib.hid (HX1.out.trans hwz)
     clear c2 hx0
     have lz5 : ((zer (n := 8) 560).map v8).length = 560 := by rw [List.length_map]; exact zer_length
     have lR5 : (R.map v8).length = 560 := by rw [List.length_map]; exact lR
     have hmB := Own.push (Own.start w1) HX1.out (Nat.le_trans HXS.out hg9) (hm.row .hd)
     clear hm HX1
     have hm := hmB
     clear hmB
     go_wp2_with (first | ((with_reducible show wpList _ _ _ (Oper.mk _ (Op.store 39 _ _) _ _ _ _ :: _) _ _); (with_reducible apply wq_stW (cs' := R.map v8) hm); exact rfl; infer_instance; exact rfl; exact rfl; (exact .hd); (exact lR5); (exact lz5); (exact one_map _); clear hm; intro w hm; (have hm2 := Own.join HM1.out hm; have HRZ := Lib.hid (HRX.out.ext hm.x); clear hm; simp only [List.cons_append, List.nil_append] at hm2; have hm := hm2; clear hm2)))
     have hx0 := hm.x
     have s1 := fun wx (hwx : Ext _ wx) => show (convert 22 9 (.slice px m.length cx)).run Tryz.prog wx = .ok (.string (bstr D)) wx from by
       have := conv_str px D cx wx (HRZ.out.ext hwx)
       rwa [LD.out] at this
     have c1 := fun wx (hwx : Ext _ wx) => RT.out wx (HL.out.ext (hx0.trans hwx)) (HM.out.ext (hx0.trans hwx))
     have rk := fun wx (hwx : Ext _ wx) => (hm.ext hwx).rdB (g := g9_) (l := R) (by repeat (first | exact Has.hd | assumption | apply Has.tl))
     refine region_at 19 (fun w' => Ext _ w') 88 (by kernel_rfl) (by kernel_rfl) rfl (fun _ _ h k => h.trans k) (drew_ext _) ?_
     simp only [tSC, List.take_zero, dSC, List.drop_zero, List.map_cons, List.map_nil]
     repeat (first
         | (apply walk_is rfl rfl rfl
            · (intro wx hwx; (with_reducible apply gq_rdW ((fun wx hwx => rk wx hwx) wx hwx)); infer_instance; exact rfl; (focus (first | rfl | omega | (simp; done) | (simp; omega))))
            · (simp only [Act.put, sIB, sCS, sCZ]; rfl))
         | (apply walk_some (BytesS D) 78 (BytesS.stable _) rfl rfl rfl rfl
            · (intro wx hwx; go_simp; with_reducible exact gives_callR (c1 wx hwx)))
         | (apply walk_from (T := [(78, BytesS (D))]) rfl rfl
            · (intro wx hwx; simp only [withS]; (rintro x ⟨p', c', rfl, hlc, hb'⟩; have hcv := conv_str p' (D) c' wx hb'); refine ⟨rfl, ?_⟩; go_simp; exact gives_same)
            · (simp only [Act.put, sIB, sCS, sCZ]; rfl))
         | (apply walk_is rfl rfl rfl
            · (intro wx hwx; first | ((with_reducible show gives _ _ _ (Sem.run _ (execOp _ (Oper.mk _ (Op.load _ _) _ _ _ _)) _)); first | ((with_reducible apply gq_ldv (hm.ext hwx)); infer_instance; exact rfl; (focus (repeat first | exact .hd | assumption | apply Has.tl); done); (focus (first | omega | (simp; omega) | (refine ltB ?_; first | omega | (simp; done) | (simp; omega))))) | ((with_reducible apply gq_ldW (hm.ext hwx)); infer_instance; exact rfl; (focus (repeat first | exact .hd | assumption | apply Has.tl); done); (focus (first | rfl | omega | (simp; done) | (simp; omega)))) | ((with_reducible apply gq_ld1 (hm.ext hwx)); infer_instance; exact rfl; (focus (repeat first | exact .hd | assumption | apply Has.tl); done); exact rfl)) | (go_simp; (try go_bits); first | exact gives_same | exact gives_skip | with_reducible exact gives_call (AW.out wx (hx0.trans hwx))))
            · (simp only [Act.put, sIB, sCS, sCZ]; rfl))
         | (apply walk_not rfl rfl rfl
            · (simp only [Act.put, sIB, sCS, sCZ]; rfl)))
     intro wz hwz
     simp only [zCC, zNR]
     repeat (first | rw [fin_is] | (rw [fin_cons]; intro _ _))
     rw [fin_nil]
     try (replace hm := hm.ext hwz)
     simp only [Act.put, sIB, sCS, sCZ]
     go_wp2_with fail
     go_ret
     exact ⟨rfl, hm.x⟩
 · have e : rightT key ls m.length = false := by cases h : rightT key ls m.length <;> simp_all
   rw [e] at TR
   go_enter Tryz.func3, Tryz.ntmps3
   go_wp2_with (first | (go_at_call 6; (with_reducible refine (TR.out _ hm.x).mono ?_); rintro e_ w ⟨rfl, hx_⟩; replace hm := hm.ext hx_; clear hx_) | ((with_reducible show qLd); first | ((with_reducible apply wq_ldW hm); exact rfl; infer_instance; exact rfl; (focus (repeat first | exact .hd | assumption | apply Has.tl); done); (focus (first | rfl | omega | (simp; done) | (simp; omega))))) | ((first | ((with_reducible show qBx); first | ((with_reducible apply wq_boxN hm); exact rfl; exact rfl))); clear hm; (first | (have hx_ := g1; clear hx_; (first | (have hx_ := g2; clear hx_; (first | (have hx_ := g3; clear hx_; intro gx_) | intro g3)) | intro g2)) | intro g1); intro w hm))
   go_ret
   exact ⟨rfl, hm.x⟩
end Go.Proofs.YtaijfigohlkccaaGreatDoor
namespace Go.Proofs.YtaijfigohlkccaaGreatDoor
open Go Go.ChangeShapes Go.WideShapes Go.ChangeAt Go.WideMaps Go.WideElems Go.RowKit
theorem cells_ints {H : Type} {enc : TypeId × Value → H} {P : Program} {w : World} {base : Nat} {spare : Nat → Bool} {held : Bool} {fuel : Nat} {t e : TypeId} {n : Nat} {k : IntKind} {cs : List Value} {ns : List Int} {q : List MemPlace}
   (ht : P.underlying t = some (.array n e)) (he : P.underlying e = some (.int k)) (hc : P.cellsOf e = 1) (hm : P.cellsOf t = n)
   (h : DataW.trod enc P w base spare held fuel t cs = some (.agg (ns.map fun i => .lit (.int k i)), q)) : cs = ns.map fun i => .int k i := by
 obtain ⟨xs, m, _, hx, hl, hn, hel⟩ := DataW.trod_array ht h
 have hx1 : ns.map (fun i => DataW.lit (H := H) (.int k i)) = xs.map (·.1) := by
   have := congrArg Prod.fst hx
   simpa using this
 have hln : ns.length = n := by have := congrArg List.length hx1; simp only [List.length_map] at this; omega
 rw [hm] at hl
 apply List.ext_getElem?
 intro i
 by_cases hi : i < n
 · have hx' := hel i hi
   rw [hc, Nat.mul_one, List.getElem?_eq_getElem (by omega)] at hx'
   obtain ⟨n0, e1, e2, _⟩ := DataW.trod_int he hx'
   have a1 : cs[i]? = some (.int k n0) := by
     have := congrArg (·[0]?) e1
     simpa [List.getElem?_take, List.getElem?_drop] using this
   have a2 := congrArg (·[i]?) hx1
   simp only [List.getElem?_map, List.getElem?_eq_getElem (show i < xs.length by omega), List.getElem?_eq_getElem (show i < ns.length by omega), Option.map_some, e2, Option.some.injEq] at a2
   injection a2 with a3
   injection a3 with _ a4
   rw [a1, List.getElem?_map, List.getElem?_eq_getElem (show i < ns.length by omega), Option.map_some, a4]
 · rw [List.getElem?_eq_none (by omega), List.getElem?_eq_none (by simp; omega)]
theorem cells_rows {H : Type} {enc : TypeId × Value → H} {P : Program} {w : World} {base : Nat} {spare : Nat → Bool} {held : Bool} {fuel : Nat} {t e b : TypeId} {n m : Nat} {k : IntKind} {cs : List Value} {rs : List (List Int)} {q : List MemPlace}
   (ht : P.underlying t = some (.array n e)) (he : P.underlying e = some (.array m b)) (hb : P.underlying b = some (.int k)) (hcb : P.cellsOf b = 1) (hce : P.cellsOf e = m)
   (h : DataW.trod enc P w base spare held fuel t cs = some (.agg (rs.map fun r => .agg (r.map fun i => .lit (.int k i))), q)) : ∀ i, i < n → (cs.drop (i * m)).take m = (rs.getD i []).map fun i => .int k i := by
 obtain ⟨xs, m', _, hx, hl, hn, hel⟩ := DataW.trod_array ht h
 have hx1 : (rs.map fun r => DataW.agg (H := H) (r.map fun i => .lit (.int k i))) = xs.map (·.1) := by
   have := congrArg Prod.fst hx
   simpa using this
 have hln : rs.length = n := by have := congrArg List.length hx1; simp only [List.length_map] at this; omega
 intro i hi
 have hx' := hel i hi
 rw [hce, List.getElem?_eq_getElem (by omega)] at hx'
 have a2 := congrArg (·[i]?) hx1
 simp only [List.getElem?_map, List.getElem?_eq_getElem (show i < xs.length by omega), List.getElem?_eq_getElem (show i < rs.length by omega), Option.map_some, Option.some.injEq] at a2
 have hx2 : xs[i] = (DataW.agg (rs[i].map fun i => .lit (.int k i)), xs[i].2) := by rw [a2]
 rw [hx2] at hx'
 rw [List.getD_eq_getElem?_getD, List.getElem?_eq_getElem (show i < rs.length by omega), Option.getD_some]
 exact cells_ints he hb hcb hce hx'
theorem gFirst : Tryz.prog.globalNamed "wringer/blake.first" = some 2 := by kernel_rfl
theorem gRows : Tryz.prog.globalNamed "wringer/blake.rows" = some 3 := by kernel_rfl
theorem tFirst : (Tryz.prog.globals[2]?).map (·.type) = some 124 := by kernel_rfl
theorem tRows : (Tryz.prog.globals[3]?).map (·.type) = some 179 := by kernel_rfl
def firstN : List Int := [7640891576956012808, 13503953896175478587, 4354685564936845355, 11912009170470909681, 5840696475078001361, 11170449401992604703, 2270897969802886507, 6620516959819538809]
def rowsN : List (List Int) := rowsL.map fun r => r.map fun x => (x.toNat : Int)
theorem firstN_v : (firstN.map fun i => Value.int .u64 i) = firstL.map v64 := rfl
theorem rowsN_v (i : Nat) (hi : i < 10) : (rowsN.getD i []).map (fun i => Value.int .u8 i) = (rowsL.getD i []).map v8 := by
 rw [rowsN, List.getD_eq_getElem?_getD, List.getElem?_map, List.getD_eq_getElem?_getD, List.getElem?_eq_getElem (by rw [rowsL_length]; exact hi)]
 simp only [Option.map_some, Option.getD_some, List.map_map]
 rfl
theorem coefB_of {W : World} {cs0 cs1 : List Value} (h0 : ∀ i, W.cell? ⟨2, i, none⟩ = cs0[i]?) (h1 : ∀ i, W.cell? ⟨3, i, none⟩ = cs1[i]?) (c0 : cs0 = firstN.map fun i => Value.int .u64 i) (c1 : ∀ i, i < 10 → (cs1.drop (i * 16)).take 16 = (rowsN.getD i []).map fun i => Value.int .u8 i) : CoefB W := by
 refine ⟨fun i hi => ?_, rowsL_each, fun _ => rfl, fun i hi => ?_⟩
 · rw [h0, c0, firstN_v, map64_at firstL (by rw [firstL_length]; exact hi)]
 · have hl := flatten_length 16 rowsL rowsL_each
   rw [rowsL_length] at hl
   have hq : i / 16 < 10 := by omega
   have hr : i % 16 < 16 := Nat.mod_lt _ (by omega)
   have e : i / 16 * 16 + i % 16 = i := by omega
   show W.cell? ((⟨3, 0, none⟩ : Addr).add i) = _
   rw [Addr.add_mid, Nat.zero_add, h1]
   have hc := congrArg (·[i % 16]?) ((c1 (i / 16) hq).trans (rowsN_v _ hq))
   simp only [List.getElem?_take, if_pos hr, List.getElem?_drop] at hc
   rw [e] at hc
   have hf := flatten_getD 16 rowsL (i / 16) (i % 16) rowsL_each (by rw [rowsL_length]; exact hq) hr
   rw [e] at hf
   have hle : ((rowsL.getD (i / 16) []).length) = 16 := by
     rw [List.getD_eq_getElem?_getD, List.getElem?_eq_getElem (by rw [rowsL_length]; exact hq)]
     exact rowsL_each _ (List.getElem_mem _)
   generalize rowsL.getD (i / 16) [] = RW at *
   rw [hc, hf, List.getElem?_map, List.getD_eq_getElem?_getD, List.getElem?_eq_getElem (show i % 16 < RW.length by omega)]
   rfl
end Go.Proofs.YtaijfigohlkccaaGreatDoor
namespace Go.Proofs.YtaijfigohlkccaaGreatDoor
open Go Go.ChangeShapes Go.WideShapes Go.ChangeAt Go.WideMaps Go.WideElems Go.RowKit
def laidA : List (String × DataW Unit) := [("wringer/blake.first", Rows.laid_wringer_blake_first), ("wringer/blake.rows", Rows.laid_wringer_blake_rows), ("wringer/turn.mixes", Rows.laid_wringer_turn_mixes), ("wringer/turn.unmixes", Rows.laid_wringer_turn_unmixes)]
theorem gMixes : Tryz.prog.globalNamed "wringer/turn.mixes" = some 0 := by kernel_rfl
theorem gUnmixes : Tryz.prog.globalNamed "wringer/turn.unmixes" = some 1 := by kernel_rfl
theorem tMixes : (Tryz.prog.globals[0]?).map (·.type) = some 107 := by kernel_rfl
theorem tUnmixes : (Tryz.prog.globals[1]?).map (·.type) = some 107 := by kernel_rfl
theorem laid_coefA {W : World} (h : laidMetH Tryz.prog laidA W) : Coef W ∧ CoefB W := by
 rw [MakeChecks.laidMetH_plain _ _ _ (by kernel_rfl)] at h
 obtain ⟨ps, ⟨g0, t0, cs0, f0, p0, q0, hg0, ht0, hv0, hd0, ⟨g1, t1, cs1, f1, p1, q1, hg1, ht1, hv1, hd1, ⟨g2, t2, cs2, f2, p2, q2, hg2, ht2, hv2, hd2, ⟨g3, t3, cs3, f3, p3, q3, hg3, ht3, hv3, hd3, _, _⟩, _⟩, _⟩, _⟩, _, _⟩ := h
 obtain rfl := Option.some.inj (gFirst.symm.trans hg0)
 obtain rfl := Option.some.inj (gRows.symm.trans hg1)
 obtain rfl := Option.some.inj (gMixes.symm.trans hg2)
 obtain rfl := Option.some.inj (gUnmixes.symm.trans hg3)
 obtain rfl := Option.some.inj (tFirst.symm.trans ht0)
 obtain rfl := Option.some.inj (tRows.symm.trans ht1)
 obtain rfl := Option.some.inj (tMixes.symm.trans ht2)
 obtain rfl := Option.some.inj (tUnmixes.symm.trans ht3)
 obtain ⟨l0⟩ := cs0
 obtain ⟨l1⟩ := cs1
 obtain ⟨l2⟩ := cs2
 obtain ⟨l3⟩ := cs3
 have c0 := cells_ints (ns := firstN) Tryz.underlying124 Tryz.underlying123 (by kernel_rfl) (by kernel_rfl) hd0
 have c1 := cells_rows (rs := rowsN) Tryz.underlying179 Tryz.underlying36 Tryz.underlying5 (by kernel_rfl) (by kernel_rfl) hd1
 have c2 := cells_ints (ns := [2, 3, 1, 1]) Tryz.underlying107 Tryz.underlying5 (by kernel_rfl) (by kernel_rfl) hd2
 have c3 := cells_ints (ns := [14, 11, 13, 9]) Tryz.underlying107 Tryz.underlying5 (by kernel_rfl) (by kernel_rfl) hd3
 refine ⟨?_, coefB_of (fun i => by have := World.var?_cell hg0 hv0 i; simpa using this) (fun i => by have := World.var?_cell hg1 hv1 i; simpa using this) c0 c1⟩
 simp only at c2 c3
 subst c2 c3
 refine ⟨⟨fun _ => rfl, fun i hi => ?_⟩, ⟨fun _ => rfl, fun i hi => ?_⟩⟩
 · show W.cell? ((⟨0, 0, none⟩ : Addr).add i) = _
   rw [Addr.add_mid, Nat.zero_add, World.var?_cell hg2 hv2 i]
   rcases (show i = 0 ∨ i = 1 ∨ i = 2 ∨ i = 3 by simp [mixesL] at hi; omega) with rfl | rfl | rfl | rfl <;> rfl
 · show W.cell? ((⟨1, 0, none⟩ : Addr).add i) = _
   rw [Addr.add_mid, Nat.zero_add, World.var?_cell hg3 hv3 i]
   rcases (show i = 0 ∨ i = 1 ∨ i = 2 ∨ i = 3 by simp [unmixesL] at hi; omega) with rfl | rfl | rfl | rfl <;> rfl
set_option maxRecDepth 100000 in
theorem door_metA (os : Os) (args : Array Value) : laidMetH Tryz.prog laidA ((World.doorLaid Tryz.prog 400 os).forCall (fun _ _ => 0) ⟨#[], args, []⟩).memory :=
 laidMetH_of_parts3 (fuel := 8) (laidMet_of_run' 8 (by kernel_rfl) (by kernel_rfl)) (by kernel_rfl) (by kernel_rfl)
end Go.Proofs.YtaijfigohlkccaaGreatDoor
