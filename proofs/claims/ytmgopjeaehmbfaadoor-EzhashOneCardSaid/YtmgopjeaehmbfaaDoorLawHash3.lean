/-
  Layer 16: the statement on one string more. Conditions: the program's variables lie as its text lays them.
-/
import Derived.Test.YtmgopjeaehmbfaaDoorLawHash1
namespace Go.Proofs.YtmgopjeaehmbfaaDoor
open Go Go.RowKit
set_option maxRecDepth 100000
set_option linter.unusedVariables false
set_option linter.unusedSimpArgs false

theorem bs0_r (w : World) : (Instr.buildSlice 40 0 #[]).run Tryd.prog w = .ok (.slice (some ⟨w.heap.size, 0, none⟩) 0 0) (w.alloc (.cells ([] : List Value).toArray 22)) := by kernel_rfl
theorem bs1_r (q : Option Addr) (n d : Nat) (w : World) : (Instr.buildSlice 40 1 #[(0, .slice q n d)]).run Tryd.prog w = .ok (.slice (some ⟨w.heap.size, 0, none⟩) 1 1) (w.alloc (.cells [.slice q n d].toArray 22)) := by kernel_rfl
instance elemR : Elem Tryd.prog 22 1 24 := Elem.of (by kernel_rfl) (by omega)
theorem slo_rows {w0 w : World} {M R : List Blk} {p : Option Addr} {n c : Nat} {e : TypeId} {us : List Value} {ls : List (List Byte)} (h : SlO M e 1 (.slice p n c) n us) (hm : Own w0 w (M ++ R)) (hl : us.length = ls.length)
    (hu : ∀ i, i < ls.length → ∃ (q : Option Addr) (d : Nat), us[i]? = some (.slice q (ls.getD i []).length d) ∧ RdB w q (ls.getD i []) ∧ (ls.getD i []).length ≤ d ∧ (ls.getD i []).length ≤ maxLen) : RdR w p ls ∧ n = ls.length ∧ n ≤ c := by
  have h1 := h.1
  rw [hl, Nat.mul_one] at h1
  obtain ⟨_, _, hv, hnc, _, h0, hcell⟩ := h.cells hm
  cases hv
  refine ⟨⟨fun hp => h0 (by omega), fun i hi => ?_⟩, h1.symm, hnc⟩
  obtain ⟨q, d, e1, e2, e3, e4⟩ := hu i hi
  obtain ⟨a, rfl, ha⟩ := hcell i _ e1
  exact ⟨q, d, ha, e2, e3, e4⟩
theorem cell1_at {w0 w : World} {L : List Blk} {g : Nat} {t : TypeId} {v : Value} (hm : Own w0 w L) (hh : Has L ⟨g, t, [v]⟩) : ∀ (j : Nat) (u : Value), ([v] : List Value)[j]? = some u → ∃ a, (some ⟨g, 0, none⟩ : Option Addr) = some a ∧ w.cell? (a.add j) = some u := by
  intro j u hj
  cases j with
  | zero =>
    simp at hj
    subst hj
    refine ⟨_, rfl, ?_⟩
    have := row_cell (hm.row hh) 0
    exact this
  | succ j => simp at hj
set_option maxHeartbeats 8000000 in
theorem one16_walk (key : List Byte) (p : Option Addr) (c : Nat) (ls : List (List Byte)) (q : Option Addr) (d : Nat) (b : List Byte) (r : Option Addr) (f : Nat) (w0 : World) (hk : RdB w0 p key) (hkc : key.length ≤ c) (hkm : key.length ≤ maxLen) (hl : RdR w0 q ls) (hld : ls.length ≤ d) (hlm : ls.length ≤ maxLen) (hb : RdB w0 r b) (hbf : b.length ≤ f) (hbm : b.length ≤ maxLen) (hc : Coef w0 ∧ CoefB w0) :
    Calls Tryd.prog 4 #[.slice p key.length c, .slice q ls.length d, .slice r b.length f] w0 fun e w' => e = .returned (.bool true) ∧ Ext w0 w' := by
  have hm := Own.start w0
  have HC := Lib.hid hc.1
  have HB := Lib.hid hc.2
  have HK := Lib.hid hk
  have HL := Lib.hid hl
  have HR := Lib.hid hb
  have CR := Lib.hid fun w => right15_any key p c w
  have FW := Lib.hid fun (w : World) (h : Ext w0 w) => few_any ls q d w hlm (hl.ext h)
  have KO := Lib.hid fun (h : rightL key = true) (w : World) (h1 : RdB w p key) (h2 : Coef w) (h3 : CoefB w) => keys16_ok key p c w h hkc h1 h2 h3
  have AW := Lib.hid fun (w : World) (h : Ext w0 w) => awake16 w ⟨hc.1.ext h, hc.2.ext h⟩
  have OKK := Lib.hid (keyOf_ok key)
  clear hc hk hb hl
  generalize keyOf key = K at *
  by_cases hR : rightL key = true
  · rw [hR] at CR
    by_cases h2 : fewB ls = true
    · rw [h2] at FW
      by_cases h3 : 100 < b.length
      · have a3 : decide ((100 : Int) < (b.length : Int)) = true := decide_eq_true (by omega)
        have a4 : (100 : Int) < (b.length : Int) := by omega
        go_enter Tryd.func4, Tryd.ntmps4
        go_wp2_with (first | (go_at_call 19; (with_reducible refine (CR.out _).mono ?_); rintro e_ w_ ⟨rfl, rfl⟩) | (go_at_call 26; (with_reducible refine (FW.out _ hm.x).mono ?_); rintro e_ w ⟨rfl, hx_⟩; replace hm := hm.ext hx_; clear hx_) | fail)
        go_ret
        exact ⟨rfl, hm.x⟩
      · have a3 : decide ((100 : Int) < (b.length : Int)) = false := decide_eq_false (by omega)
        have a4 : ¬ (100 : Int) < (b.length : Int) := by omega
        obtain ⟨f1, f2⟩ := fewB_out h2
        have hb2 : b.length ≤ 70368744177000 := by omega
        have f3 : ∀ i, (ls.getD i []).length ≤ 70368744177000 := fun i => by have := f1 i; omega
        have f4 : ∀ i, ((ls ++ [b]).getD i []).length ≤ 70368744177000 := fun i => by
          rw [List.getD_eq_getElem?_getD]
          cases hi : (ls ++ [b])[i]? with
          | none => simp
          | some x =>
            rcases List.mem_append.1 (List.mem_of_getElem? hi) with h | h
            · obtain ⟨k, hk, rfl⟩ := List.getElem_of_mem h
              have := f3 k
              rw [List.getD_eq_getElem?_getD, List.getElem?_eq_getElem hk] at this
              exact this
            · obtain rfl := List.mem_singleton.1 h; exact hb2
        have eH := hashG_one (eZ K) ls b
        have H1 := Lib.hid fun (w : World) (g : Nat) (h : KeyR w g K) (h' : RdR w q ls) => hhash_any (.pointer (some ⟨g, 0, none⟩)) rfl rfl (eZ K) (eZ_length K) ls q d w h' hld (by omega) f3 (fun wx hx j m x e1 e2 e3 => (h.ext hx).e j m x e1 e2 e3)
        have H2 := Lib.hid fun (w : World) (g : Nat) (s : Option Addr) (n cs : Nat) (h : KeyR w g K) (h' : RdR w s (ls ++ [b]) ∧ n = (ls ++ [b]).length ∧ n ≤ cs) => show Gives Tryd.prog 27 #[.pointer (some ⟨g, 0, none⟩), .slice s n cs] w (A8 (hashG (eZ K) (ls ++ [b]))) from by
          obtain ⟨h1', h2', h3'⟩ := h'
          subst h2'
          exact hhash_any (.pointer (some ⟨g, 0, none⟩)) rfl rfl (eZ K) (eZ_length K) (ls ++ [b]) s cs w h1' h3' (by simp; omega) f4 (fun wx hx j m x e1 e2 e3 => (h.ext hx).e j m x e1 e2 e3)
        have H3 := Lib.hid fun (w : World) (g : Nat) (h : KeyR w g K) (h' : RdB w r b) => hpart_any (.pointer (some ⟨g, 0, none⟩)) (eZ K ((ls.length : Int) + 3)) (eZ_length K _) ((ls.length : Int) + 3) b r f w h' hbf hb2 (fun wx hx m x e1 e2 => (h.ext hx).e _ m x e1 (by omega) e2)
        have lA := hashG_length (eZ K) ls
        have lB := partG_length (eZ K ((ls.length : Int) + 3)) b
        have PL := Lib.hid fun w => plus16_any (hashG (eZ K) ls) (partG (eZ K ((ls.length : Int) + 3)) b) lA lB w
        rw [← eH] at PL
        have lC := hashG_length (eZ K) (ls ++ [b])
        obtain ⟨us, hul, hu, ho⟩ : ∃ us : List Value, us.length = ls.length ∧ (∀ i, i < ls.length → ∃ (s : Option Addr) (e : Nat), us[i]? = some (.slice s (ls.getD i []).length e) ∧ RdB w0 s (ls.getD i []) ∧ (ls.getD i []).length ≤ e ∧ (ls.getD i []).length ≤ maxLen ∧ w0.cell? ((q.getD default).add i) = us[i]?) ∧ ∀ u ∈ us, u.oneCell' = true := by
          refine ⟨(List.range ls.length).map fun i => (w0.cell? ((q.getD default).add i)).getD undef, by simp, fun i hi => ?_, fun u hu => ?_⟩
          · obtain ⟨s, e, e1, e2, e3, e4⟩ := HL.out.2 i hi
            exact ⟨s, e, by simp [hi, e1], e2, e3, e4, by simp [hi, e1]⟩
          · obtain ⟨i, hi, rfl⟩ := List.mem_map.1 hu
            obtain ⟨s, e, e1, _⟩ := HL.out.2 i (List.mem_range.1 hi)
            rw [e1]; rfl
        have HU := Lib.hid hu
        have hcells : ∀ w : World, Ext w0 w → ∀ (j : Nat) (u : Value), us[j]? = some u → ∃ a, q = some a ∧ w.cell? (a.add j) = some u := fun w hx j u hj => by
          have hj2 : j < ls.length := by rw [← hul]; exact (List.getElem?_eq_some_iff.1 hj).1
          obtain ⟨s, e, e1, _, _, _, e5⟩ := HU.out j hj2
          obtain ⟨a, rfl⟩ := Option.isSome_iff_exists.1 (HL.out.1 (by omega))
          exact ⟨a, rfl, hx.cell (e5.trans hj)⟩
        have HCL := Lib.hid hcells
        have HO := Lib.hid ho
        have RW := Lib.hid fun (w : World) (hx : Ext w0 w) {M R : List Blk} {s : Option Addr} {n cs : Nat} (h : SlO M 22 1 (.slice s n cs) n (us ++ [.slice r b.length f])) (hm : Own w0 w (M ++ R)) => slo_rows (ls := ls ++ [b]) h hm (by simp [hul]) (fun i hi => by
          by_cases h : i < ls.length
          · obtain ⟨s, e, e1, e2, e3, e4, _⟩ := HU.out i h
            have eg : (ls ++ [b]).getD i [] = ls.getD i [] := by rw [List.getD_eq_getElem?_getD, List.getD_eq_getElem?_getD, List.getElem?_append_left h]
            rw [eg]
            exact ⟨s, e, by rw [List.getElem?_append_left (by omega)]; exact e1, e2.ext hx, e3, e4⟩
          · obtain rfl : i = ls.length := by simp at hi; omega
            have eg : (ls ++ [b]).getD ls.length [] = b := by simp
            rw [eg]
            exact ⟨r, f, by rw [List.getElem?_append_right (by omega)]; simp [hul], HR.out.ext hx, hbf, hbm⟩)
        clear hu ho hcells eH f1 f3 f4
        generalize hashG (eZ K) (ls ++ [b]) = Z at *
        generalize hashG (eZ K) ls = A at *
        generalize partG (eZ K ((ls.length : Int) + 3)) b = B at *
        go_enter Tryd.func4, Tryd.ntmps4
        go_wp2_with (first | (go_at_call 19; (with_reducible refine (CR.out _).mono ?_); rintro e_ w_ ⟨rfl, rfl⟩) | (go_at_call 26; (with_reducible refine (FW.out _ hm.x).mono ?_); rintro e_ w ⟨rfl, hx_⟩; replace hm := hm.ext hx_; clear hx_) | fail)
        refine (KO.out hR _ (HK.out.ext hm.x) (HC.out.ext hm.x) (HB.out.ext hm.x)).mono ?_
        rintro e w ⟨g, gt, gb, rfl, hg_, hgt_, hne_, hrk_, hrt_, hx_⟩
        replace hm := hm.push2 hx_ hgt_ hrt_ hg_ hrk_ hne_
        clear hx_ hg_ hgt_ hne_ hrk_ hrt_
        go_wp2_with (first | ((with_reducible apply wq_bs0 bs0_r hm); exact rfl; clear hm; intro gz w hm) | ((with_reducible show wpList _ _ _ (Oper.mk _ (Op.call _) _ _ _ _ :: _) _ _); refine wplO_app (M := [⟨gz, 22, []⟩]) (R := [⟨g, 96, kcells gt K⟩, ⟨gt, 122, tcells gb mixT unmixT⟩]) (ds := us) hm (slo_room0 gz _ 1) rfl rfl rfl rfl Tryd.underlying40 (by rw [hul, Nat.mul_one]) (HCL.out _ hm.x) HO.out (by omega) ?_; clear hm; intro v1 w M1 hm hs1; obtain ⟨p_v1, c_v1, rfl⟩ := hs1.form; simp only [Nat.zero_add, List.nil_append] at hs1 ⊢) | ((with_reducible apply wq_bs1c (bs1_r r b.length f) hm); exact rfl; exact rfl; clear hm; intro gy w hm) | ((with_reducible show wpList _ _ _ (Oper.mk _ (Op.call _) _ _ _ _ :: _) _ _); refine wplO_app (M := M1) (R := _) (ds := [.slice r b.length f]) (hm.perm (List.perm_middle.symm)) hs1 rfl rfl rfl rfl Tryd.underlying40 rfl (cell1_at (g := gy) hm (by repeat (first | exact Has.hd | assumption | apply Has.tl | apply Has.app))) (by intro u hu; rw [List.mem_singleton.1 hu]; rfl) (by omega) ?_; clear hm; intro v2 w M2 hm hs2; obtain ⟨p_v2, c_v2, rfl⟩ := hs2.form; replace hm := hm.perm (List.perm_middle)) | (go_at_call 21; (with_reducible refine (H3.out _ g (KeyR.own (gt := gt) (gb := gb) OKK.out hm (by repeat (first | exact Has.hd | assumption | apply Has.tl | apply Has.app)) (by repeat (first | exact Has.hd | assumption | apply Has.tl | apply Has.app))) (HR.out.ext hm.x)).mono ?_); rintro e_ w ⟨rfl, hx_⟩; replace hm := hm.ext hx_; clear hx_) | (go_at_call 28; (with_reducible refine (PL.out _).mono ?_); rintro e_ w ⟨rfl, hx_⟩; replace hm := hm.ext hx_; clear hx_) | (go_at_call 25; (with_reducible refine (AW.out _ hm.x).mono ?_); rintro e_ w ⟨rfl, hx_⟩; replace hm := hm.ext hx_; clear hx_) | (go_at_call 27; (with_reducible refine (H2.out _ g p_v2 _ c_v2 (KeyR.own (gt := gt) (gb := gb) OKK.out hm (by repeat (first | exact Has.hd | assumption | apply Has.tl | apply Has.app)) (by repeat (first | exact Has.hd | assumption | apply Has.tl | apply Has.app))) (RW.out _ hm.x hs2 hm.drop)).mono ?_); rintro e_ w ⟨rfl, hx_⟩; replace hm := hm.ext hx_; clear hx_) | (go_at_call 27; (with_reducible refine (H1.out _ g (KeyR.own (gt := gt) (gb := gb) OKK.out hm (by repeat (first | exact Has.hd | assumption | apply Has.tl | apply Has.app)) (by repeat (first | exact Has.hd | assumption | apply Has.tl | apply Has.app))) (HL.out.ext hm.x)).mono ?_); rintro e_ w ⟨rfl, hx_⟩; replace hm := hm.ext hx_; clear hx_) | fail)
        go_ret
        exact ⟨rfl, hm.x⟩
    · have e : fewB ls = false := by cases h : fewB ls <;> simp_all
      rw [e] at FW
      go_enter Tryd.func4, Tryd.ntmps4
      go_wp2_with (first | (go_at_call 19; (with_reducible refine (CR.out _).mono ?_); rintro e_ w_ ⟨rfl, rfl⟩) | (go_at_call 26; (with_reducible refine (FW.out _ hm.x).mono ?_); rintro e_ w ⟨rfl, hx_⟩; replace hm := hm.ext hx_; clear hx_) | fail)
      go_ret
      exact ⟨rfl, hm.x⟩
  · have e : rightL key = false := by cases h : rightL key <;> simp_all
    rw [e] at CR
    go_enter Tryd.func4, Tryd.ntmps4
    go_wp2_with (first | (go_at_call 19; (with_reducible refine (CR.out _).mono ?_); rintro e_ w_ ⟨rfl, rfl⟩) | fail)
    go_ret
    exact ⟨rfl, hm.x⟩

end Go.Proofs.YtmgopjeaehmbfaaDoor
