/-
  Layer 20, plain: a message turned one way and the other way, on lists of bytes. No program in sight, no conditions.
-/
import Derived.Test.YtmgopjeaehmbfaaDoorHashq
namespace Go.Proofs.YtmgopjeaehmbfaaDoor
open Go Go.RowKit
set_option maxRecDepth 100000
set_option linter.unusedVariables false
set_option linter.unusedSimpArgs false

theorem xor_twice (a b : List Byte) (h : a.length ≤ b.length) : xorL (xorL a b) b = a := by
  apply List.ext_getElem
  · simp [xorL_length]; omega
  · intro i h1 h2
    simp [xorL, BitVec.xor_assoc]
/-- Pieces put one behind the other. -/
def glueF (G : Nat → List Byte) : Nat → List Byte
  | 0 => []
  | k + 1 => glueF G k ++ G k
/-- The sum of blocks. -/
def sumG (G : Nat → List Byte) : Nat → List Byte
  | 0 => zer 16
  | k + 1 => bothL (sumG G k) (G k)
theorem sumG_length (G : Nat → List Byte) : ∀ n, (sumG G n).length = 16
  | 0 => zer_length
  | _ + 1 => bothL_length _ _
theorem glueF_length (G : Nat → List Byte) (hG : ∀ k, (G k).length = 32) : ∀ n, (glueF G n).length = 32 * n
  | 0 => rfl
  | n + 1 => by rw [glueF, List.length_append, glueF_length G hG n, hG]; omega
theorem glueF_ext (G H : Nat → List Byte) : ∀ n, (∀ k, k < n → G k = H k) → glueF G n = glueF H n
  | 0, _ => rfl
  | n + 1, h => by rw [glueF, glueF, glueF_ext G H n fun k hk => h k (by omega), h n (by omega)]
theorem sumG_ext (G H : Nat → List Byte) : ∀ n, (∀ k, k < n → G k = H k) → sumG G n = sumG H n
  | 0, _ => rfl
  | n + 1, h => by rw [sumG, sumG, sumG_ext G H n fun k hk => h k (by omega), h n (by omega)]
theorem glueF_at (G : Nat → List Byte) (hG : ∀ k, (G k).length = 32) (k : Nat) : ∀ n, k < n → ((glueF G n).drop (32 * k)).take 32 = G k
  | 0, h => by omega
  | n + 1, h => by
    have hl := glueF_length G hG n
    by_cases e : k = n
    · subst e
      rw [glueF, List.drop_append_of_le_length (by omega), List.drop_eq_nil_of_le (by omega), List.nil_append, List.take_of_length_le (by rw [hG]; omega)]
    · rw [glueF, List.drop_append_of_le_length (by omega), List.take_append_of_le_length (by rw [List.length_drop]; omega), glueF_at G hG k n (by omega)]
def fstB (ps : List Byte) (k : Nat) : List Byte := (ps.drop (32 * k)).take 16
def sndB (ps : List Byte) (k : Nat) : List Byte := (ps.drop (32 * k + 16)).take 16
theorem fstB_of (ps : List Byte) (k : Nat) : fstB ps k = (((ps.drop (32 * k)).take 32)).take 16 := by rw [fstB, List.take_take]; rfl
theorem sndB_of (ps : List Byte) (k : Nat) : sndB ps k = (((ps.drop (32 * k)).take 32)).drop 16 := by
  rw [sndB, List.drop_take, List.drop_drop]
theorem fst_glue (G : Nat → List Byte) (hG : ∀ k, (G k).length = 32) (k n : Nat) (h : k < n) : fstB (glueF G n) k = (G k).take 16 := by rw [fstB_of, glueF_at G hG k n h]
theorem snd_glue (G : Nat → List Byte) (hG : ∀ k, (G k).length = 32) (k n : Nat) (h : k < n) : sndB (glueF G n) k = (G k).drop 16 := by rw [sndB_of, glueF_at G hG k n h]
theorem fstB_length (ps : List Byte) (k : Nat) (h : 32 * k + 16 ≤ ps.length) : (fstB ps k).length = 16 := by rw [fstB, List.length_take, List.length_drop]; omega
theorem sndB_length (ps : List Byte) (k : Nat) (h : 32 * k + 32 ≤ ps.length) : (sndB ps k).length = 16 := by rw [sndB, List.length_take, List.length_drop]; omega
theorem glue_take (ps : List Byte) : ∀ n, 32 * n ≤ ps.length → glueF (fun k => fstB ps k ++ sndB ps k) n = ps.take (32 * n)
  | 0, _ => rfl
  | n + 1, h => by
    have e : fstB ps n ++ sndB ps n = (ps.drop (32 * n)).take 32 := by
      rw [fstB_of, sndB_of, List.take_append_drop]
    rw [glueF, glue_take ps n (by omega), e, show 32 * (n + 1) = 32 * n + 32 by omega, List.take_add]
theorem glue_all (ps : List Byte) (n : Nat) (h : ps.length = 32 * n) : glueF (fun k => fstB ps k ++ sndB ps k) n = ps := by
  rw [glue_take ps n (by omega), List.take_of_length_le (by omega)]

section
variable (F : Int → Int → List Byte → List Byte)
/-- A pair, turned for the first time. -/
def wF (ps : List Byte) (k : Nat) : List Byte := bothL (fstB ps k) (F 1 ((k : Int) + 1) (sndB ps k))
def xF (ps : List Byte) (k : Nat) : List Byte := bothL (sndB ps k) (F 0 0 (wF F ps k))
def wxF (ps : List Byte) (k : Nat) : List Byte := wF F ps k ++ xF F ps k
/-- A pair, turned for the second time. -/
def yF (z qs : List Byte) (k : Nat) : List Byte := bothL (fstB qs k) (F 2 ((k : Int) + 1) z)
def vF (z qs : List Byte) (k : Nat) : List Byte := bothL (sndB qs k) (F 2 ((k : Int) + 1) z)
def secF (z qs : List Byte) (k : Nat) : List Byte := bothL (yF F z qs k) (F 0 0 (vF F z qs k))
def firF (z qs : List Byte) (k : Nat) : List Byte := bothL (vF F z qs k) (F 1 ((k : Int) + 1) (secF F z qs k))
def fsF (z qs : List Byte) (k : Nat) : List Byte := firF F z qs k ++ secF F z qs k
theorem wF_length (ps : List Byte) (k : Nat) : (wF F ps k).length = 16 := bothL_length _ _
theorem xF_length (ps : List Byte) (k : Nat) : (xF F ps k).length = 16 := bothL_length _ _
theorem yF_length (z qs : List Byte) (k : Nat) : (yF F z qs k).length = 16 := bothL_length _ _
theorem vF_length (z qs : List Byte) (k : Nat) : (vF F z qs k).length = 16 := bothL_length _ _
theorem secF_length (z qs : List Byte) (k : Nat) : (secF F z qs k).length = 16 := bothL_length _ _
theorem firF_length (z qs : List Byte) (k : Nat) : (firF F z qs k).length = 16 := bothL_length _ _
theorem wxF_length (ps : List Byte) (k : Nat) : (wxF F ps k).length = 32 := by rw [wxF, List.length_append, wF_length, xF_length]
theorem fsF_length (z qs : List Byte) (k : Nat) : (fsF F z qs k).length = 32 := by rw [fsF, List.length_append, firF_length, secF_length]
/-- What u and v bring. -/
def tailL (u v : List Byte) : List Byte :=
  if u.length = 0 then zer 16 else if u.length = 16 then bothL (F 0 4 u) (F 0 5 (blk (v ++ [128#8]))) else F 0 4 (blk (u ++ [128#8]))
theorem tailL_length (hF : ∀ j m x, (F j m x).length = 16) (u v : List Byte) : (tailL F u v).length = 16 := by
  unfold tailL
  split
  · exact zer_length
  · split
    · exact bothL_length _ _
    · exact hF _ _ _
end
theorem app16 {a b : List Byte} (ha : a.length = 16) : (a ++ b).take 16 = a ∧ (a ++ b).drop 16 = b := by
  constructor
  · rw [List.take_append_of_le_length (by omega), List.take_of_length_le (by omega)]
  · rw [List.drop_append_of_le_length (by omega), List.drop_eq_nil_of_le (by omega), List.nil_append]
section
variable (F : Int → Int → List Byte → List Byte)
theorem fst_fs (z qs : List Byte) (k n : Nat) (h : k < n) : fstB (glueF (fsF F z qs) n) k = firF F z qs k := by
  rw [fst_glue _ (fsF_length F z qs) k n h, fsF, (app16 (firF_length F z qs k)).1]
theorem snd_fs (z qs : List Byte) (k n : Nat) (h : k < n) : sndB (glueF (fsF F z qs) n) k = secF F z qs k := by
  rw [snd_glue _ (fsF_length F z qs) k n h, fsF, (app16 (firF_length F z qs k)).2]
theorem fst_wx (ps : List Byte) (k n : Nat) (h : k < n) : fstB (glueF (wxF F ps) n) k = wF F ps k := by
  rw [fst_glue _ (wxF_length F ps) k n h, wxF, (app16 (wF_length F ps k)).1]
theorem snd_wx (ps : List Byte) (k n : Nat) (h : k < n) : sndB (glueF (wxF F ps) n) k = xF F ps k := by
  rw [snd_glue _ (wxF_length F ps) k n h, wxF, (app16 (wF_length F ps k)).2]
/-- Turned twice and once more, the other way, a pair is y and v the other way round. -/
theorem w_back (z qs : List Byte) (k n : Nat) (h : k < n) : wF F (glueF (fsF F z qs) n) k = vF F z qs k := by
  rw [wF, fst_fs F z qs k n h, snd_fs F z qs k n h, firF, both_back _ _ (vF_length F z qs k)]
theorem x_back (z qs : List Byte) (k n : Nat) (h : k < n) : xF F (glueF (fsF F z qs) n) k = yF F z qs k := by
  rw [xF, w_back F z qs k n h, snd_fs F z qs k n h, secF, both_back _ _ (yF_length F z qs k)]
section
variable (z ps : List Byte) (n : Nat)
/-- The pairs, once turned; twice; turned back once. -/
def oneP : List Byte := glueF (wxF F ps) n
def twoP : List Byte := glueF (fsF F z (oneP F ps n)) n
theorem oneP_length : (oneP F ps n).length = 32 * n := glueF_length _ (wxF_length F ps) n
theorem twoP_length : (twoP F z ps n).length = 32 * n := glueF_length _ (fsF_length F z _) n
theorem y_back (k : Nat) (h : k < n) : yF F z (oneP F (twoP F z ps n) n) k = xF F ps k := by
  rw [yF, oneP, fst_wx F _ k n h, twoP, w_back F z _ k n h, vF, both_back _ _ (by rw [oneP, snd_wx F ps k n h]; exact xF_length F ps k), oneP, snd_wx F ps k n h]
theorem v_back (k : Nat) (h : k < n) : vF F z (oneP F (twoP F z ps n) n) k = wF F ps k := by
  rw [vF, oneP, snd_wx F _ k n h, twoP, x_back F z _ k n h, yF, both_back _ _ (by rw [oneP, fst_wx F ps k n h]; exact wF_length F ps k), oneP, fst_wx F ps k n h]
theorem sec_back (k : Nat) (h : k < n) (hl : ps.length = 32 * n) : secF F z (oneP F (twoP F z ps n) n) k = sndB ps k := by
  rw [secF, y_back F z ps n k h, v_back F z ps n k h, xF, both_back _ _ (sndB_length ps k (by omega))]
theorem fir_back (k : Nat) (h : k < n) (hl : ps.length = 32 * n) : firF F z (oneP F (twoP F z ps n) n) k = fstB ps k := by
  rw [firF, sec_back F z ps n k h hl, v_back F z ps n k h, wF, both_back _ _ (fstB_length ps k (by omega))]
theorem twoP_back (hl : ps.length = 32 * n) : twoP F z (twoP F z ps n) n = ps := by
  conv => lhs; rw [twoP]
  rw [glueF_ext _ (fun k => fstB ps k ++ sndB ps k) n fun k hk => by rw [fsF, fir_back F z ps n k hk hl, sec_back F z ps n k hk hl]]
  exact glue_all ps n hl
theorem sumX_back : sumG (xF F (twoP F z ps n)) n = sumG (yF F z (oneP F ps n)) n := sumG_ext _ _ n fun k hk => by rw [twoP, x_back F z _ k n hk]
theorem sumY_back : sumG (yF F z (oneP F (twoP F z ps n) n)) n = sumG (xF F ps) n := sumG_ext _ _ n fun k hk => y_back F z ps n k hk
end
end

/-- A message's parts: its pairs; u and v; X and Y. -/
structure CoreT where
  ps : List Byte
  u : List Byte
  v : List Byte
  x : List Byte
  y : List Byte
structure CoreT.Ok (c : CoreT) (n : Nat) : Prop where
  ps : c.ps.length = 32 * n
  u : c.u.length ≤ 16
  v : c.v.length ≤ 15
  uv : c.u.length < 16 → c.v = []
  x : c.x.length = 16
  y : c.y.length = 16
section
variable (F : Int → Int → List Byte → List Byte) (h : List Byte) (a b : Int) (n : Nat) (c : CoreT)
def sT : List Byte := bothL (bothL (bothL c.x h) (bothL (sumG (xF F c.ps) n) (tailL F c.u c.v))) (F 0 a c.y)
def tT : List Byte := bothL c.y (F (-1) a (sT F h a n c))
def zT : List Byte := bothL (sT F h a n c) (tT F h a n c)
def uT : List Byte := xorL c.u (F (-1) 4 (zT F h a n c))
def vT : List Byte := xorL c.v (F (-1) 5 (zT F h a n c))
def qT : List Byte := bothL (sumG (yF F (zT F h a n c) (oneP F c.ps n)) n) (tailL F (uT F h a n c) (vT F h a n c))
def yT : List Byte := bothL (sT F h a n c) (F (-1) b (tT F h a n c))
def xT : List Byte := bothL (bothL (bothL (tT F h a n c) h) (qT F h a n c)) (F 0 b (yT F h a b n c))
/-- A message's parts, turned. -/
def coreT : CoreT := ⟨twoP F (zT F h a n c) c.ps n, uT F h a n c, vT F h a n c, xT F h a b n c, yT F h a b n c⟩
end
theorem xorq (a b : Byte) : a ^^^ (a ^^^ b) = b := by rw [← BitVec.xor_assoc, BitVec.xor_self, BitVec.zero_xor]
theorem six_back (t h q e : List Byte) (ht : t.length = 16) : bothL (bothL (bothL (bothL (bothL (bothL t h) q) e) h) q) e = t := nth_ext (by rw [bothL_length, ht]) fun i hi => by
  rw [bothL_length] at hi
  simp only [bothL_nth _ _ _ hi]
  have lc : ∀ a b c : Byte, a ^^^ (b ^^^ c) = b ^^^ (a ^^^ c) := fun a b c => by rw [← BitVec.xor_assoc, BitVec.xor_comm a b, BitVec.xor_assoc]
  generalize nth t i = T
  generalize nth h i = H
  generalize nth q i = Q
  generalize nth e i = E
  rw [BitVec.xor_assoc, BitVec.xor_assoc, BitVec.xor_assoc, BitVec.xor_assoc, BitVec.xor_assoc, lc E H, lc Q H, xorq, lc E Q, xorq, BitVec.xor_self, BitVec.xor_zero]
section
variable (F : Int → Int → List Byte → List Byte) (hF : ∀ j m x, (F j m x).length = 16) (h : List Byte) (a b : Int) (n : Nat) (c : CoreT)
theorem sT_length : (sT F h a n c).length = 16 := bothL_length _ _
theorem tT_length : (tT F h a n c).length = 16 := bothL_length _ _
theorem zT_length : (zT F h a n c).length = 16 := bothL_length _ _
include hF in
theorem uT_length (ok : c.Ok n) : (uT F h a n c).length = c.u.length := by rw [uT, xorL_length, hF]; have := ok.u; omega
include hF in
theorem vT_length (ok : c.Ok n) : (vT F h a n c).length = c.v.length := by rw [vT, xorL_length, hF]; have := ok.v; omega
include hF in
theorem coreT_ok (ok : c.Ok n) : (coreT F h a b n c).Ok n where
  ps := twoP_length F _ _ n
  u := by show (uT F h a n c).length ≤ 16; rw [uT_length F hF h a n c ok]; exact ok.u
  v := by show (vT F h a n c).length ≤ 15; rw [vT_length F hF h a n c ok]; exact ok.v
  uv := fun hh => by
    have h1 : (uT F h a n c).length < 16 := hh
    rw [uT_length F hF h a n c ok] at h1
    show vT F h a n c = []
    exact List.length_eq_zero_iff.1 (by rw [vT_length F hF h a n c ok, ok.uv h1]; rfl)
  x := bothL_length _ _
  y := bothL_length _ _
theorem sT_back : sT F h b n (coreT F h a b n c) = tT F h a n c := by
  have e : bothL (sumG (xF F (coreT F h a b n c).ps) n) (tailL F (coreT F h a b n c).u (coreT F h a b n c).v) = qT F h a n c := by
    show bothL (sumG (xF F (twoP F (zT F h a n c) c.ps n)) n) (tailL F (uT F h a n c) (vT F h a n c)) = _
    rw [sumX_back]; rfl
  rw [sT, e]
  show bothL (bothL (bothL (xT F h a b n c) h) (qT F h a n c)) (F 0 b (yT F h a b n c)) = _
  rw [xT]
  exact six_back _ h _ _ (tT_length F h a n c)
theorem tT_back : tT F h b n (coreT F h a b n c) = sT F h a n c := by
  rw [tT, sT_back]
  show bothL (yT F h a b n c) _ = _
  rw [yT, both_back _ _ (sT_length F h a n c)]
theorem zT_back : zT F h b n (coreT F h a b n c) = zT F h a n c := by rw [zT, sT_back, tT_back, both_comm]; rfl
include hF in
/-- What is turned one way and the other way is what it was. -/
theorem coreT_back (ok : c.Ok n) : coreT F h b a n (coreT F h a b n c) = c := by
  have hz := zT_back F h a b n c
  have hu : uT F h b n (coreT F h a b n c) = c.u := by
    rw [uT, hz]
    exact xor_twice c.u _ (by rw [hF]; exact ok.u)
  have hv : vT F h b n (coreT F h a b n c) = c.v := by
    rw [vT, hz]
    exact xor_twice c.v _ (by rw [hF]; have := ok.v; omega)
  have hy : yT F h b a n (coreT F h a b n c) = c.y := by
    rw [yT, sT_back, tT_back, tT, both_back _ _ ok.y]
  have hq : qT F h b n (coreT F h a b n c) = bothL (sumG (xF F c.ps) n) (tailL F c.u c.v) := by
    rw [qT, hz, hu, hv]
    show bothL (sumG (yF F (zT F h a n c) (oneP F (twoP F (zT F h a n c) c.ps n) n)) n) _ = _
    rw [sumY_back]
  have hx : xT F h b a n (coreT F h a b n c) = c.x := by
    rw [xT, tT_back, hq, hy, sT]
    exact six_back _ h _ _ ok.x
  have hp : twoP F (zT F h b n (coreT F h a b n c)) (coreT F h a b n c).ps n = c.ps := by
    rw [hz]
    exact twoP_back F _ c.ps n ok.ps
  rw [coreT, hp, hu, hv, hx, hy]
end

/-- The parts, put together; a message, cut. -/
def joinT (c : CoreT) : List Byte := c.ps ++ (c.u ++ (c.v ++ (c.x ++ c.y)))
def restM (m : List Byte) : List Byte := (m.drop (32 * ((m.length - 32) / 32))).take (m.length - 32 - 32 * ((m.length - 32) / 32))
def splitT (m : List Byte) : CoreT := ⟨m.take (32 * ((m.length - 32) / 32)), (restM m).take 16, (restM m).drop 16, (m.drop (m.length - 32)).take 16, m.drop (m.length - 16)⟩
theorem restM_length (m : List Byte) : (restM m).length = m.length - 32 - 32 * ((m.length - 32) / 32) := by rw [restM, List.length_take, List.length_drop]; omega
theorem splitT_ok (m : List Byte) (h : 32 ≤ m.length) : (splitT m).Ok ((m.length - 32) / 32) := by
  have hr := restM_length m
  constructor
  · show (m.take _).length = _; rw [List.length_take]; omega
  · show ((restM m).take 16).length ≤ 16; rw [List.length_take]; omega
  · show ((restM m).drop 16).length ≤ 15; rw [List.length_drop]; omega
  · intro h1
    have h2 : ((restM m).take 16).length < 16 := h1
    rw [List.length_take] at h2
    exact List.drop_eq_nil_of_le (by omega)
  · show ((m.drop _).take 16).length = 16; rw [List.length_take, List.length_drop]; omega
  · show (m.drop _).length = 16; rw [List.length_drop]; omega
theorem join_split (m : List Byte) (h : 32 ≤ m.length) : joinT (splitT m) = m := by
  show m.take _ ++ ((restM m).take 16 ++ ((restM m).drop 16 ++ ((m.drop (m.length - 32)).take 16 ++ m.drop (m.length - 16)))) = m
  have e1 : (m.drop (m.length - 32)).take 16 ++ m.drop (m.length - 16) = m.drop (m.length - 32) := by
    rw [show m.length - 16 = m.length - 32 + 16 by omega, ← List.drop_drop, List.take_append_drop]
  have e2 : restM m ++ m.drop (m.length - 32) = m.drop (32 * ((m.length - 32) / 32)) := by
    rw [restM]
    conv => rhs; rw [← List.take_append_drop (m.length - 32 - 32 * ((m.length - 32) / 32)) (m.drop (32 * ((m.length - 32) / 32)))]
    rw [List.drop_drop]
    congr 2
    omega
  rw [e1, ← List.append_assoc ((restM m).take 16), List.take_append_drop, e2, List.take_append_drop]
theorem join_length (c : CoreT) (n : Nat) (ok : c.Ok n) : (joinT c).length = 32 * n + (c.u.length + c.v.length) + 32 := by
  simp only [joinT, List.length_append, ok.ps, ok.x, ok.y]; omega
theorem joinT_n (c : CoreT) (n : Nat) (ok : c.Ok n) : ((joinT c).length - 32) / 32 = n := by
  rw [join_length c n ok]
  have := ok.u; have := ok.v
  omega
theorem dropA (a b : List Byte) (n : Nat) (h : a.length = n) : (a ++ b).drop n = b := by
  subst h; exact List.drop_left
theorem takeA (a b : List Byte) (n : Nat) (h : a.length = n) : (a ++ b).take n = a := by
  subst h; exact List.take_left
theorem split_join (c : CoreT) (n : Nat) (ok : c.Ok n) : splitT (joinT c) = c := by
  have hl := join_length c n ok
  have hn := joinT_n c n ok
  have hr : restM (joinT c) = c.u ++ c.v := by
    rw [restM, hn, hl]
    rw [show joinT c = c.ps ++ (c.u ++ (c.v ++ (c.x ++ c.y))) from rfl, dropA _ _ _ ok.ps, ← List.append_assoc]
    exact takeA _ _ _ (by rw [List.length_append]; omega)
  have e1 : (restM (joinT c)).take 16 = c.u := by
    rw [hr]
    by_cases h : c.u.length < 16
    · rw [ok.uv h, List.append_nil, List.take_of_length_le (by omega)]
    · exact takeA _ _ _ (by have := ok.u; omega)
  have e2 : (restM (joinT c)).drop 16 = c.v := by
    rw [hr]
    by_cases h : c.u.length < 16
    · rw [ok.uv h, List.append_nil, List.drop_eq_nil_of_le (by omega)]
    · exact dropA _ _ _ (by have := ok.u; omega)
  have e3 : (joinT c).take (32 * (((joinT c).length - 32) / 32)) = c.ps := by rw [hn]; exact takeA _ _ _ ok.ps
  have g : joinT c = ((c.ps ++ (c.u ++ c.v)) ++ c.x) ++ c.y := by simp [joinT]
  have e4 : ((joinT c).drop ((joinT c).length - 32)).take 16 = c.x := by
    rw [hl, g, List.append_assoc _ c.x c.y, dropA _ _ _ (by simp only [List.length_append, ok.ps]; omega), takeA _ _ _ ok.x]
  have e5 : (joinT c).drop ((joinT c).length - 16) = c.y := by
    rw [hl, g, dropA _ _ _ (by simp only [List.length_append, ok.ps, ok.x]; omega)]
  rw [splitT, e1, e2, e3, e4, e5]

/-- A message, turned. -/
def coreL (F : Int → Int → List Byte → List Byte) (h : List Byte) (a b : Int) (m : List Byte) : List Byte := joinT (coreT F h a b ((m.length - 32) / 32) (splitT m))
section
variable (F : Int → Int → List Byte → List Byte) (hF : ∀ j m x, (F j m x).length = 16) (h : List Byte) (a b : Int)
include hF in
theorem coreL_length (m : List Byte) (hm : 32 ≤ m.length) : (coreL F h a b m).length = m.length := by
  have ok := splitT_ok m hm
  have o2 := coreT_ok F hF h a b _ _ ok
  have h1 := join_length _ _ o2
  have h2 := join_length _ _ ok
  rw [join_split m hm] at h2
  rw [coreL, h1]
  show 32 * _ + ((uT F h a _ (splitT m)).length + (vT F h a _ (splitT m)).length) + 32 = _
  rw [uT_length F hF h a _ _ ok, vT_length F hF h a _ _ ok, ← h2]
include hF in
theorem coreL_back (m : List Byte) (hm : 32 ≤ m.length) : coreL F h b a (coreL F h a b m) = m := by
  have ok := splitT_ok m hm
  have o2 := coreT_ok F hF h a b _ _ ok
  have hl := coreL_length F hF h a b m hm
  conv => lhs; rw [coreL]
  rw [hl]
  conv => lhs; rw [coreL, split_join _ _ o2, coreT_back F hF h a b _ _ ok]
  exact join_split m hm
include hF in
theorem coreL_inj (m k : List Byte) (hm : 32 ≤ m.length) (hk : 32 ≤ k.length) : (coreL F h a b m == coreL F h a b k) = (m == k) := by
  rw [Bool.eq_iff_iff, beq_iff_eq, beq_iff_eq]
  constructor
  · intro e
    have := congrArg (coreL F h b a) e
    rwa [coreL_back F hF h a b m hm, coreL_back F hF h a b k hk] at this
  · rintro rfl; rfl
/-- Of two blocks alone it is four rounds. -/
theorem coreL_two (hh : h.length = 16) (p q : List Byte) (hp : p.length = 16) (hq : q.length = 16) :
    let s := bothL (bothL p h) (F 0 a q)
    let t := bothL q (F (-1) a s)
    let d := bothL s (F (-1) b t)
    coreL F h a b (p ++ q) = bothL (bothL t h) (F 0 b d) ++ d := by
  intro s t d
  have hl : (p ++ q).length = 32 := by rw [List.length_append, hp, hq]
  have hn : ((p ++ q).length - 32) / 32 = 0 := by rw [hl]
  have e : splitT (p ++ q) = ⟨[], [], [], p, q⟩ := by
    have hr : restM (p ++ q) = [] := List.length_eq_zero_iff.1 (by rw [restM_length, hl])
    rw [splitT, hr, hl]
    show CoreT.mk [] [] [] ((p ++ q).take 16) ((p ++ q).drop 16) = _
    rw [(app16 hp).1, (app16 hp).2]
  have z1 : ∀ x, x.length = 16 → bothL x (bothL (zer 16) (zer 16)) = x := fun x hx => by rw [both_self, both_zero _ hx]
  have hs : sT F h a 0 ⟨[], [], [], p, q⟩ = s := by
    show bothL (bothL (bothL p h) (bothL (zer 16) (zer 16))) (F 0 a q) = _
    rw [z1 _ (bothL_length _ _)]
  have ht : tT F h a 0 ⟨[], [], [], p, q⟩ = t := by rw [tT, hs]
  have hy : yT F h a b 0 ⟨[], [], [], p, q⟩ = d := by rw [yT, hs, ht]
  have hu : uT F h a 0 ⟨[], [], [], p, q⟩ = [] := rfl
  have hv : vT F h a 0 ⟨[], [], [], p, q⟩ = [] := rfl
  have hx : xT F h a b 0 ⟨[], [], [], p, q⟩ = bothL (bothL t h) (F 0 b d) := by
    rw [xT, ht, hy, qT, hu, hv]
    show bothL (bothL (bothL t h) (bothL (zer 16) (zer 16))) _ = _
    rw [z1 _ (bothL_length _ _)]
  rw [coreL, hn, e, coreT, hx, hy, hu, hv]
  rfl
include hF in
/-- What X and Y bring to one pair. -/
theorem coreL_middle (m : List Byte) (hm : m.length = 64) :
    let w := bothL (blk m) (F 1 1 (blk (m.drop 16)))
    let p := bothL (blk (m.drop 16)) (F 0 0 w)
    let s := bothL (bothL (blk (m.drop 32)) h) (bothL p (F 0 a (blk (m.drop 48))))
    let t := bothL (blk (m.drop 48)) (F (-1) a s)
    let o := coreL F h a b m
    let v := bothL (blk o) (F 1 1 (blk (o.drop 16)))
    let q := bothL (blk (o.drop 16)) (F 0 0 v)
    bothL w q = F 2 1 (bothL s t) ∧ bothL p v = bothL w q := by
  intro w p s t o v q
  have hn : (m.length - 32) / 32 = 1 := by rw [hm]
  have hr : restM m = [] := List.length_eq_zero_iff.1 (by rw [restM_length, hm])
  have e : splitT m = ⟨m.take 32, [], [], (m.drop 32).take 16, m.drop 48⟩ := by
    rw [splitT, hr, hm]; rfl
  have f0 : fstB (m.take 32) 0 = blk m := by
    have := blk_sub m 0 (by omega)
    rw [List.drop_zero] at this
    rw [this, fstB]
    show ((m.take 32).drop 0).take 16 = _
    rw [List.drop_zero, List.take_take]; rfl
  have f1 : sndB (m.take 32) 0 = blk (m.drop 16) := by
    rw [blk_sub m 16 (by omega), sndB, List.drop_take, List.take_take]; rfl
  have f2 : (m.drop 32).take 16 = blk (m.drop 32) := (blk_sub m 32 (by omega)).symm
  have f3 : m.drop 48 = blk (m.drop 48) := (blk_self _ (by rw [List.length_drop]; omega)).symm
  have hw : wF F (m.take 32) 0 = w := by rw [wF, f0, f1]; rfl
  have hp : xF F (m.take 32) 0 = p := by rw [xF, f1, hw]
  have lp : p.length = 16 := bothL_length _ _
  have lw : w.length = 16 := bothL_length _ _
  have hs : sT F h a 1 (splitT m) = s := by
    rw [e]
    show bothL (bothL (bothL ((m.drop 32).take 16) h) (bothL (bothL (zer 16) (xF F (m.take 32) 0)) (zer 16))) (F 0 a (m.drop 48)) = _
    rw [hp, zer_bothL _ lp, both_zero _ lp, f2, f3, both_assoc]
  have ht : tT F h a 1 (splitT m) = t := by
    rw [tT, hs, e]
    show bothL (m.drop 48) _ = _
    rw [f3]
  have hz : zT F h a 1 (splitT m) = bothL s t := by rw [zT, hs, ht]
  have ok := splitT_ok m (by omega)
  rw [hn] at ok
  have hq := oneP F (m.take 32) 1
  have hy : yF F (bothL s t) (oneP F (m.take 32) 1) 0 = bothL w (F 2 1 (bothL s t)) := by
    rw [yF, oneP, fst_wx F _ 0 1 (by omega), hw]; rfl
  have hv : vF F (bothL s t) (oneP F (m.take 32) 1) 0 = bothL p (F 2 1 (bothL s t)) := by
    rw [vF, oneP, snd_wx F _ 0 1 (by omega), hp]; rfl
  have ho : o = joinT (coreT F h a b 1 (splitT m)) := by
    show coreL F h a b m = _
    rw [coreL, hn]
  have o2 := coreT_ok F hF h a b _ _ ok
  have eo : o = twoP F (bothL s t) (m.take 32) 1 ++ ((coreT F h a b 1 (splitT m)).u ++ ((coreT F h a b 1 (splitT m)).v ++ ((coreT F h a b 1 (splitT m)).x ++ (coreT F h a b 1 (splitT m)).y))) := by
    rw [ho, joinT]
    congr 1
    show twoP F (zT F h a 1 (splitT m)) (splitT m).ps 1 = _
    rw [hz, e]
  have l2 := twoP_length F (bothL s t) (m.take 32) 1
  have e2 : twoP F (bothL s t) (m.take 32) 1 = firF F (bothL s t) (oneP F (m.take 32) 1) 0 ++ secF F (bothL s t) (oneP F (m.take 32) 1) 0 := rfl
  have g0 : blk o = firF F (bothL s t) (oneP F (m.take 32) 1) 0 := by
    have lf := firF_length F (bothL s t) (oneP F (m.take 32) 1) 0
    rw [← blk_self _ lf, eo, e2, List.append_assoc]
    refine blk_eq _ _ fun i hi => ?_
    simp only [nth, List.getD_eq_getElem?_getD]
    rw [List.getElem?_append_left (by omega)]
  have g1 : blk (o.drop 16) = secF F (bothL s t) (oneP F (m.take 32) 1) 0 := by
    have lf := firF_length F (bothL s t) (oneP F (m.take 32) 1) 0
    have lf2 := secF_length F (bothL s t) (oneP F (m.take 32) 1) 0
    rw [← blk_self _ lf2, eo, e2, List.append_assoc, dropA _ _ _ lf]
    refine blk_eq _ _ fun i hi => ?_
    simp only [nth, List.getD_eq_getElem?_getD]
    rw [List.getElem?_append_left (by omega)]
  have hv2 : v = vF F (bothL s t) (oneP F (m.take 32) 1) 0 := by
    show bothL (blk o) (F 1 1 (blk (o.drop 16))) = _
    rw [g0, g1, firF]
    exact both_back _ _ (vF_length F _ _ 0)
  have hq2 : q = yF F (bothL s t) (oneP F (m.take 32) 1) 0 := by
    show bothL (blk (o.drop 16)) (F 0 0 v) = _
    rw [g1, hv2, secF]
    exact both_back _ _ (yF_length F _ _ 0)
  have r1 : bothL w q = F 2 1 (bothL s t) := by
    rw [hq2, hy, ← both_assoc, both_self, zer_bothL _ (hF _ _ _)]
  refine ⟨r1, ?_⟩
  rw [r1, hv2, hv, ← both_assoc, both_self, zer_bothL _ (hF _ _ _)]
end

end Go.Proofs.YtmgopjeaehmbfaaDoor
