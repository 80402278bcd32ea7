/-
  Layer 6: the statement on compressions, and the look at the chapter's example. Conditions: the program's first numbers and rows lie as its text lays them.
-/
import Derived.Test.YtmclklhnbmkheaaDoorRb3
import Derived.Lib.SlBytesConst
namespace Go.Proofs.YtmclklhnbmkheaaDoor
open Go Go.RowKit
set_option maxRecDepth 100000
set_option linter.unusedVariables false
set_option linter.unusedSimpArgs false

def abcL : List Byte := [97#8, 98#8, 99#8]
theorem abc_0 : nth (sumL 64 [] abcL) 0 = 186#8 := by decide +kernel
theorem abc_1 : nth (sumL 64 [] abcL) 1 = 128#8 := by decide +kernel
theorem abc_2 : nth (sumL 64 [] abcL) 2 = 165#8 := by decide +kernel
theorem abc_3 : nth (sumL 64 [] abcL) 3 = 63#8 := by decide +kernel

@[local go_sem] theorem conv_bytes (w : World) (C : Array Value) (n c : Nat) : (convert 22 22 (.slice (some ⟨w.heap.size, 0, none⟩) n c)).run Tryd.prog (w.alloc (.cells C 5)) = .ok (.slice (some ⟨w.heap.size, 0, none⟩) n c) (w.alloc (.cells C 5 (C.size, C.size + 1))) := Lib.run_convert_bytes_const w _ _ C n c Tryd.underlying22 Tryd.underlying5
theorem rdB_const (w : World) (l : List Byte) (fz : Nat × Nat) : RdB (w.alloc (.cells (l.map v8).toArray 5 fz)) (some ⟨w.heap.size, 0, none⟩) l :=
  ⟨fun _ => rfl, fun i hi => by
    show (w.alloc _).cell? ((⟨w.heap.size, 0, none⟩ : Addr).add i) = _
    rw [Addr.add_mid, Nat.zero_add, cell_of_row _ w.heap.size i (l.map v8).toArray _ _ (heap_alloc_new w _)]
    simp [hi]⟩
set_option maxHeartbeats 1000000 in
theorem awake6 (w0 : World) (hc : CoefB w0) : Gives Tryd.prog 10 #[] w0 (.bool true) := by
  unfold Gives
  have HC := Lib.hid hc
  have e0 := abc_0
  have e1 := abc_1
  have e2 := abc_2
  have e3 := abc_3
  have ls : (sumL 64 [] abcL).length = 64 := sumL_length _ _ _ (by omega)
  have CB := Lib.hid fun (w1 : World) (q : Option Addr) (hx : CoefB w1) (hr : RdB w1 q abcL) => bsum_ok 64 [] none 0 abcL q 3 (by omega) (by omega) (by decide) (by decide) w1 w1 [] hx (fun w' M h => RdB.nil _ _) (fun w' M h => hr.ext h.x) (Own.start w1)
  generalize sumL 64 [] abcL = S at *
  clear hc
  go_enter Tryd.func10, Tryd.ntmps10
  go_wp2_with fail
  refine (CB.out _ _ (HC.out.ext ((Ext.refl _).alloc _)) (rdB_const _ abcL _)).mono ?_
  rintro e w ⟨x, rfl, ⟨p, c, rfl, hcc, hr⟩, M, hm⟩
  have HX := Lib.hid (((Ext.refl w0).alloc _).trans hm.x)
  obtain ⟨a, rfl⟩ := Option.isSome_iff_exists.1 (hr.1 (by omega))
  have c0 : w.cell? (a.add 0) = some (v8 186#8) := by rw [← e0]; exact hr.2 0 (by omega)
  have c1 : w.cell? { block := a.block, off := a.off + 1 } = some (v8 128#8) := by
    have h := hr.2 1 (by omega)
    rw [← e1]
    simpa [Addr.add, nth] using h
  have c2 : w.cell? { block := a.block, off := a.off + 2 } = some (v8 165#8) := by
    have h := hr.2 2 (by omega)
    rw [← e2]
    simpa [Addr.add, nth] using h
  have c3 : w.cell? { block := a.block, off := a.off + 3 } = some (v8 63#8) := by
    have h := hr.2 3 (by omega)
    rw [← e3]
    simpa [Addr.add, nth] using h
  have c4 : w.cell? a = some (v8 186#8) := by have := c0; rwa [show a.add 0 = a from by unfold Addr.add; split <;> simp_all] at this
  clear hr hm
  go_wp2
  go_ret
  exact ⟨rfl, HX.out⟩

end Go.Proofs.YtmclklhnbmkheaaDoor
