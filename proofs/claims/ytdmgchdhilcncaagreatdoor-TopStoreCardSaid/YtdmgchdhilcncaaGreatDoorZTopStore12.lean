/-
  Layer 6: the sum. Conditions: the program's first numbers and rows read as its text lays them.
  Layer 6: a new hash, and the sum of bytes. Conditions: the program's first numbers and rows read as its text lays them.
  Layer 6: the sum of a hash that is only read. Conditions: the program's first numbers and rows read as its text lays them.
  Layer 15: the tweaked block function. Conditions: those written in each theorem.
  Layer 15: a key's parts, made. Conditions: those written in each theorem.
-/
import Derived.Test.YtdmgchdhilcncaaGreatDoorZTopStore0
import Derived.Test.YtdmgchdhilcncaaGreatDoorZTopStore8
import Derived.Test.YtdmgchdhilcncaaGreatDoorZTopStore7
import Derived.Test.YtdmgchdhilcncaaGreatDoorZTopStore11
import Derived.Test.YtdmgchdhilcncaaGreatDoorZTopStore10
set_option linter.unusedSimpArgs false
set_option linter.unusedVariables false
namespace Go.Proofs.YtdmgchdhilcncaaGreatDoor
open Go Go.RowKit
set_option maxRecDepth 100000
theorem wq_mkR {ops : Array Oper} {Q : Exit → Act → World → Prop} {rest : List Oper} {dst : Option Tmp} {ty : TypeId} {pos : String} {aft : Array Edge} {gd : Option (Nat × Bool)} {a : Act} {w0 w : World} {L : List Blk} {x y : Operand} {N C : Int} (n m : Nat)
   (hm : Own w0 w L) (hgd : Region.wanted (Oper.mk dst (.makeSlice 22 x y) ty pos aft gd) (yielded ops a.tmps) = true) (hx : a.eval x = .int .i64 N) (hy : a.eval y = .int .i64 C) (hN : N = (n : Int)) (hC : C = (m : Int)) (hnm : n ≤ m) (hmm : m ≤ 281474976710656)
   (hr : ∀ g w', Own w0 w' (⟨g, 5, (zeros m).map v8⟩ :: L) → wpList Tryz.prog ops Q rest (a.put dst (.slice (some ⟨g, 0, none⟩) n m)) w') : wpList Tryz.prog ops Q ((Oper.mk dst (.makeSlice 22 x y) ty pos aft gd) :: rest) a w :=
 wpList_want hgd fun K hK => by
   subst hN hC
   obtain ⟨i, hi, hz, hs, hb⟩ := info_byte
   have h := run_make (P := Tryz.prog) w 22 5 i (.int .u8 0) Tryz.underlying22 hi hz .i64 .i64 n m (by omega) (by omega) (by rw [hb]; omega) (by omega)
   rw [hs, Nat.mul_one] at h
   simp only [Int.toNat_natCast, Value.cells, madeCells_v8] at h
   unfold Oper.wp execOp
   simp only [hx, hy, Sem.run_bind, h, Result.andThen_ok, Sem.run_pure]
   exact hK _ _ (hr _ _ (hm.alloc 5 ((zeros m).map v8)))
theorem run_index_v {P : Program} {T e : TypeId} {n b : Nat} {f : BitVec b → Value} (hT : P.underlying T = some (.array n e)) [hE : One1 P e] (l : List (BitVec b)) (hl : l.length = n) (k : Nat) (hk : k < n) (w : World) : (Instr.index T (.agg (l.map f).toArray) (.int .i64 (k : Int))).run P w = .ok (f (nth l k)) w := by
 obtain ⟨d, hu, hd⟩ := Option.map_eq_some_iff.1 hE.row
 obtain ⟨i, hi1, hi2⟩ := Option.map_eq_some_iff.1 hE.size
 have hagg : (isAgg e).run P w = .ok false w := by
   unfold isAgg
   rw [Sem.run_bind, run_underlying hu w]
   cases d <;> simp_all
 have hc : (l.map f)[k]? = some (f (nth l k)) := mapv_at f l (by omega)
 have hk2 : (0 : Int) ≤ (k : Int) ∧ (k : Int) < (n : Int) := by omega
 simp [Instr.index, asIntOf, Sem.run_bind, run_underlying hT, hk2, sizeOf, typeInfo, hi1, hi2, hk, Go.part, hagg, nth_get (show k < l.length by omega)]
 rw [List.getElem?_eq_getElem (by omega)]; rfl
theorem wq_idx {P : Program} {ops : Array Oper} {Q : Exit → Act → World → Prop} {rest : List Oper} {dst : Option Tmp} {ty : TypeId} {pos : String} {aft : Array Edge} {gd : Option (Nat × Bool)} {a : Act} {w : World} {x y : Operand} {T e : TypeId} {n b k : Nat} {f : BitVec b → Value} {l : List (BitVec b)} (hT : P.underlying T = some (.array n e)) (hE : One1 P e) (hgd : Region.wanted (Oper.mk dst (.index T x y) ty pos aft gd) (yielded ops a.tmps) = true) (hx : a.eval x = .agg (l.map f).toArray) (hy : a.eval y = .int .i64 (k : Int)) (hl : l.length = n) (hk : k < n)
   (hr : wpList P ops Q rest (a.put dst (f (nth l k))) w) : wpList P ops Q ((Oper.mk dst (.index T x y) ty pos aft gd) :: rest) a w :=
 wpList_want hgd fun K hK => by
   unfold Oper.wp execOp
   simp only [hx, hy, Sem.run_bind, run_index_v hT l hl k hk w, Result.andThen_ok, Sem.run_pure]
   exact hK _ _ hr
theorem hashC_one {h : List (BitVec 64)} {n : Nat} {v : Value} {sz : Int} (hv : v.oneCell' = true) : ∀ u ∈ hashC h n v sz, u.oneCell' = true := by
 intro u hu
 simp only [hashC, List.mem_append, List.mem_cons, List.not_mem_nil, or_false] at hu
 rcases hu with hu | (rfl | rfl) | rfl | rfl
 · exact one_map _ u hu
 · rfl
 · rfl
 · exact hv
 · rfl
theorem outL_take (h : List (BitVec 64)) (k : Nat) (hk : k < h.length) : outL (h.take (k + 1)) = outL (h.take k) ++ putL (nth h k) 8 := by
 rw [List.take_succ_eq_append_getElem hk, outL, outL, List.map_append, List.flatten_append]
 simp [nth_get hk]
set_option maxHeartbeats 2000000 in
theorem hsum_any (g : Nat) (h0 : List (BitVec 64)) (d : List Byte) (sz : Nat) (hh : h0.length = 8) (hsz : sz ≤ 64) (hlen : d.length ≤ 70368744177664) (w0 w : World) (M R : List Blk) (v : Value) (hc : CoefB w0)
   (hm : Own w0 w (⟨g, 166, hashK h0 d (nbk d.length) v sz⟩ :: (M ++ R))) (hsl : RestO M d (nbk d.length) v) :
   Calls Tryz.prog 64 #[.pointer (some ⟨g, 0, none⟩)] w fun e w' => ∃ x, e = .returned x ∧ BytesS ((outL (finL h0 d)).take sz) x w' ∧ Own w0 w' (⟨g, 166, hashK h0 d (nbk d.length) v sz⟩ :: (M ++ R)) := by
 obtain ⟨q, n, cap, rfl⟩ := hsl.slice
 obtain ⟨hn, hnc, hcm⟩ := hsl.len
 have hnk := nbk_rest d.length
 have hkk := nbk_le d.length
 have HC := Lib.hid hc
 have HH := Lib.hid hh
 have HS := Lib.hid hsl
 have l1 := hashK_length (d := d) (k := nbk d.length) (v := .slice q n cap) (sz := sz) hh
 have lr : (d.drop (128 * nbk d.length)).length = n := by rw [List.length_drop, hn]
 have CB := fun g1 wx hx => hblock_any g1 (chF h0 d (nbk d.length)) (128 * nbk d.length) (.slice q n cap) sz (d.drop (128 * nbk d.length)) q cap n true (chF_length h0 d hh _) (by omega) (by omega) w0 wx (⟨g, 166, hashK h0 d (nbk d.length) (.slice q n cap) sz⟩ :: (M ++ R)) (fun w' N h => by
   rw [List.append_cons] at h; exact HS.out.rdB h) HC.out rfl hx
 rw [lr, show 128 * nbk d.length + n = d.length from by omega] at CB
 have lF : (finL h0 d).length = 8 := finL_length h0 d
 have CB2 := Lib.hid CB
 have EF : Hid (compL (chF h0 d (nbk d.length)) (mL (d.drop (128 * nbk d.length))) (BitVec.ofNat 64 d.length) 0#64 true = finL h0 d) := Lib.hid rfl
 rw [EF.out] at CB2
 have HF := Lib.hid lF
 have hsz2 : (sz : Int) ≤ 64 := by omega
 have E0 := Lib.hid (show hashK h0 d (nbk d.length) (.slice q n cap) sz = hashC (chF h0 d (nbk d.length)) (128 * nbk d.length) (.slice q n cap) sz from rfl)
 have ONE := Lib.hid (show ∀ u ∈ hashK h0 d (nbk d.length) (.slice q n cap) sz, u.oneCell' = true from hashC_one rfl)
 have X10 := Lib.hid (show (hashK h0 d (nbk d.length) (.slice q n cap) sz)[10]? = some (.slice q n cap) from hashK_rest hh)
 generalize hX : hashK h0 d (nbk d.length) (.slice q n cap) sz = X at *
 rw [← E0.out] at CB2
 generalize finL h0 d = F at *
 have lX := l1
 clear CB EF hn hnk hkk hcm hX hsl hc hh lF l1
 go_enter Tryz.func64, Tryz.ntmps64
 go_wp2_with (first | ((with_reducible apply wq_stW hm); exact rfl; infer_instance; exact rfl; exact rfl; (focus (repeat first | exact .hd | assumption | apply Swap.tl); done); exact lX; (first | rfl | (simp; done)); exact ONE.out; clear hm; intro w hm) | ((with_reducible apply wq_ldW hm); exact rfl; infer_instance; exact rfl; (focus (repeat first | exact .hd | assumption | apply Has.tl); done); exact lX) | ((with_reducible apply wq_ld1 hm); exact rfl; infer_instance; exact rfl; (focus (repeat first | exact .hd | assumption | apply Has.tl); done); (exact X10.out)) | (go_at_call 75; (with_reducible refine (CB2.out _ _ hm).mono ?_); clear hm; rintro e_ w ⟨rfl, hm⟩) | ((with_reducible apply wq_mkR 0 64 hm); exact rfl; exact rfl; exact rfl; exact rfl; exact rfl; omega; omega; clear hm; intro g2 w hm) | ((with_reducible apply wq_ldN hm); exact rfl; infer_instance; exact rfl; (focus (repeat first | exact .hd | assumption | apply Has.tl); done); (exact hashC_h HF.out); (exact (List.length_map ..).trans HF.out)) | ((first | ((with_reducible show qAl); first | ((with_reducible apply wq_new hm); exact rfl; infer_instance))); clear hm; (first | (have hx_ := g1; clear hx_; (first | (have hx_ := g2; clear hx_; intro gx_) | intro g2)) | intro g1); intro w hm))
 obtain ⟨RR, hRR⟩ : ∃ RR, (⟨g1, 166, hashC F d.length (.slice q n cap) sz⟩ :: ⟨g, 166, X⟩ :: (M ++ R) : List Blk) = RR := ⟨_, rfl⟩
 have hg1 : Has RR ⟨g1, 166, hashC F d.length (.slice q n cap) sz⟩ := hRR ▸ .hd
 have hend : ∀ w, Own w0 w RR → Own w0 w (⟨g, 166, X⟩ :: (M ++ R)) := fun w h => by rw [← hRR] at h; exact h.drop
 have HE := Lib.hid hend
 rw [hRR] at hm
 clear hRR hend
 go_loopw [4, 22] (fun v i wr => ∃ (k : Nat) (Mo : List Blk), k ≤ 8 ∧ i = .int .i64 k ∧ SlO Mo 5 1 v (8 * k) ((outL (F.take k)).map v8) ∧ Own w0 wr (Mo ++ RR)) (fun _ i _ => 8 - (intOf i).toNat)
 case atStart => exact ⟨0, [_], by omega, rfl, SlO.room g2 5 1 64 _ (by simp) (by decide), hm⟩
 case round =>
   obtain ⟨k, Mo, hk, rfl, hso, hm⟩ := hrel
   obtain ⟨p0, c0, rfl⟩ := hso.form
   have HSO := Lib.hid hso
   clear hso
   by_cases hlt : k < 8
   · have hd : decide ((k : Int) < 8) = true := by simp; omega
     have lF := HF.out
     have lF1 := Nat.le_of_eq HF.out
     have lF2 := Nat.le_of_eq HF.out.symm
     have lp : (putL (nth F k) 8).length = 8 := putL_length _ _
     have et := Lib.hid (outL_take F k (by omega))
     have CP := Lib.hid fun wx => putlong_any' (nth F k) wx
     generalize putL (nth F k) 8 = B at *
     go_wp2_with (first | ((with_reducible apply wq_idx (l := F) (k := k) Tryz.underlying164); infer_instance; exact rfl; exact rfl; exact rfl; exact lF; exact hlt) | (go_at_call 48; (with_reducible refine (CP.out _).mono ?_); rintro e_ w ⟨rfl, hx_⟩; replace hm := hm.ext hx_; clear hx_) | ((with_reducible show wpList _ _ _ (Oper.mk _ (Op.call _) _ _ _ _ :: _) _ _); refine wplO_app (M := Mo) (R := _) (ds := B.map v8) (hm.perm (List.perm_middle.symm)) HSO.out rfl rfl rfl rfl Tryz.underlying22 (by simpa using lp) (cells_b (hm.rdB (by repeat (first | exact Has.hd | assumption | apply Has.tl)))) (one_map _) (by omega) ?_; clear hm; intro v1 w M1 hm hs1; obtain ⟨p_v1, c_v1, rfl⟩ := hs1.form; replace hm := hm.perm (List.perm_middle)) | ((((with_reducible show qSt); first | ((with_reducible apply wq_stW hm); exact rfl; infer_instance; exact rfl; exact rfl; (focus (repeat first | exact .hd | assumption | apply Swap.tl); done); (focus (first | rfl | omega | (simp; done) | (simp; omega))); (focus (first | rfl | omega | (simp; done) | (simp; omega))); (focus (first | exact one_map _ | (simp [one8, one32, one64]; done)))))); clear hm; intro w hm) | ((first | ((with_reducible show qAl); first | ((with_reducible apply wq_new hm); exact rfl; infer_instance))); clear hm; (first | (have hx_ := g1; clear hx_; (first | (have hx_ := g2; clear hx_; intro gx_) | intro g2)) | intro g1); intro w hm))
     go_roundw
     case rel => exact ⟨k + 1, M1, by omega, by go_num, by rw [et.out, List.map_append]; exact hs1, hm.drop⟩
     case measure => simp [intOf] <;> omega
   · obtain rfl : k = 8 := by omega
     have hso := HSO.out
     rw [List.take_of_length_le (Nat.le_of_eq HF.out)] at hso
     obtain ⟨_, _, hv, hnc0, _, h0, hcell⟩ := hso.cells hm
     cases hv
     have hrd : RdB wr p0 (outL F) := ⟨fun hl => h0 (by omega), fun i hi => by
       obtain ⟨a, rfl, ha⟩ := hcell i (v8 ((outL F).getD i 0)) (by rw [List.getElem?_map, List.getElem?_eq_getElem hi, List.getD_eq_getElem?_getD, List.getElem?_eq_getElem hi]; rfl)
       exact ha⟩
     have HRD := Lib.hid hrd
     have lO : (outL F).length = 64 := by rw [outL_length, HF.out]
     have hc0 : (64 : Int) ≤ (c0 : Int) := by omega
     have hsc : (sz : Int) ≤ (c0 : Int) := by omega
     have hg2 := Has.app (M := Mo) hg1
     clear hrd hcell hso
     go_wp2_with (first | ((with_reducible apply wq_ld1 hm); exact rfl; infer_instance; exact rfl; (focus (repeat first | exact .hd | assumption | apply Has.tl); done); (exact hashC_size HF.out)))
     go_ret
     have lt : ((outL F).take sz).length = sz := by rw [List.length_take, lO]; omega
     refine ⟨_, rfl, ⟨p0, c0, ?_, by rw [lt]; omega, HRD.out.take sz⟩, HE.out _ hm.dropN⟩
     rw [lt]; rfl
section
variable {P : Program} {ops : Array Oper} {Q : Exit → Act → World → Prop} {rest : List Oper} {dst : Option Tmp} {ty : TypeId} {pos : String} {aft : Array Edge} {gd : Option (Nat × Bool)} {a : Act} {w : World} {T : TypeId} {x : Operand} {n : Nat} {cs : List Value} {A : Addr}
theorem run_rdN (h : ∀ (j : Nat) (v : Value), cs[j]? = some v → w.cell? (A.add j) = some v) [hT : Many P T n] (hn : cs.length = n) : (Instr.loadAt T (.pointer (some A))).run P w = .ok (.agg cs.toArray) w := by
 obtain ⟨d, hu, hd⟩ := Option.map_eq_some_iff.1 hT.row
 have hl : (loadCells A cs.length).run P w = .ok cs.toArray w := run_loadCells_list (P := P) w A cs h
 have hagg : (isAgg T).run P w = .ok true w := by
   unfold isAgg
   rw [Sem.run_bind, run_underlying hu w]
   cases d <;> simp_all
 obtain ⟨i, hi1, hi2⟩ := Option.map_eq_some_iff.1 hT.size
 simp [Instr.loadAt, Instr.sureAddr, loadVar, Sem.run_bind, hagg, sizeOf, typeInfo, hi1, hi2, ← hn, hl]
theorem wq_rdN (h : ∀ (j : Nat) (v : Value), cs[j]? = some v → w.cell? (A.add j) = some v) (hgd : Region.wanted (Oper.mk dst (.load T x) ty pos aft gd) (yielded ops a.tmps) = true) (hT : Many P T n) (hx : a.eval x = .pointer (some A)) (hn : cs.length = n) (hr : wpList P ops Q rest (a.put dst (.agg cs.toArray)) w) : wpList P ops Q ((Oper.mk dst (.load T x) ty pos aft gd) :: rest) a w :=
 wpList_want hgd fun K hK => by
   unfold Oper.wp execOp
   simp only [hx, Sem.run_bind, run_rdN h hn, Result.andThen_ok, Sem.run_pure]
   exact hK _ _ hr
end
theorem wq_build2 {P : Program} {ops : Array Oper} {Q : Exit → Act → World → Prop} {rest : List Oper} {dst : Option Tmp} {ty : TypeId} {pos : String} {aft : Array Edge} {gd : Option (Nat × Bool)} {a : Act} {w : World} {T : TypeId} {x y : Operand} {v : Value} {i j : Nat} {u u' : Value} (hb : ∀ w, (Instr.build T #[(i, u), (j, u')]).run P w = .ok v w) (hgd : Region.wanted (Oper.mk dst (.build T #[(i, x), (j, y)]) ty pos aft gd) (yielded ops a.tmps) = true) (hx : a.eval x = u) (hy : a.eval y = u') (hr : wpList P ops Q rest (a.put dst v) w) : wpList P ops Q ((Oper.mk dst (.build T #[(i, x), (j, y)]) ty pos aft gd) :: rest) a w :=
 wq_buildN (fun w => by simpa [hx, hy] using hb w) hgd hr
theorem CoefB.first {w : World} (h : CoefB w) : ∀ (j : Nat) (v : Value), (firstL.map v64)[j]? = some v → w.cell? ((⟨2, 0, none⟩ : Addr).add j) = some v := by
 intro j v hj
 rw [Addr.add_mid, Nat.zero_add]
 have hl : j < 8 := by
   have := (List.getElem?_eq_some_iff.1 hj).1
   simpa [firstL_length] using this
 rw [h.1 j hl, ← hj, map64_at firstL (by rw [firstL_length]; exact hl)]
theorem build_hash (sz : Int) (w : World) : (Instr.build 166 #[(0, A64 firstL), (3, .int .i64 sz)]).run Tryz.prog w = .ok (.agg (hashC firstL 0 (.slice none 0 0) sz).toArray) w := by kernel_rfl
theorem start_bits (k s : Nat) (hk : k ≤ 64) (hs : s ≤ 64) : BitVec.ofInt 64 (bits BinOp.xor IntKind.u64 (bits BinOp.xor IntKind.u64 16842752 ((k : Int) * 256)) (s : Int)) = ((0x01010000#64) ^^^ (BitVec.ofNat 64 k <<< 8)) ^^^ BitVec.ofNat 64 s := by
 have : ∀ k s : Fin 65, BitVec.ofInt 64 (bits BinOp.xor IntKind.u64 (bits BinOp.xor IntKind.u64 16842752 ((k.val : Int) * 256)) (s.val : Int)) = ((0x01010000#64) ^^^ (BitVec.ofNat 64 k.val <<< 8)) ^^^ BitVec.ofNat 64 s.val := by decide +kernel
 exact this ⟨k, by omega⟩ ⟨s, by omega⟩
theorem hashC_set0 {h : List (BitVec 64)} {n : Nat} {v : Value} {sz : Int} {x : BitVec 64} (hh : h.length = 8) : (hashC h n v sz).set 0 (v64 x) = hashC (setN h 0 x) n v sz := by
 unfold hashC; rw [List.set_append_left _ _ (by simp [hh]), mapv_set]
set_option maxHeartbeats 2000000 in
theorem new_ok (size : Nat) (key : List Byte) (p : Option Addr) (c : Nat) (h0 : 1 ≤ size) (h1 : size ≤ 64) (hk : key.length ≤ 64) (w0 w : World) (L : List Blk) (hc : CoefB w0) (hr : ∀ w' M, Own w0 w' (M ++ L) → RdB w' p key) (hm : Own w0 w L) :
   Calls Tryz.prog 62 #[.int .i64 size, .slice p key.length c] w fun e w' => ∃ g v M, e = .returned (.tuple #[.pointer (some ⟨g, 0, none⟩), .int .i64 0]) ∧ Own w0 w' (⟨g, 166, hashK (startL size key.length) (keyL key) (nbk (keyL key).length) v size⟩ :: (M ++ L)) ∧ RestO M (keyL key) (nbk (keyL key).length) v := by
 have a1 : decide ((size : Int) < 1) = false := by simp; omega
 have a2 : ¬ (size : Int) < 1 := by omega
 have a3 : decide ((64 : Int) < (size : Int)) = false := by simp; omega
 have a4 : ¬ (64 : Int) < (size : Int) := by omega
 have a5 : decide ((64 : Int) < (key.length : Int)) = false := by simp; omega
 have a6 : ¬ (64 : Int) < (key.length : Int) := by omega
 have HC := Lib.hid hc
 have HR := Lib.hid hr
 have lf := hashC_length (h := firstL) (n := 0) (v := .slice none 0 0) (sz := (size : Int)) firstL_length
 have ES := Lib.hid (show (hashC firstL 0 (.slice none 0 0) (size : Int)).set 0 (v64 (nth firstL 0 ^^^ BitVec.ofInt 64 (bits BinOp.xor IntKind.u64 (bits BinOp.xor IntKind.u64 16842752 ((key.length : Int) * 256)) (size : Int)))) = hashK (startL size key.length) [] 0 (.slice none 0 0) size by
   rw [hashC_set0 firstL_length, start_bits _ _ hk h1]; rfl)
 have f0 := Lib.hid (show (hashC firstL 0 (.slice none 0 0) (size : Int))[0]? = some (v64 (nth firstL 0)) from rfl)
 clear hc hr
 by_cases hk0 : key.length = 0
 · have b1 : decide ((0 : Int) < (key.length : Int)) = false := decide_eq_false (by omega)
   have b2 : ¬ (0 : Int) < (key.length : Int) := by omega
   have b3 : ¬ 0 < key.length := by omega
   have EK := Lib.hid (show keyL key = [] by rw [keyL, if_pos hk0])
   clear hk0
   go_enter Tryz.func62, Tryz.ntmps62
   go_wp2_with (first | ((with_reducible apply wq_rdN (cs := firstL.map v64) (HC.out.ext hm.x).first); exact rfl; infer_instance; exact rfl; exact rfl) | ((with_reducible apply wq_build2 (build_hash (size : Int))); exact rfl; exact rfl; exact rfl) | ((first | ((with_reducible show qBx); first | ((with_reducible apply wq_boxN hm); exact rfl; exact rfl))); clear hm; (first | (have hx_ := g1; clear hx_; intro gx_) | intro g1); intro w hm))
   refine region_at 17 (fun w' => Ext _ w') 47 (by kernel_rfl) (by kernel_rfl) rfl (fun _ _ h k => h.trans k) (drew_ext _) ?_
   simp only [tSC, List.take_zero, dSC, List.drop_zero, List.map_cons, List.map_nil]
   repeat (first
       | (apply walk_is rfl rfl rfl; (intro wx hwx; (with_reducible apply gq_ld1 (hm.ext hwx)); infer_instance; exact rfl; (focus (repeat first | exact .hd | assumption | apply Has.tl); done); (exact f0.out)); (simp only [Act.put, sIB, sCS, sCZ]; rfl))
       | (apply walk_is rfl rfl rfl
          · (intro wx hwx; go_simp; (try go_bits); first | exact gives_same | exact gives_skip)
          · (simp only [Act.put, sIB, sCS, sCZ]; rfl))
       | (apply walk_not rfl rfl rfl
          · (simp only [Act.put, sIB, sCS, sCZ]; rfl)))
   intro wz hwz
   simp only [zCC, zNR]
   repeat (first | rw [fin_is] | (rw [fin_cons]; intro _ _))
   rw [fin_nil]
   try (replace hm := hm.ext hwz)
   simp only [Act.put, sIB, sCS, sCZ]
   go_wp2_with (first | ((((with_reducible show qSt); first | ((with_reducible apply wq_s1v (f := v64) hm); exact rfl; infer_instance; exact rfl; exact rfl; infer_instance; (focus (repeat first | exact .hd | assumption | apply Swap.tl); done); (focus (first | omega | (simp; omega) | (refine ltB ?_; first | omega | (simp; done) | (simp; omega))))))); clear hm; intro w hm))
   go_ret2
   rw [ES.out] at hm
   rw [EK.out]
   exact ⟨g1, .slice none 0 0, [], rfl, hm, SlO.nil _ _⟩
 · have b1 : decide ((0 : Int) < (key.length : Int)) = true := decide_eq_true (by omega)
   have b2 : (0 : Int) < (key.length : Int) := by omega
   have b3 : 0 < key.length := by omega
   have EK := Lib.hid (show keyL key = pad key 128 by rw [keyL, if_neg hk0])
   have lp : (pad key 128).length ≤ 200 := by
     rw [pad, List.length_append, List.length_replicate]
     have := roomN_lt key.length 128; omega
   have LP := Lib.hid lp
   clear hk0 lp
   go_enter Tryz.func62, Tryz.ntmps62
   go_wp2_with (first | ((with_reducible apply wq_rdN (cs := firstL.map v64) (HC.out.ext hm.x).first); exact rfl; infer_instance; exact rfl; exact rfl) | ((with_reducible apply wq_build2 (build_hash (size : Int))); exact rfl; exact rfl; exact rfl) | ((first | ((with_reducible show qBx); first | ((with_reducible apply wq_boxN hm); exact rfl; exact rfl))); clear hm; (first | (have hx_ := g1; clear hx_; intro gx_) | intro g1); intro w hm))
   refine region_at 17 (fun w' => Ext _ w') 47 (by kernel_rfl) (by kernel_rfl) rfl (fun _ _ h k => h.trans k) (drew_ext _) ?_
   simp only [tSC, List.take_zero, dSC, List.drop_zero, List.map_cons, List.map_nil]
   repeat (first
       | (apply walk_is rfl rfl rfl; (intro wx hwx; (with_reducible apply gq_ld1 (hm.ext hwx)); infer_instance; exact rfl; (focus (repeat first | exact .hd | assumption | apply Has.tl); done); (exact f0.out)); (simp only [Act.put, sIB, sCS, sCZ]; rfl))
       | (apply walk_is rfl rfl rfl
          · (intro wx hwx; go_simp; (try go_bits); first | exact gives_same | exact gives_skip)
          · (simp only [Act.put, sIB, sCS, sCZ]; rfl))
       | (apply walk_not rfl rfl rfl
          · (simp only [Act.put, sIB, sCS, sCZ]; rfl)))
   intro wz hwz
   simp only [zCC, zNR]
   repeat (first | rw [fin_is] | (rw [fin_cons]; intro _ _))
   rw [fin_nil]
   try (replace hm := hm.ext hwz)
   simp only [Act.put, sIB, sCS, sCZ]
   go_wp2_with (first | ((((with_reducible show qSt); first | ((with_reducible apply wq_s1v (f := v64) hm); exact rfl; infer_instance; exact rfl; exact rfl; infer_instance; (focus (repeat first | exact .hd | assumption | apply Swap.tl); done); (focus (first | omega | (simp; omega) | (refine ltB ?_; first | omega | (simp; done) | (simp; omega))))))); clear hm; intro w hm))
   refine (padded_any key p c 128 _ (HR.out _ [_] hm) (by omega) (by decide) (by decide)).mono ?_
   rintro e w ⟨v, rfl, ⟨pp, cc, rfl, hcc, hrb⟩, hx_⟩
   replace hm := hm.ext hx_
   rw [ES.out] at hm
   have HRB := Lib.hid hrb
   clear hx_ hrb
   go_wp2_with fail
   refine (write_any g1 (startL size key.length) [] size (pad key 128) pp cc (startL_length _ _) (by have := LP.out; simp; omega) w0 _ [] L (.slice none 0 0) HC.out HRB.out hm (SlO.nil _ _)).mono ?_
   rintro e w ⟨rfl, v', M', hm, hs⟩
   go_wp2
   go_ret2
   rw [EK.out]
   rw [List.nil_append] at hm hs
   exact ⟨g1, v', M', rfl, hm, hs⟩
theorem keyL_length (key : List Byte) (hk : key.length ≤ 64) : (keyL key).length ≤ 200 := by
 unfold keyL
 split
 · simp
 · rw [pad, List.length_append, List.length_replicate]
   have := roomN_lt key.length 128; omega
set_option maxHeartbeats 2000000 in
theorem bsum_ok (size : Nat) (key : List Byte) (p : Option Addr) (c : Nat) (b : List Byte) (q : Option Addr) (d : Nat) (h0 : 1 ≤ size) (h1 : size ≤ 64) (hk : key.length ≤ 64) (hb : b.length ≤ 35184372088832) (w0 w : World) (L : List Blk) (hc : CoefB w0) (hr : ∀ w' M, Own w0 w' (M ++ L) → RdB w' p key) (hr2 : ∀ w' M, Own w0 w' (M ++ L) → RdB w' q b) (hm : Own w0 w L) :
   Calls Tryz.prog 45 #[.int .i64 size, .slice p key.length c, .slice q b.length d] w fun e w' => ∃ x, e = .returned (.tuple #[x, .int .i64 0]) ∧ BytesS (sumL size key b) x w' ∧ ∃ M, Own w0 w' (M ++ L) := by
 have lk := keyL_length key hk
 have HC := Lib.hid hc
 have HR := Lib.hid hr
 have HR2 := Lib.hid hr2
 clear hc hr hr2
 go_enter Tryz.func45, Tryz.ntmps45
 go_wp2_with fail
 refine (new_ok size key p c h0 h1 hk w0 _ L HC.out HR.out hm).mono ?_
 rintro e w ⟨g, v, M, rfl, hm, hs⟩
 go_wp2_with fail
 refine (write_any g _ (keyL key) size b q d (startL_length _ _) (by omega) w0 _ M L v HC.out (HR2.out _ (⟨g, 166, _⟩ :: M) hm) hm hs).mono ?_
 rintro e w ⟨rfl, v', M', hm, hs⟩
 go_wp2_with fail
 refine (hsum_any g _ (keyL key ++ b) size (startL_length _ _) h1 (by rw [List.length_append]; omega) w0 _ M' L v' HC.out hm hs).mono ?_
 rintro e w ⟨x, rfl, hx, hm⟩
 go_wp2
 go_ret2
 exact ⟨x, rfl, hx, ⟨g, 166, _⟩ :: M', hm⟩
theorem KeyR.off {w : World} {g : Nat} {K : KeyP} (h : KeyR w g K) (j i : Int) (hj : j ≤ 9223372036854775807) (hi : i ≤ 9223372036854775807) : Gives Tryz.prog 202 #[.pointer (some ⟨g, 0, none⟩), .int .i64 j, .int .i64 i] w (A8 (offZ K j i)) := by
 by_cases hn : j < 0 ∨ i < 0
 · rw [offZ, if_pos hn]; exact off_neg g j i w hn
 · rw [offZ, if_neg hn]
   have := off_pos g K j.toNat i.toNat w h (by omega) (by omega)
   rwa [Int.toNat_of_nonneg (by omega), Int.toNat_of_nonneg (by omega)] at this
set_option maxHeartbeats 2000000 in
theorem e_neg (g : Nat) (j i : Int) (x : List Byte) (hx : x.length = 16) (w0 : World) (h : j < -1 ∨ i < 0) : Gives Tryz.prog 190 #[.pointer (some ⟨g, 0, none⟩), .int .i64 j, .int .i64 i, A8 x] w0 (A8 (zer 16)) := by
 unfold Gives
 have hm := Own.start w0
 by_cases h1 : j < -1
 · have e1 : decide (j < -1) = true := decide_eq_true h1
   go_enter Tryz.func190, Tryz.ntmps190
   go_wp2_with (first | ((with_reducible apply wq_build0 build_z16); exact rfl) | ((((with_reducible show qSt); first | ((with_reducible apply wq_stW hm); exact rfl; infer_instance; exact rfl; exact rfl; (focus ((repeat (first | exact .hd | assumption | apply Swap.tl | apply Swap.app)); done)); (focus (first | rfl | omega | (simp; done) | (simp; omega))); (focus (first | rfl | omega | (simp; done) | (simp; omega))); (focus (first | exact one_map _ | (simp [one8, one32, one64]; done)))))); clear hm; intro w hm) | ((first | ((with_reducible show qAl); first | ((with_reducible apply wq_new hm); exact rfl; infer_instance)) | ((with_reducible show qBx); first | ((with_reducible apply wq_boxN hm); exact rfl; exact rfl))); clear hm; intro gx_; intro w hm))
   refine ret_own hm rfl rfl (by infer_instance) (by repeat (first | exact Has.hd | assumption | apply Has.tl | apply Has.app)) (by first | rfl | omega | (simp only [zeros_length, zer_length, tab_length, part_length, setN_length, List.length_map, List.length_cons, List.length_nil, List.length_append, List.length_take, List.length_drop, List.length_replicate, blk_length, putL_length] <;> omega)) rfl ⟨rfl, hm.x⟩
 · have e1 : decide (j < -1) = false := decide_eq_false h1
   have h2 : i < 0 := by omega
   have e2 : decide (i < 0) = true := decide_eq_true h2
   go_enter Tryz.func190, Tryz.ntmps190
   go_wp2_with (first | ((with_reducible apply wq_build0 build_z16); exact rfl) | ((((with_reducible show qSt); first | ((with_reducible apply wq_stW hm); exact rfl; infer_instance; exact rfl; exact rfl; (focus ((repeat (first | exact .hd | assumption | apply Swap.tl | apply Swap.app)); done)); (focus (first | rfl | omega | (simp; done) | (simp; omega))); (focus (first | rfl | omega | (simp; done) | (simp; omega))); (focus (first | exact one_map _ | (simp [one8, one32, one64]; done)))))); clear hm; intro w hm) | ((first | ((with_reducible show qAl); first | ((with_reducible apply wq_new hm); exact rfl; infer_instance)) | ((with_reducible show qBx); first | ((with_reducible apply wq_boxN hm); exact rfl; exact rfl))); clear hm; intro gx_; intro w hm))
   refine ret_own hm rfl rfl (by infer_instance) (by repeat (first | exact Has.hd | assumption | apply Has.tl | apply Has.app)) (by first | rfl | omega | (simp only [zeros_length, zer_length, tab_length, part_length, setN_length, List.length_map, List.length_cons, List.length_nil, List.length_append, List.length_take, List.length_drop, List.length_replicate, blk_length, putL_length] <;> omega)) rfl ⟨rfl, hm.x⟩
set_option maxHeartbeats 4000000 in
theorem e_pos (g : Nat) (K : KeyP) (j i : Nat) (x : List Byte) (hx : x.length = 16) (w0 : World) (hk : KeyR w0 g K) (hj : j ≤ 9223372036854775807) (hi : i ≤ 9223372036854775807) : Gives Tryz.prog 190 #[.pointer (some ⟨g, 0, none⟩), .int .i64 j, .int .i64 i, A8 x] w0 (A8 (eN K j i x)) := by
 unfold Gives
 have hm := Own.start w0
 have HI := Lib.hid hk.rdi
 have HJ := Lib.hid hk.rdj
 have HL := Lib.hid hk.rdl
 have li := hk.1.hi
 have lj := hk.1.hj
 have ll := hk.1.hl
 obtain ⟨hok, gt, gb, hrk, hrt⟩ := id hk
 have HRK := Lib.hid fun (wx : World) (h : Ext w0 wx) => row_ext hrk h
 have HRT := Lib.hid fun (wx : World) (h : Ext w0 wx) => row_ext hrt h
 have PT : Hid ((kcells gt K)[0]? = some (.pointer (some ⟨gt, 0, none⟩))) := Lib.hid rfl
 have e0 : decide ((j : Int) < -1) = false := decide_eq_false (by omega)
 have e1 : ¬ (j : Int) < -1 := by omega
 have e2 : decide ((i : Int) < 0) = false := decide_eq_false (by omega)
 have e3 : decide ((0 : Int) ≤ (j : Int)) = true := decide_eq_true (by omega)
 have e4 : decide ((j : Int) ≥ 0) = true := decide_eq_true (by omega)
 have D1 := Lib.hid fun (wx : World) (h : Ext w0 wx) => off_pos g K j i wx (hk.ext h) hj hi
 have lO := offN_length K j i
 have D2 : Hid (∀ (wx : World) (p : Option Addr) (c : Nat), 1 ≤ c → RdK wx p 16 [offN K j i] → Gives Tryz.prog 201 #[A8 x, .slice p 1 c] wx (A8 (bothL x (offN K j i)))) := Lib.hid fun wx p c hc h => ezplus_any x [offN K j i] p c hx wx h hc (by simp)
 have lX : (bothL x (offN K j i)).length = 16 := bothL_length _ _
 have D3 : Hid (∀ (wx : World) (p : Option Addr) (c : Nat), 4 ≤ c → RdK wx p 16 [K.j, K.i, K.l, zer 16] → Row wx gt 66 (tcells gb mixT unmixT) → Gives Tryz.prog 59 #[.pointer (some ⟨gt, 0, none⟩), A8 (bothL x (offN K j i)), .slice p 4 c] wx (A8 (eN K j i x))) := Lib.hid fun wx p c hc h hr => trounds_any gt gb (bothL x (offN K j i)) [K.j, K.i, K.l, zer 16] p c lX wx h hc (by simp) hr
 have lE := eN_length K j i x
 have lz : (zer (n := 8) 16).length = 16 := zer_length
 have hk1 : Hid (∀ k ∈ [offN K j i], k.length = 16) := Lib.hid (by simp [lO])
 have hk4 : Hid (∀ k ∈ [K.j, K.i, K.l, zer 16], k.length = 16) := Lib.hid (by simp [li, lj, ll, lz])
 have ha1 := Nat.le_of_eq hx
 have ha2 := Nat.le_of_eq hx.symm
 generalize eN K j i x = Y at *
 generalize bothL x (offN K j i) = X at *
 generalize offN K j i = O at *
 clear hk hok hrk hrt
 go_enter Tryz.func190, Tryz.ntmps190
 go_wp2_with (first | ((first | ((with_reducible show qAl); first | ((with_reducible apply wq_new hm); exact rfl; infer_instance)) | ((with_reducible show qBx); first | ((with_reducible apply wq_boxN hm); exact rfl; exact rfl))); clear hm; intro gx_; intro w hm))
 have hi1 := fun wx (hwx : Ext w wx) => HI.out.ext (hm.x.trans hwx)
 have hj1 := fun wx (hwx : Ext w wx) => HJ.out.ext (hm.x.trans hwx)
 have hl1 := fun wx (hwx : Ext w wx) => HL.out.ext (hm.x.trans hwx)
 have hr1 := fun wx (hwx : Ext w wx) => HRK.out wx (hm.x.trans hwx)
 have hx0 := hm.x
 refine region_at 26 (fun w' => Ext _ w') 77 (by kernel_rfl) (by kernel_rfl) rfl (fun _ _ h k => h.trans k) (drew_ext _) ?_
 simp only [tSC, List.take_zero, dSC, List.drop_zero, List.map_cons, List.map_nil]
 repeat (first
     | (apply walk_is rfl rfl rfl
        · (intro wx hwx; (with_reducible apply gq_rdW ((hi1) wx hwx)); infer_instance; exact rfl; (focus (first | rfl | omega | (simp; done) | (simp; omega))))
        · (simp only [Act.put, sIB, sCS, sCZ]; rfl))
     | (apply walk_is rfl rfl rfl
        · (intro wx hwx; (with_reducible apply gq_rdW ((hj1) wx hwx)); infer_instance; exact rfl; (focus (first | rfl | omega | (simp; done) | (simp; omega))))
        · (simp only [Act.put, sIB, sCS, sCZ]; rfl))
     | (apply walk_is rfl rfl rfl
        · (intro wx hwx; (with_reducible apply gq_rdW ((hl1) wx hwx)); infer_instance; exact rfl; (focus (first | rfl | omega | (simp; done) | (simp; omega))))
        · (simp only [Act.put, sIB, sCS, sCZ]; rfl))
     | (apply walk_is rfl rfl rfl
        · (intro wx hwx; (with_reducible apply gq_row1 ((hr1) wx hwx)); infer_instance; exact rfl; exact PT.out)
        · (simp only [Act.put, sIB, sCS, sCZ]; rfl))
     | (apply walk_some (KeysS ([O])) 33 (KeysS.stable _) rfl rfl rfl rfl; (intro wx hwx; exact gq_bs1 (hk1.out) (bs_run1 O lO wx) rfl))
     | (apply walk_some (KeysS ([K.j, K.i, K.l, zer 16])) 48 (KeysS.stable _) rfl rfl rfl rfl; (intro wx hwx; exact gq_bs4 (hk4.out) (bs_run4 K.j K.i K.l (zer 16) lj li ll lz wx) rfl rfl rfl rfl))
     | (apply walk_from (T := [(33, KeysS [O])]) rfl rfl
        · (intro wx hwx; simp only [withS]; (rintro x_ ⟨p, c, rfl, hlc, hk'⟩); refine ⟨rfl, ?_⟩; go_simp; exact gives_call (D2.out wx p c hlc hk'))
        · (simp only [Act.put, sIB, sCS, sCZ]; rfl))
     | (apply walk_from (T := [(48, KeysS [K.j, K.i, K.l, zer 16])]) rfl rfl
        · (intro wx hwx; simp only [withS]; (rintro x_ ⟨p, c, rfl, hlc, hk'⟩); refine ⟨rfl, ?_⟩; go_simp; exact gives_call (D3.out wx p c hlc hk' (HRT.out wx (hx0.trans hwx))))
        · (simp only [Act.put, sIB, sCS, sCZ]; rfl))
     | (apply walk_is rfl rfl rfl; (intro wx hwx; (with_reducible apply gq_build build_z16); (first | rfl | simp [Act.eval] | kernel_rfl)); (simp only [Act.put, sIB, sCS, sCZ]; rfl))
     | (apply walk_is rfl rfl rfl
        · (intro wx hwx; first | ((with_reducible show gives _ _ _ (Sem.run _ (execOp _ (Oper.mk _ (Op.load _ _) _ _ _ _)) _)); first | ((with_reducible apply gq_ldW (hm.ext hwx)); infer_instance; exact rfl; (focus ((repeat (first | exact .hd | assumption | apply Has.tl | apply Has.app)); done)); (focus (first | rfl | omega | (simp; done) | (simp; omega))))) | (go_simp; (try go_bits); first | exact gives_same | exact gives_skip | with_reducible exact gives_call (D1.out wx (hx0.trans hwx))))
        · (simp only [Act.put, sIB, sCS, sCZ]; rfl))
     | (apply walk_not rfl rfl rfl
        · (simp only [Act.put, sIB, sCS, sCZ]; rfl)))
 intro wz hwz
 simp only [zCC, zNR]
 repeat (first | rw [fin_is] | (rw [fin_cons]; intro _ _))
 rw [fin_nil]
 try (replace hm := hm.ext hwz)
 simp only [Act.put, sIB, sCS, sCZ]
 clear hi1 hj1 hl1 hr1 hx0
 go_wp2_with (first | ((((with_reducible show qSt); first | ((with_reducible apply wq_stW hm); exact rfl; infer_instance; exact rfl; exact rfl; (focus ((repeat (first | exact .hd | assumption | apply Swap.tl | apply Swap.app)); done)); (focus (first | rfl | omega | (simp; done) | (simp; omega))); (focus (first | rfl | omega | (simp; done) | (simp; omega))); (focus (first | exact one_map _ | (simp [one8, one32, one64]; done)))))); clear hm; intro w hm))
 refine ret_own hm rfl rfl (by infer_instance) (by repeat (first | exact Has.hd | assumption | apply Has.tl | apply Has.app)) (by first | rfl | omega | (simp only [zeros_length, zer_length, tab_length, part_length, setN_length, List.length_map, List.length_cons, List.length_nil, List.length_append, List.length_take, List.length_drop, List.length_replicate, blk_length, putL_length] <;> omega)) rfl ⟨rfl, hm.x⟩
def tenF (K : KeyP) : Nat → List (List Byte)
 | 0 => []
 | k + 1 => tenF K k ++ [K.at ((k % 3 : Nat) : Int)]
theorem tenF_length (K : KeyP) : ∀ k, (tenF K k).length = k
 | 0 => rfl
 | k + 1 => by rw [tenF, List.length_append, tenF_length K k]; rfl
theorem tenF_each {K : KeyP} (h : K.Ok) : ∀ k, ∀ b ∈ tenF K k, b.length = 16
 | 0 => by simp [tenF]
 | k + 1 => by
   intro b hb
   rw [tenF, List.mem_append, List.mem_singleton] at hb
   rcases hb with hb | rfl
   · exact tenF_each h k b hb
   · exact KeyP.at_length h _
set_option maxHeartbeats 4000000 in
theorem e_ten (g : Nat) (K : KeyP) (i : Nat) (x : List Byte) (hx : x.length = 16) (w0 : World) (hk : KeyR w0 g K) (hi : i ≤ 9223372036854775807) : Gives Tryz.prog 190 #[.pointer (some ⟨g, 0, none⟩), .int .i64 (-1), .int .i64 i, A8 x] w0 (A8 (eT K i x)) := by
 unfold Gives
 have hm := Own.start w0
 have HL := Lib.hid hk.rdl
 have ll := hk.1.hl
 obtain ⟨hok, gt, gb, hrk, hrt⟩ := id hk
 have HRK := Lib.hid fun (wx : World) (h : Ext w0 wx) => row_ext hrk h
 have HRT := Lib.hid fun (wx : World) (h : Ext w0 wx) => row_ext hrt h
 have PT : Hid ((kcells gt K)[0]? = some (.pointer (some ⟨gt, 0, none⟩))) := Lib.hid rfl
 have HK := Lib.hid fun (wx : World) (h : Ext w0 wx) => hk.ext h
 have OK := Lib.hid hok
 have e2 : decide ((i : Int) < 0) = false := decide_eq_false (by omega)
 have D1 : Hid (∀ wx, Gives Tryz.prog 203 #[.int .u64 (i : Int), A8 K.l] wx (A8 (mulL (BitVec.ofNat 64 i) K.l))) := Lib.hid fun wx => by rw [natv64 (by omega)]; exact ring_mul _ K.l ll wx
 have lO := mulL_length (BitVec.ofNat 64 i) K.l
 have D2 : Hid (∀ (wx : World) (p : Option Addr) (c : Nat), 1 ≤ c → RdK wx p 16 [mulL (BitVec.ofNat 64 i) K.l] → Gives Tryz.prog 201 #[A8 x, .slice p 1 c] wx (A8 (bothL x (mulL (BitVec.ofNat 64 i) K.l)))) := Lib.hid fun wx p c hc h => ezplus_any x [mulL (BitVec.ofNat 64 i) K.l] p c hx wx h hc (by simp)
 have lX : (bothL x (mulL (BitVec.ofNat 64 i) K.l)).length = 16 := bothL_length _ _
 have D3 : Hid (∀ (wx : World) (p : Option Addr) (c : Nat), 10 ≤ c → RdK wx p 16 (tenF K 10) → Row wx gt 66 (tcells gb mixT unmixT) → Gives Tryz.prog 59 #[.pointer (some ⟨gt, 0, none⟩), A8 (bothL x (mulL (BitVec.ofNat 64 i) K.l)), .slice p 10 c] wx (A8 (eT K i x))) := Lib.hid fun wx p c hc h hr => trounds_any gt gb (bothL x (mulL (BitVec.ofNat 64 i) K.l)) (tenK K) p c lX wx h hc (by simp [tenK]) hr
 have lE := eT_length K i x
 have hk1 : Hid (∀ k ∈ [mulL (BitVec.ofNat 64 i) K.l], k.length = 16) := Lib.hid (by simp [lO])
 have ha1 := Nat.le_of_eq hx
 have ha2 := Nat.le_of_eq hx.symm
 have EACH := Lib.hid (tenF_each hok)
 have LEN := Lib.hid (tenF_length K)
 generalize eT K i x = Y at *
 generalize bothL x (mulL (BitVec.ofNat 64 i) K.l) = X at *
 generalize mulL (BitVec.ofNat 64 i) K.l = O at *
 clear hk hok hrk hrt
 go_enter Tryz.func190, Tryz.ntmps190
 go_wp2_with (first | ((first | ((with_reducible show qAl); first | ((with_reducible apply wq_new hm); exact rfl; infer_instance)) | ((with_reducible show qBx); first | ((with_reducible apply wq_boxN hm); exact rfl; exact rfl))); clear hm; (first | (have hx_ := g1; clear hx_; (first | (have hx_ := g2; clear hx_; intro gx_) | intro g2)) | intro g1); intro w hm))
 go_loopw [9, 50] (fun v n wr => ∃ (k : Nat) (M : List Blk), k ≤ 10 ∧ n = .int .i64 k ∧ SlO M 94 16 v k (catV (tenF K k)) ∧ Own w0 wr (M ++ [⟨g2, 94, (zer 16).map v8⟩, ⟨g1, 94, x.map v8⟩])) (fun _ n _ => 10 - (intOf n).toNat)
 case atStart => exact ⟨0, [], by omega, rfl, SlO.nil _ _, hm⟩
 case round =>
   obtain ⟨k, M, hk, rfl, hso, hm⟩ := hrel
   obtain ⟨p0, c0, rfl⟩ := hso.form
   have HSO := Lib.hid hso
   clear hso
   by_cases hlt : k < 10
   · have hd : decide ((k : Int) < 10) = true := decide_eq_true (by omega)
     obtain ⟨r, hr, hr8⟩ : ∃ r : Nat, k % 3 = r ∧ r < 3 := ⟨_, rfl, Nat.mod_lt _ (by omega)⟩
     have a1 : (k : Int) % 3 = (r : Int) := by omega
     have a2 : (k : Int).tmod 3 = (r : Int) := by rw [Int.tmod_eq_emod_of_nonneg (by omega)]; exact a1
     have CP := Lib.hid fun (wx : World) (h : Ext w0 wx) => part_any g K r wx (HK.out wx h)
     have lP := KeyP.at_length OK.out (r : Int)
     have EP : Hid (tenF K (k + 1) = tenF K k ++ [K.at (r : Int)]) := Lib.hid (by rw [tenF, hr])
     have hkp : Hid (∀ b ∈ [K.at (r : Int)], b.length = 16) := Lib.hid (by simp [lP])
     generalize K.at (r : Int) = B at *
     clear hr
     have lcat : (catV [B]).length = 1 * 16 := catV_length 16 [B] hkp.out
     go_wp2_with (first | (go_at_call 174; (with_reducible refine (CP.out _ hm.x).mono ?_); rintro e_ w ⟨rfl, hx_⟩; replace hm := hm.ext hx_; clear hx_) | ((with_reducible apply wq_bs1 hm (bs_run1 B lP _)); exact rfl; exact rfl; clear hm; intro gk w hm) | ((with_reducible show wpList _ _ _ (Oper.mk _ (Op.call _) _ _ _ _ :: _) _ _); refine wplO_app (M := M) (R := _) (ds := catV [B]) (hm.perm (List.perm_middle.symm)) HSO.out rfl rfl rfl rfl Tryz.underlying138 lcat (RdK.cells ⟨hkp.out, RdB.of_row (hm.row (by repeat (first | exact Has.hd | assumption | apply Has.tl | apply Has.app)))⟩) (catV_one _) (by omega) ?_; clear hm; intro v1 w M1 hm hs1; obtain ⟨p_v1, c_v1, rfl⟩ := hs1.form; replace hm := hm.perm (List.perm_middle)))
     go_roundw
     case rel => exact ⟨k + 1, M1, by omega, by go_num, by rw [EP.out, catV_append]; exact hs1, hm.drop⟩
     case measure => simp [intOf] <;> omega
   · obtain rfl : k = 10 := by omega
     have hd : decide (((10 : Nat) : Int) < 10) = false := decide_eq_false (by omega)
     obtain ⟨hk10, hn10, hc10⟩ := slo_rdK HSO.out (EACH.out 10) hm
     have HK10 := Lib.hid hk10
     clear hk10 hn10
     go_wp2_with fail
     have hl1 := fun wx (hwx : Ext wr wx) => HL.out.ext (hm.x.trans hwx)
     have hr1 := fun wx (hwx : Ext wr wx) => HRK.out wx (hm.x.trans hwx)
     have hx0 := hm.x
     refine region_at 16 (fun w' => Ext _ w') 77 (by kernel_rfl) (by kernel_rfl) rfl (fun _ _ h k => h.trans k) (drew_ext _) ?_
     simp only [tSC, List.take_zero, dSC, List.drop_zero, List.map_cons, List.map_nil]
     repeat (first
         | (apply walk_is rfl rfl rfl
            · (intro wx hwx; (with_reducible apply gq_rdW ((hl1) wx hwx)); infer_instance; exact rfl; (focus (first | rfl | omega | (simp; done) | (simp; omega))))
            · (simp only [Act.put, sIB, sCS, sCZ]; rfl))
         | (apply walk_is rfl rfl rfl
            · (intro wx hwx; (with_reducible apply gq_row1 ((hr1) wx hwx)); infer_instance; exact rfl; exact PT.out)
            · (simp only [Act.put, sIB, sCS, sCZ]; rfl))
         | (apply walk_some (KeysS ([O])) 73 (KeysS.stable _) rfl rfl rfl rfl; (intro wx hwx; exact gq_bs1 (hk1.out) (bs_run1 O lO wx) rfl))
         | (apply walk_from (T := [(73, KeysS [O])]) rfl rfl
            · (intro wx hwx; simp only [withS]; (rintro x_ ⟨p, c, rfl, hlc, hk'⟩); refine ⟨rfl, ?_⟩; go_simp; exact gives_call (D2.out wx p c hlc hk'))
            · (simp only [Act.put, sIB, sCS, sCZ]; rfl))
         | (apply walk_is rfl rfl rfl
            · (intro wx hwx; first | ((with_reducible show gives _ _ _ (Sem.run _ (execOp _ (Oper.mk _ (Op.load _ _) _ _ _ _)) _)); first | ((with_reducible apply gq_ldW (hm.ext hwx)); infer_instance; exact rfl; (focus ((repeat (first | exact .hd | assumption | apply Has.tl | apply Has.app)); done)); (focus (first | rfl | omega | (simp; done) | (simp; omega))))) | (go_simp; (try go_bits); first | exact gives_same | exact gives_skip | with_reducible exact gives_call (D1.out wx) | exact gives_call (D3.out wx p0 c0 hc10 (HK10.out.ext hwx) (HRT.out wx (hx0.trans hwx)))))
            · (simp only [Act.put, sIB, sCS, sCZ]; rfl))
         | (apply walk_not rfl rfl rfl
            · (simp only [Act.put, sIB, sCS, sCZ]; rfl)))
     intro wz hwz
     simp only [zCC, zNR]
     repeat (first | rw [fin_is] | (rw [fin_cons]; intro _ _))
     rw [fin_nil]
     try (replace hm := hm.ext hwz)
     simp only [Act.put, sIB, sCS, sCZ]
     clear hl1 hr1 hx0
     go_wp2_with (first | ((((with_reducible show qSt); first | ((with_reducible apply wq_stW hm); exact rfl; infer_instance; exact rfl; exact rfl; (focus ((repeat (first | exact .hd | assumption | apply Swap.tl | apply Swap.app)); done)); (focus (first | rfl | omega | (simp; done) | (simp; omega))); (focus (first | rfl | omega | (simp; done) | (simp; omega))); (focus (first | exact one_map _ | (simp [one8, one32, one64]; done)))))); clear hm; intro w hm))
     refine ret_own hm rfl rfl (by infer_instance) (by repeat (first | exact Has.hd | assumption | apply Has.tl | apply Has.app)) (by first | rfl | omega | (simp only [zeros_length, zer_length, tab_length, part_length, setN_length, List.length_map, List.length_cons, List.length_nil, List.length_append, List.length_take, List.length_drop, List.length_replicate, blk_length, putL_length] <;> omega)) rfl ⟨rfl, hm.x⟩
theorem KeyR.e {w : World} {g : Nat} {K : KeyP} (h : KeyR w g K) (j i : Int) (x : List Byte) (hx : x.length = 16) (hj : j ≤ 9223372036854775807) (hi : i ≤ 9223372036854775807) : Gives Tryz.prog 190 #[.pointer (some ⟨g, 0, none⟩), .int .i64 j, .int .i64 i, A8 x] w (A8 (eZ K j i x)) := by
 by_cases hn : j < -1 ∨ i < 0
 · rw [eZ, if_pos hn]; exact e_neg g j i x hx w hn
 · rw [eZ, if_neg hn]
   by_cases h0 : j < 0
   · rw [if_pos h0]
     obtain rfl : j = -1 := by omega
     have := e_ten g K i.toNat x hx w h (by omega)
     rwa [Int.toNat_of_nonneg (by omega)] at this
   · rw [if_neg h0]
     have := e_pos g K j.toNat i.toNat x hx w h (by omega) (by omega)
     rwa [Int.toNat_of_nonneg (by omega), Int.toNat_of_nonneg (by omega)] at this
theorem build_keys (gt : Nat) (a b c : List Byte) (ha : a.length = 16) (hb : b.length = 16) (hc : c.length = 16) (w : World) : (Instr.build 119 #[(0, .pointer (some ⟨gt, 0, none⟩)), (1, A8 a), (2, A8 b), (3, A8 c)]).run Tryz.prog w = .ok (.agg (kcells gt ⟨a, b, c⟩).toArray) w := by
 obtain ⟨a0, a1, a2, a3, a4, a5, a6, a7, a8, a9, a10, a11, a12, a13, a14, a15, rfl⟩ := len16 a ha
 obtain ⟨b0, b1, b2, b3, b4, b5, b6, b7, b8, b9, b10, b11, b12, b13, b14, b15, rfl⟩ := len16 b hb
 obtain ⟨c0, c1, c2, c3, c4, c5, c6, c7, c8, c9, c10, c11, c12, c13, c14, c15, rfl⟩ := len16 c hc
 kernel_rfl
theorem RdB.drop {w : World} {a : Addr} {l : List Byte} (h : RdB w (some a) l) (k : Nat) : RdB w (some (a.add k)) (l.drop k) :=
 ⟨fun _ => rfl, fun i hi => by
   simp only [List.length_drop] at hi
   have := h.2 (k + i) (by omega)
   simp only [Option.getD_some] at this ⊢
   rw [add_add, this]
   simp [List.getElem?_drop]⟩
set_option maxHeartbeats 4000000 in
theorem ext_ok (gt gb : Nat) (key : List Byte) (p : Option Addr) (c : Nat) (w0 : World) (h0 : 0 < key.length) (h1 : key.length ≤ 128) (hkc : key.length ≤ c) (hk : RdB w0 p key) (hc : CoefB w0) (hrt : Row w0 gt 66 (tcells gb mixT unmixT)) :
   Calls Tryz.prog 36 #[.pointer (some ⟨gt, 0, none⟩), .slice p key.length c] w0 fun e w' => ∃ g, e = .returned (.tuple #[.pointer (some ⟨g, 0, none⟩), .int .i64 0]) ∧ w0.heap.size ≤ g ∧ Row w' g 119 (kcells gt (keyOf key)) ∧ Ext w0 w' := by
 have hm := Own.start w0
 have HC := Lib.hid hc
 have HK := Lib.hid hk
 have HR := Lib.hid fun (wx : World) (h : Ext w0 wx) => row_ext hrt h
 have OK := Lib.hid (keyOf_ok key)
 have b1 : ((key.length : Int) == 0) = false := by rw [beq_eq_false_iff_ne]; omega
 have b2 : ¬ (128 : Int) < (key.length : Int) := by omega
 have b3 : decide ((128 : Int) < (key.length : Int)) = false := decide_eq_false b2
 have lb := keyB_length key
 have D1 := Lib.hid fun (wx : World) (a : Addr) (c : Nat) (h : RdB wx (some a) (keyB key)) => show Gives Tryz.prog 46 #[.slice (some a) 48 c] wx (A8 (blk (keyB key))) from lb ▸ oblock_any (keyB key) (some a) c wx h
 have D2 := Lib.hid fun (wx : World) (a : Addr) (c : Nat) (h : RdB wx (some a) (keyB key)) => show Gives Tryz.prog 46 #[.slice (some (a.add 16)) 32 c] wx (A8 (blk ((keyB key).drop 16))) from (show ((keyB key).drop 16).length = 32 by rw [List.length_drop, lb]) ▸ oblock_any ((keyB key).drop 16) (some (a.add 16)) c wx (h.drop 16)
 have D3 := Lib.hid fun (wx : World) (a : Addr) (c : Nat) (h : RdB wx (some a) (keyB key)) => show Gives Tryz.prog 46 #[.slice (some (a.add 32)) 16 c] wx (A8 (blk ((keyB key).drop 32))) from (show ((keyB key).drop 32).length = 16 by rw [List.length_drop, lb]) ▸ oblock_any ((keyB key).drop 32) (some (a.add 32)) c wx (h.drop 32)
 have BK := Lib.hid (build_keys gt (blk (keyB key)) (blk ((keyB key).drop 16)) (blk ((keyB key).drop 32)) (blk_length _) (blk_length _) (blk_length _))
 have EK : Hid (keyOf key = ⟨blk (keyB key), blk ((keyB key).drop 16), blk ((keyB key).drop 32)⟩) := Lib.hid rfl
 have EB := Lib.hid (show key.length = 48 → keyB key = key by intro h; rw [keyB, if_pos h])
 have ES := Lib.hid (show ¬ key.length = 48 → keyB key = sumL 48 [] key by intro h; rw [keyB, if_neg h])
 have CB := Lib.hid (bsum_ok 48 [] none 0 key p c (by omega) (by omega) (by simp) (by omega) w0 w0 [] hc (fun w' M h => RdB.nil _ _) (fun w' M h => hk.ext h.x) (Own.start w0))
 generalize blk ((keyB key).drop 16) = J at *
 generalize blk ((keyB key).drop 32) = L at *
 generalize blk (keyB key) = I at *
 generalize keyB key = B at *
 generalize keyOf key = K at *
 have AD : ∀ (a : Addr) (n : Nat), 0 < n → a.add n = { block := a.block, off := a.off + n } := fun a n hn => by unfold Addr.add; split <;> first | rfl | omega | (simp_all; done)
 have d2 := D2.out
 have d3 := D3.out
 simp only [AD _ 16 (by omega)] at d2
 simp only [AD _ 32 (by omega)] at d3
 replace D2 := Lib.hid d2
 replace D3 := Lib.hid d3
 have LB := Lib.hid lb
 clear hc hk hrt lb d2 d3 AD
 by_cases h48 : key.length = 48
 · obtain rfl := EB.out h48
   obtain ⟨a, rfl⟩ := Option.isSome_iff_exists.1 (HK.out.1 (by omega))
   have c1 : ¬ c = 16 := by omega
   have c2 : ¬ c = 32 := by omega
   have c3 : ¬ (c : Int) = 16 := by omega
   have c4 : ¬ (c : Int) = 32 := by omega
   have c5 : (48 : Int) ≤ (c : Int) := by omega
   have c6 : 48 ≤ c := by omega
   rw [h48]
   clear h0 h1 hkc b1 b2 b3 h48 CB EB ES
   go_enter Tryz.func36, Tryz.ntmps36
   go_wp2_with fail
   have hr1 := fun wx (hwx : Ext w0 wx) => HK.out.ext hwx
   refine region_new 11 (fun w' => Ext _ w') 37 (by kernel_rfl) (by kernel_rfl) rfl (fun _ _ h k => h.trans k) (drew_ext _) ?_
   simp only [tSC, List.take_zero, dSC, List.drop_zero, List.map_cons, List.map_nil]
   repeat (first
       | (apply walk_some (NewS (w0.heap.size) 119 (kcells gt ⟨I, J, L⟩)) 36 (NewS.stable _ _ _) rfl rfl rfl rfl
          · (intro wx hwx; go_simp; exact gives_new (cs := kcells gt ⟨I, J, L⟩) hwx.size))
       | (apply walk_is rfl rfl rfl; (intro wx hwx; (with_reducible apply gq_build BK.out); (first | rfl | simp [Act.eval] | kernel_rfl)); (simp only [Act.put, sIB, sCS, sCZ]; rfl))
       | (apply walk_is rfl rfl rfl
          · (intro wx hwx; go_simp; (try go_bits); first | exact gives_same | exact gives_skip | with_reducible exact gives_call (D1.out wx a _ (hr1 wx hwx)) | with_reducible exact gives_call (D2.out wx a _ (hr1 wx hwx)) | with_reducible exact gives_call (D3.out wx a _ (hr1 wx hwx)))
          · (simp only [Act.put, sIB, sCS, sCZ]; rfl))
       | (apply walk_not rfl rfl rfl
          · (simp only [Act.put, sIB, sCS, sCZ]; rfl)))
   intro wz hwz
   simp only [zCC, zNR]
   repeat rw [fin_is]
   rw [fin_cons]; intro x36 hx36
   repeat rw [fin_is]
   rw [fin_nil]; intro hap
   simp only [Act.put, sIB, sCS, sCZ] at hap ⊢
   obtain ⟨gk, rfl, hgk, hrk⟩ := hx36
   go_wp2
   go_ret2
   exact ⟨gk, rfl, hgk, EK.out ▸ hrk, hwz⟩
 · have EBS := ES.out h48
   have n48 : ((key.length : Int) != 48) = true := by rw [bne_iff_ne]; omega
   clear h0 h1 hkc h48 EB ES
   go_enter Tryz.func36, Tryz.ntmps36
   go_wp2_with fail
   refine CB.out.mono ?_
   rintro e w ⟨x, rfl, hbs, M, hmM⟩
   replace hm := hmM.x
   rw [← EBS] at hbs
   obtain ⟨px, cx, rfl, hcx, hrx⟩ := hbs
   rw [LB.out] at hcx ⊢
   obtain ⟨a, rfl⟩ := Option.isSome_iff_exists.1 (hrx.1 (by rw [LB.out]; omega))
   have c1 : ¬ cx = 16 := by omega
   have c2 : ¬ cx = 32 := by omega
   have c3 : ¬ (cx : Int) = 16 := by omega
   have c4 : ¬ (cx : Int) = 32 := by omega
   have c5 : (48 : Int) ≤ (cx : Int) := by omega
   clear EBS CB hmM
   go_wp2_with fail
   have hr1 := fun wx (hwx : Ext w wx) => hrx.ext hwx
   refine region_new 11 (fun w' => Ext _ w') 37 (by kernel_rfl) (by kernel_rfl) rfl (fun _ _ h k => h.trans k) (drew_ext _) ?_
   simp only [tSC, List.take_zero, dSC, List.drop_zero, List.map_cons, List.map_nil]
   repeat (first
       | (apply walk_some (NewS (w.heap.size) 119 (kcells gt ⟨I, J, L⟩)) 36 (NewS.stable _ _ _) rfl rfl rfl rfl
          · (intro wx hwx; go_simp; exact gives_new (cs := kcells gt ⟨I, J, L⟩) hwx.size))
       | (apply walk_is rfl rfl rfl; (intro wx hwx; (with_reducible apply gq_build BK.out); (first | rfl | simp [Act.eval] | kernel_rfl)); (simp only [Act.put, sIB, sCS, sCZ]; rfl))
       | (apply walk_is rfl rfl rfl
          · (intro wx hwx; go_simp; (try go_bits); first | exact gives_same | exact gives_skip | with_reducible exact gives_call (D1.out wx a _ (hr1 wx hwx)) | with_reducible exact gives_call (D2.out wx a _ (hr1 wx hwx)) | with_reducible exact gives_call (D3.out wx a _ (hr1 wx hwx)))
          · (simp only [Act.put, sIB, sCS, sCZ]; rfl))
       | (apply walk_not rfl rfl rfl
          · (simp only [Act.put, sIB, sCS, sCZ]; rfl)))
   intro wz hwz
   simp only [zCC, zNR]
   repeat rw [fin_is]
   rw [fin_cons]; intro x36 hx36
   repeat rw [fin_is]
   rw [fin_nil]; intro hap
   simp only [Act.put, sIB, sCS, sCZ] at hap ⊢
   obtain ⟨gk, rfl, hgk, hrk⟩ := hx36
   go_wp2
   go_ret2
   exact ⟨gk, rfl, Nat.le_trans hm.size hgk, EK.out ▸ hrk, hm.trans hwz⟩
def rightL (key : List Byte) : Bool := decide (0 < key.length) && decide (key.length ≤ 128)
theorem KeyR.own {w0 w : World} {L : List Blk} {g gt gb : Nat} {K : KeyP} (ok : K.Ok) (hm : Own w0 w L) (h1 : Has L ⟨g, 119, kcells gt K⟩) (h2 : Has L ⟨gt, 66, tcells gb mixT unmixT⟩) : KeyR w g K := ⟨ok, gt, gb, hm.row h1, hm.row h2⟩
end Go.Proofs.YtdmgchdhilcncaaGreatDoor
