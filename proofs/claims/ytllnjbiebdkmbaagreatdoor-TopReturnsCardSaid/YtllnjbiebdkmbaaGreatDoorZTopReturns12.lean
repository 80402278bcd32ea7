/-
  Texts of the program, walked, and plain ones. Conditions: those written in each theorem.
-/
import Derived.Test.YtllnjbiebdkmbaaGreatDoorZTopReturns0
import Derived.Test.YtllnjbiebdkmbaaGreatDoorZTopReturns11
import Derived.Test.YtllnjbiebdkmbaaGreatDoorZTopReturns8
import Derived.Test.YtllnjbiebdkmbaaGreatDoorZTopReturns6
import Derived.Test.YtllnjbiebdkmbaaGreatDoorZTopReturns10
import Derived.Test.YtllnjbiebdkmbaaGreatDoorZTopReturns3
import Derived.Test.YtllnjbiebdkmbaaGreatDoorZTopReturns5
import Derived.Test.YtllnjbiebdkmbaaGreatDoorZTopReturns4
import Derived.Test.YtllnjbiebdkmbaaGreatDoorZTopReturns9
import Derived.Test.YtllnjbiebdkmbaaGreatDoorZTopReturns7
set_option linter.unusedSimpArgs false
set_option linter.unusedVariables false
set_option maxHeartbeats 16000000
namespace Go.Proofs.YtllnjbiebdkmbaaGreatDoor
open Go Go.RowKit
set_option maxRecDepth 100000
def dcF(ks:List (List Byte))(x:List Byte):Nat→List Byte
 |0=>x
 |c+1=>unr (dcF ks x c) (ks.getD (ks.length-1-c) [])
theorem dcF_length(ks:List (List Byte))(x:List Byte)(hx:x.length=16):∀c,(dcF ks x c).length=16
 |0=>hx
 |c+1=>unr_length _ _
def aesD(k0:List Byte)(ks:List (List Byte))(kl b:List Byte):List Byte:=bothL (dcF ks (unl b kl) ks.length) k0
theorem aesD_length(k0:List Byte)(ks:List (List Byte))(kl b:List Byte):(aesD k0 ks kl b).length=16:=bothL_length _ _
theorem dcF_rnds(ks:List (List Byte))(x:List Byte)(hx:x.length=16):∀c,c≤ks.length→dcF ks (rnds x ks) c=rnds x (ks.take (ks.length-c))
 |0,_=>by rw [dcF,Nat.sub_zero,List.take_length]
 | c +1,h=>by
   rw [dcF,dcF_rnds ks x hx c (by omega)]
   have e:ks.take (ks.length-c)=ks.take (ks.length-(c+1))++[ks.getD (ks.length-1-c) []]:=by
     rw [show ks.length-c=(ks.length-(c+1))+1 from by omega,List.take_add_one,List.getD_eq_getElem?_getD,show ks.length-1-c=ks.length-(c+1)from by omega,List.getElem?_eq_getElem (by omega)]
     rfl
   rw [e,rnds_append]
   exact unr_rnd _ _ (rnds_length _ _ hx)
theorem aesD_aesE(k0:List Byte)(ks:List (List Byte))(kl b:List Byte)(hb:b.length=16):aesD k0 ks kl (aesE k0 ks kl b)=b:=by
 have lx:=bothL_length b k0
 rw [aesD,aesE,unl_last _ _ (rnds_length _ _ lx),dcF_rnds ks _ lx _ (Nat.le_refl _),Nat.sub_self,List.take_zero]
 exact both_back b k0 hb
structure KeyP where
 i:List Byte
 j:List Byte
 l:List Byte
structure KeyP.Ok (K:KeyP):Prop where
 hi:K.i.length=16
 hj:K.j.length=16
 hl:K.l.length=16
def keyB(key:List Byte):List Byte:=if key.length=48 then key else sumL 48 [] key
theorem keyB_length(key:List Byte):(keyB key).length=48:=by
 unfold keyB;split
 · assumption
 · exact sumL_length _ _ _ (by omega)
def keyOf(key:List Byte):KeyP:=⟨blk (keyB key),blk ((keyB key).drop 16),blk ((keyB key).drop 32)⟩
theorem keyOf_ok(key:List Byte):(keyOf key).Ok:=⟨blk_length _,blk_length _,blk_length _⟩
theorem gb_nth(l:List Byte)(i:Nat):gb l i=nth l i:=gb_in l i
theorem blk_nth(l:List Byte)(i:Nat)(h:i<16):nth (blk l) i=nth l i:=by
 rw [←gb_nth l i];simp [nth,blk,h]
theorem blk_eq(l m:List Byte)(h:∀i,i<16→nth l i=nth m i):blk l=blk m:=nth_ext (by rw [blk_length,blk_length]) fun i hi=>by
 rw [blk_length]at hi;rw [blk_nth _ _ hi,blk_nth _ _ hi,h i hi]
theorem blk_self(l:List Byte)(h:l.length=16):blk l=l:=nth_ext (by rw [blk_length,h]) fun i hi=>by rw [blk_length]at hi;exact blk_nth _ _ hi
def KeyP.at(K:KeyP)(n:Int):List Byte:=if n=0 then K.i else if n=1 then K.j else if n=2 then K.l else zer 16
theorem KeyP.at_length {K:KeyP}(h:K.Ok)(n:Int):(K.at n).length=16:=by
 unfold KeyP.at;split
 · exact h.hi
 · split
   · exact h.hj
   · split
     · exact h.hl
     · exact zer_length
def upN(i:Nat):Nat:=i/8+min (i%8) 1
def offN(K:KeyP)(j i:Nat):List Byte:=bothL (bothL (mulL (BitVec.ofNat 64 j) K.j) (dblN K.i (upN i))) (mulL (BitVec.ofNat 64 (i%8)) K.l)
theorem offN_length(K:KeyP)(j i:Nat):(offN K j i).length=16:=bothL_length _ _
def fourK(K:KeyP):List (List Byte):=[K.j,K.i,K.l,zer 16]
def tenK(K:KeyP):List (List Byte):=[K.i,K.j,K.l,K.i,K.j,K.l,K.i,K.j,K.l,K.i]
def eN(K:KeyP)(j i:Nat)(x:List Byte):List Byte:=rnds (bothL x (offN K j i)) (fourK K)
def eT(K:KeyP)(i:Nat)(x:List Byte):List Byte:=rnds (bothL x (mulL (BitVec.ofNat 64 i) K.l)) (tenK K)
def eZ(K:KeyP)(j i:Int)(x:List Byte):List Byte:=if j< -1∨i<0 then zer 16 else if j<0 then eT K i.toNat x else eN K j.toNat i.toNat x
def offZ(K:KeyP)(j i:Int):List Byte:=if j<0∨i<0 then zer 16 else offN K j.toNat i.toNat
theorem eN_length(K:KeyP)(j i:Nat)(x:List Byte):(eN K j i x).length=16:=rnds_length _ _ (bothL_length _ _)
theorem eT_length(K:KeyP)(i:Nat)(x:List Byte):(eT K i x).length=16:=rnds_length _ _ (bothL_length _ _)
theorem eZ_length(K:KeyP)(j i:Int)(x:List Byte):(eZ K j i x).length=16:=by
 unfold eZ;split
 · exact zer_length
 · split
   · exact eT_length _ _ _
   · exact eN_length _ _ _ _
def partF(F:Int→List Byte→List Byte)(b:List Byte):Nat→List Byte
 |0=>zer 16
 |n+1=>bothL (partF F b n) (F ((n:Int)+1) (blk (b.drop (16*n))))
theorem partF_length(F:Int→List Byte→List Byte)(b:List Byte):∀n,(partF F b n).length=16
 |0=>zer_length
 |_+1=>bothL_length _ _
def partG(F:Int→List Byte→List Byte)(b:List Byte):List Byte:=
 if b.length=0∨b.length%16≠0 then bothL (partF F b (b.length/16)) (F 0 (blk (b.drop (16*(b.length/16))++[128#8])))else partF F b (b.length/16)
theorem partG_length(F:Int→List Byte→List Byte)(b:List Byte):(partG F b).length=16:=by
 unfold partG;split
 · exact bothL_length _ _
 · exact partF_length _ _ _
theorem blk_marked(l:List Byte)(h:l.length<16):blk (marked l 128#8 16)=blk (l++[128#8]):=blk_eq _ _ fun i _=>by
 unfold marked pad
 by_cases h1:i<(l++[128#8]).length
 · simp only [nth,List.getD_eq_getElem?_getD]
   rw [List.getElem?_append_left h1]
 · rw [nth_ge (l:=l++[128#8]) (by omega)]
   simp only [nth,List.getD_eq_getElem?_getD]
   rw [List.getElem?_append_right (by omega),List.getElem?_replicate]
   split<;>rfl
def hashF(F:Int→Int→List Byte→List Byte)(ls:List (List Byte)):Nat→List Byte
 |0=>zer 16
 |n+1=>bothL (hashF F ls n) (partG (F ((n:Int)+3)) (ls.getD n []))
theorem hashF_length(F:Int→Int→List Byte→List Byte)(ls:List (List Byte)):∀n,(hashF F ls n).length=16
 |0=>zer_length
 |_+1=>bothL_length _ _
def hashG(F:Int→Int→List Byte→List Byte)(ls:List (List Byte)):List Byte:=hashF F ls ls.length
theorem hashG_length(F:Int→Int→List Byte→List Byte)(ls:List (List Byte)):(hashG F ls).length=16:=hashF_length _ _ _
def cntL(h:List Byte)(n:Nat):List Byte:=tab 16 fun q=>if 8≤q then nth h q^^^nth (putL (BitVec.ofNat 64 n) 8) (15-q)else nth h q
def prfF(E:List Byte→List Byte)(h:List Byte):Nat→List Byte
 |0=>[]
 |i+1=>prfF E h i++E (cntL h i)
def prfN(n:Nat):Nat:=(n+15)/16
def prfL(E:List Byte→List Byte)(h:List Byte)(n:Nat):List Byte:=(prfF E h (prfN n)).take n
instance elemK:Elem Tryz.prog 68 16 16:=Elem.of (by kernel_rfl) (by omega)
def KeysS(ks:List (List Byte)):Slot:=fun v w=>∃p c,v= .slice p ks.length c∧ks.length≤c∧RdK w p 16 ks
theorem KeysS.stable(ks:List (List Byte)):Stable (KeysS ks):=fun _ _ _ ⟨p,c,h1,h2,h3⟩ hx=>⟨p,c,h1,h2,h3.ext hx⟩
theorem keys_new(w:World)(e:TypeId)(ks:List (List Byte))(h:∀k∈ks,k.length=16):KeysS ks (.slice (some ⟨w.heap.size,0,none⟩) ks.length ks.length) (w.alloc (.cells (catV ks).toArray e)):=
 ⟨_,_,rfl,Nat.le_refl _,h,RdB.of_row (row_new w e (catV ks))⟩
theorem len16(b:List Byte)(h:b.length=16):∃x0 x1 x2 x3 x4 x5 x6 x7 x8 x9 x10 x11 x12 x13 x14 x15,b=[x0,x1,x2,x3,x4,x5,x6,x7,x8,x9,x10,x11,x12,x13,x14,x15]:=by
 match b,h with
 |[x0,x1,x2,x3,x4,x5,x6,x7,x8,x9,x10,x11,x12,x13,x14,x15],_=>exact⟨x0,x1,x2,x3,x4,x5,x6,x7,x8,x9,x10,x11,x12,x13,x14,x15,rfl⟩
theorem slo_rdK {w0 w:World}{M R:List Blk}{p:Option Addr}{n c:Nat}{e:TypeId}{ks:List (List Byte)}(h:SlO M e 16 (.slice p n c) n (catV ks))(hk:∀k∈ks,k.length=16)(hm:Own w0 w (M++R)):RdK w p 16 ks∧n=ks.length∧n≤c:=by
 have hl:=h.1
 rw [catV_length 16 ks hk]at hl
 obtain⟨_,_,hv,hnc,_,h0,hcell⟩:=h.cells hm
 cases hv
 have hn:n=ks.length:=by omega
 refine⟨⟨hk,fun hp=>h0 ?_,fun i hi=> ?_⟩,hn,hnc⟩
 · rcases Nat.eq_zero_or_pos ks.length with h1|h1
   · rw [List.eq_nil_of_length_eq_zero h1]at hp;simp at hp
   · omega
 · obtain⟨a,rfl,ha⟩:=hcell i (v8 (ks.flatten.getD i 0)) (by rw [catV,List.getElem?_map,List.getElem?_eq_getElem hi,List.getD_eq_getElem?_getD,List.getElem?_eq_getElem hi];rfl)
   exact ha
theorem bs_run1(a:List Byte)(ha:a.length=16)(w:World):(Instr.buildSlice 142 1 #[(0,A8 a)]).run Tryz.prog w= .ok (.slice (some ⟨w.heap.size,0,none⟩) 1 1) (w.alloc (.cells (catV [a]).toArray 68)):=by
 obtain⟨a0,a1,a2,a3,a4,a5,a6,a7,a8,a9,a10,a11,a12,a13,a14,a15,rfl⟩:=len16 a ha
 kernel_rfl
theorem bs_run2(a b:List Byte)(ha:a.length=16)(hb:b.length=16)(w:World):(Instr.buildSlice 142 2 #[(0,A8 a),(1,A8 b)]).run Tryz.prog w= .ok (.slice (some ⟨w.heap.size,0,none⟩) 2 2) (w.alloc (.cells (catV [a,b]).toArray 68)):=by
 obtain⟨a0,a1,a2,a3,a4,a5,a6,a7,a8,a9,a10,a11,a12,a13,a14,a15,rfl⟩:=len16 a ha
 obtain⟨b0,b1,b2,b3,b4,b5,b6,b7,b8,b9,b10,b11,b12,b13,b14,b15,rfl⟩:=len16 b hb
 kernel_rfl
theorem bs_run4(a b c d:List Byte)(ha:a.length=16)(hb:b.length=16)(hc:c.length=16)(hd:d.length=16)(w:World):(Instr.buildSlice 142 4 #[(0,A8 a),(1,A8 b),(2,A8 c),(3,A8 d)]).run Tryz.prog w= .ok (.slice (some ⟨w.heap.size,0,none⟩) 4 4) (w.alloc (.cells (catV [a,b,c,d]).toArray 68)):=by
 obtain⟨a0,a1,a2,a3,a4,a5,a6,a7,a8,a9,a10,a11,a12,a13,a14,a15,rfl⟩:=len16 a ha
 obtain⟨b0,b1,b2,b3,b4,b5,b6,b7,b8,b9,b10,b11,b12,b13,b14,b15,rfl⟩:=len16 b hb
 obtain⟨c0,c1,c2,c3,c4,c5,c6,c7,c8,c9,c10,c11,c12,c13,c14,c15,rfl⟩:=len16 c hc
 obtain⟨d0,d1,d2,d3,d4,d5,d6,d7,d8,d9,d10,d11,d12,d13,d14,d15,rfl⟩:=len16 d hd
 kernel_rfl
section
variable {P:Program} {ops:Array Oper} {Q:Exit→Act→World→Prop} {rest:List Oper} {dst:Option Tmp} {ty:TypeId} {pos:String} {aft:Array Edge} {gd:Option (Nat×Bool)} {a:Act} {w0 w:World} {L:List Blk} {T e:TypeId}
theorem gq_bs1 {u0:Value}{x0:Operand}{ks:List (List Byte)}(hk:∀k∈ks,k.length=16)(hb:(Instr.buildSlice T 1 #[(0,u0)]).run P w= .ok (.slice (some ⟨w.heap.size,0,none⟩) ks.length ks.length) (w.alloc (.cells (catV ks).toArray e)))(hx0:a.eval x0=u0):gives P w (KeysS ks) ((execOp a.eval (Oper.mk dst (.buildSlice T 1 #[(0,x0)]) ty pos aft gd)).run P w):=by
 unfold execOp
 simp [hx0,hb]
 exact gives_val (Ext.alloc (Ext.refl _) _) (keys_new w e ks hk)
theorem wq_bs1 {u0:Value}{x0:Operand}{ks:List (List Byte)}(hm:Own w0 w L)(hb:(Instr.buildSlice T 1 #[(0,u0)]).run P w= .ok (.slice (some ⟨w.heap.size,0,none⟩) 1 1) (w.alloc (.cells (catV ks).toArray e)))(hgd:Region.wanted (Oper.mk dst (.buildSlice T 1 #[(0,x0)]) ty pos aft gd) (yielded ops a.tmps)=true)(hx0:a.eval x0=u0)(hr:∀g w',Own w0 w' (⟨g,e,catV ks⟩::L)→wpList P ops Q rest (a.put dst (.slice (some ⟨g,0,none⟩) 1 1)) w'):wpList P ops Q ((Oper.mk dst (.buildSlice T 1 #[(0,x0)]) ty pos aft gd)::rest) a w:=
 wpList_want hgd fun K hK=>by
   unfold Oper.wp execOp
   simp [hx0,hb,Sem.run_bind,Result.andThen_ok,Sem.run_pure]
   exact hK _ _ (hr _ _ (hm.alloc e (catV ks)))
theorem gq_bs2 {u0 u1:Value}{x0 x1:Operand}{ks:List (List Byte)}(hk:∀k∈ks,k.length=16)(hb:(Instr.buildSlice T 2 #[(0,u0),(1,u1)]).run P w= .ok (.slice (some ⟨w.heap.size,0,none⟩) ks.length ks.length) (w.alloc (.cells (catV ks).toArray e)))(hx0:a.eval x0=u0)(hx1:a.eval x1=u1):gives P w (KeysS ks) ((execOp a.eval (Oper.mk dst (.buildSlice T 2 #[(0,x0),(1,x1)]) ty pos aft gd)).run P w):=by
 unfold execOp
 simp [hx0,hx1,hb]
 exact gives_val (Ext.alloc (Ext.refl _) _) (keys_new w e ks hk)
theorem wq_bs2 {u0 u1:Value}{x0 x1:Operand}{ks:List (List Byte)}(hm:Own w0 w L)(hb:(Instr.buildSlice T 2 #[(0,u0),(1,u1)]).run P w= .ok (.slice (some ⟨w.heap.size,0,none⟩) 2 2) (w.alloc (.cells (catV ks).toArray e)))(hgd:Region.wanted (Oper.mk dst (.buildSlice T 2 #[(0,x0),(1,x1)]) ty pos aft gd) (yielded ops a.tmps)=true)(hx0:a.eval x0=u0)(hx1:a.eval x1=u1)(hr:∀g w',Own w0 w' (⟨g,e,catV ks⟩::L)→wpList P ops Q rest (a.put dst (.slice (some ⟨g,0,none⟩) 2 2)) w'):wpList P ops Q ((Oper.mk dst (.buildSlice T 2 #[(0,x0),(1,x1)]) ty pos aft gd)::rest) a w:=
 wpList_want hgd fun K hK=>by
   unfold Oper.wp execOp
   simp [hx0,hx1,hb,Sem.run_bind,Result.andThen_ok,Sem.run_pure]
   exact hK _ _ (hr _ _ (hm.alloc e (catV ks)))
theorem gq_bs4 {u0 u1 u2 u3:Value}{x0 x1 x2 x3:Operand}{ks:List (List Byte)}(hk:∀k∈ks,k.length=16)(hb:(Instr.buildSlice T 4 #[(0,u0),(1,u1),(2,u2),(3,u3)]).run P w= .ok (.slice (some ⟨w.heap.size,0,none⟩) ks.length ks.length) (w.alloc (.cells (catV ks).toArray e)))(hx0:a.eval x0=u0)(hx1:a.eval x1=u1)(hx2:a.eval x2=u2)(hx3:a.eval x3=u3):gives P w (KeysS ks) ((execOp a.eval (Oper.mk dst (.buildSlice T 4 #[(0,x0),(1,x1),(2,x2),(3,x3)]) ty pos aft gd)).run P w):=by
 unfold execOp
 simp [hx0,hx1,hx2,hx3,hb]
 exact gives_val (Ext.alloc (Ext.refl _) _) (keys_new w e ks hk)
end
def kcells(gt:Nat)(K:KeyP):List Value:= .pointer (some ⟨gt,0,none⟩)::((K.i++(K.j++K.l)).map v8)
def KeyR(w:World)(g:Nat)(K:KeyP):Prop:=K.Ok∧∃gt gb,Row w g 127 (kcells gt K)∧Row w gt 78 (tcells gb mixT unmixT)
theorem KeyR.ext {w w':World}{g:Nat}{K:KeyP}(h:KeyR w g K)(hx:Ext w w'):KeyR w' g K:=by
 obtain⟨ho,gt,gb,h1,h2⟩:=h;exact⟨ho,gt,gb,row_ext h1 hx,row_ext h2 hx⟩
theorem row_seg {w:World}{g:Nat}{t:TypeId}{cs:List Value}(h:Row w g t cs)(k:Nat)(l:List Byte)(hl:(cs.drop k).take l.length=l.map v8):RdB w (some ⟨g,k,none⟩) l:=
 ⟨fun _=>rfl,fun i hi=>by
   simp only [Option.getD_some]
   have e:(⟨g,k,none⟩:Addr).add i=⟨g,k+i,none⟩:=by rw [Addr.add_mid]
   rw [e,row_cell h]
   have:=congrArg (·[i]?) hl
   simp only [List.getElem?_take,if_pos hi,List.getElem?_drop,List.getElem?_map]at this
   rw [this,List.getElem?_eq_getElem hi,List.getD_eq_getElem?_getD,List.getElem?_eq_getElem hi];rfl⟩
theorem kcells_i(gt:Nat)(K:KeyP)(h:K.Ok):((kcells gt K).drop 1).take K.i.length=K.i.map v8:=by
 simp [kcells,List.take_append_of_le_length]
theorem kcells_j(gt:Nat)(K:KeyP)(h:K.Ok):((kcells gt K).drop 17).take K.j.length=K.j.map v8:=by
 have:=h.hi
 simp only [kcells,show(17:Nat)=16+1 from rfl,dSC,List.map_append]
 rw [List.drop_append_of_le_length (by simp [this]),List.drop_eq_nil_of_le (by simp [this]),List.nil_append,List.take_append_of_le_length (by simp),List.take_of_length_le (by simp)]
theorem kcells_l(gt:Nat)(K:KeyP)(h:K.Ok):((kcells gt K).drop 33).take K.l.length=K.l.map v8:=by
 have h1:=h.hi
 have h2:=h.hj
 simp only [kcells,show(33:Nat)=32+1 from rfl,dSC]
 rw [←List.append_assoc,List.map_append,List.drop_append_of_le_length (by simp [h1,h2]),List.drop_eq_nil_of_le (by simp [h1,h2]),List.nil_append,List.take_of_length_le (by simp)]
theorem KeyR.rdi {w:World}{g:Nat}{K:KeyP}(h:KeyR w g K):RdB w (some ⟨g,1,none⟩) K.i:=by obtain⟨ho,gt,gb,h1,h2⟩:=h;exact row_seg h1 1 _ (kcells_i gt K ho)
theorem KeyR.rdj {w:World}{g:Nat}{K:KeyP}(h:KeyR w g K):RdB w (some ⟨g,17,none⟩) K.j:=by obtain⟨ho,gt,gb,h1,h2⟩:=h;exact row_seg h1 17 _ (kcells_j gt K ho)
theorem KeyR.rdl {w:World}{g:Nat}{K:KeyP}(h:KeyR w g K):RdB w (some ⟨g,33,none⟩) K.l:=by obtain⟨ho,gt,gb,h1,h2⟩:=h;exact row_seg h1 33 _ (kcells_l gt K ho)
theorem part_any(g:Nat)(K:KeyP)(n:Int)(w0:World)(hk:KeyR w0 g K):Gives Tryz.prog 179 #[.pointer (some ⟨g,0,none⟩), .int .i64 n] w0 (A8 (K.at n)):=by
 unfold Gives
 have hm:=Own.start w0
 have HI:=Lib.hid hk.rdi
 have HJ:=Lib.hid hk.rdj
 have HL:=Lib.hid hk.rdl
 have li:=hk.1.hi
 have lj:=hk.1.hj
 have ll:=hk.1.hl
 clear hk
 by_cases h0:n=0
 · subst h0
   rw [show K.at 0=K.i from rfl]
   go_enter Tryz.func179,Tryz.ntmps179
   go_wp2_with (first|((with_reducible apply wq_rdW (HI.out.ext hm.x));exact rfl;infer_instance;exact rfl;exact li)|((((with_reducible show qSt);first|((with_reducible apply wq_stW hm);exact rfl;infer_instance;exact rfl;exact rfl;(focus ((repeat (first|exact .hd|assumption|apply Swap.tl|apply Swap.app));done));(focus (first|rfl|omega|(simp;done)|(simp;omega)));(focus (first|rfl|omega|(simp;done)|(simp;omega)));(focus (first|exact one_map _|(simp [one8,one32,one64];done))))));clear hm;intro w hm)|((first|((with_reducible show qAl);first|((with_reducible apply wq_new hm);exact rfl;infer_instance)));clear hm;intro gx_;intro w hm))
   refine rtO hm rfl rfl (hR:=⟨rfl,hm.x⟩)
 · have e0:(n==0)=false:=by simpa using h0
   by_cases h1:n=1
   · subst h1
     rw [show K.at 1=K.j from rfl]
     go_enter Tryz.func179,Tryz.ntmps179
     go_wp2_with (first|((with_reducible apply wq_rdW (HJ.out.ext hm.x));exact rfl;infer_instance;exact rfl;exact lj)|((((with_reducible show qSt);first|((with_reducible apply wq_stW hm);exact rfl;infer_instance;exact rfl;exact rfl;(focus ((repeat (first|exact .hd|assumption|apply Swap.tl|apply Swap.app));done));(focus (first|rfl|omega|(simp;done)|(simp;omega)));(focus (first|rfl|omega|(simp;done)|(simp;omega)));(focus (first|exact one_map _|(simp [one8,one32,one64];done))))));clear hm;intro w hm)|((first|((with_reducible show qAl);first|((with_reducible apply wq_new hm);exact rfl;infer_instance)));clear hm;intro gx_;intro w hm))
     refine rtO hm rfl rfl (hR:=⟨rfl,hm.x⟩)
   · have e1:(n==1)=false:=by simpa using h1
     by_cases h2:n=2
     · subst h2
       rw [show K.at 2=K.l from rfl]
       go_enter Tryz.func179,Tryz.ntmps179
       go_wp2_with (first|((with_reducible apply wq_rdW (HL.out.ext hm.x));exact rfl;infer_instance;exact rfl;exact ll)|((((with_reducible show qSt);first|((with_reducible apply wq_stW hm);exact rfl;infer_instance;exact rfl;exact rfl;(focus ((repeat (first|exact .hd|assumption|apply Swap.tl|apply Swap.app));done));(focus (first|rfl|omega|(simp;done)|(simp;omega)));(focus (first|rfl|omega|(simp;done)|(simp;omega)));(focus (first|exact one_map _|(simp [one8,one32,one64];done))))));clear hm;intro w hm)|((first|((with_reducible show qAl);first|((with_reducible apply wq_new hm);exact rfl;infer_instance)));clear hm;intro gx_;intro w hm))
       refine rtO hm rfl rfl (hR:=⟨rfl,hm.x⟩)
     · have e2:(n==2)=false:=by simpa using h2
       rw [show K.at n=zer 16 from by rw [KeyP.at,if_neg h0,if_neg h1,if_neg h2]]
       go_enter Tryz.func179,Tryz.ntmps179
       go_wp2_with (first|((with_reducible apply wq_build0 build_z16);exact rfl)|((((with_reducible show qSt);first|((with_reducible apply wq_stW hm);exact rfl;infer_instance;exact rfl;exact rfl;(focus ((repeat (first|exact .hd|assumption|apply Swap.tl|apply Swap.app));done));(focus (first|rfl|omega|(simp;done)|(simp;omega)));(focus (first|rfl|omega|(simp;done)|(simp;omega)));(focus (first|exact one_map _|(simp [one8,one32,one64];done))))));clear hm;intro w hm)|((first|((with_reducible show qAl);first|((with_reducible apply wq_new hm);exact rfl;infer_instance)));clear hm;intro gx_;intro w hm))
       refine rtO hm rfl rfl (hR:=⟨rfl,hm.x⟩)
def plusL(a:List Byte):List (List Byte)→List Byte
 |[]=>a
 |b::ks=>plusL (bothL a b) ks
theorem plusL_length(ks:List (List Byte)):∀a:List Byte,a.length=16→(plusL a ks).length=16:=by
 induction ks with
 |nil=>intro a h;exact h
 |cons b ks ih=>intro a h;exact ih _ (bothL_length _ _)
theorem plusL_append(ks ls:List (List Byte)):∀a:List Byte,plusL a (ks++ls)=plusL (plusL a ks) ls:=by
 induction ks with
 |nil=>intro a;rfl
 |cons b ks ih=>intro a;exact ih _
theorem plusL_take(a:List Byte)(ks:List (List Byte))(k:Nat)(h:k<ks.length):plusL a (ks.take (k+1))=bothL (plusL a (ks.take k)) (ks.getD k []):=by
 rw [List.take_succ_eq_append_getElem h,plusL_append,List.getD_eq_getElem?_getD,List.getElem?_eq_getElem h];rfl
theorem ezplus_any(b:List Byte)(ks:List (List Byte))(p:Option Addr)(c:Nat)(hb:b.length=16)(w0:World)(hk:RdK w0 p 16 ks)(hc:ks.length≤c)(hcm:ks.length≤70368744177664):Gives Tryz.prog 206 #[A8 b, .slice p ks.length c] w0 (A8 (plusL b ks)):=by
 unfold Gives
 have hm:=Own.start w0
 have hb1:=Nat.le_of_eq hb
 have hb2:=Nat.le_of_eq hb.symm
 have HK:=Lib.hid hk
 have HB:=Lib.hid hb
 clear hb hk
 go_enter Tryz.func206,Tryz.ntmps206
 go_wp2_with (first|((first|((with_reducible show qAl);first|((with_reducible apply wq_new hm);exact rfl;infer_instance))|((with_reducible show qBx);first|((with_reducible apply wq_boxN hm);exact rfl;exact rfl)));clear hm;(first|(have hx_:=g1;clear hx_;(first|(have hx_:=g2;clear hx_;(first|(have hx_:=g3;clear hx_;intro gx_)|intro g3))|intro g2))|intro g1);intro w hm))
 go_loopw [10] (fun i wr=>∃k:Nat,k≤ks.length∧i= .int .i64 k∧Own w0 wr [⟨g2,68,(zer 16).map v8⟩,⟨g1,68,(plusL b (ks.take k)).map v8⟩]) (fun i _=>ks.length-(intOf i).toNat)
 case atStart=>exact⟨0,by omega,rfl,hm⟩
 case round =>
   obtain⟨k,hk,rfl,hm⟩:=hrel
   have hB:=plusL_length (ks.take k) b HB.out
   by_cases hlt:k<ks.length
   · have hd : decide ((k:Int)<(ks.length:Int))=true:=decide_eq_true (by omega)
     have hd2:(k:Int)<(ks.length:Int):=by omega
     obtain⟨a,rfl⟩:=HK.out.addr (by omega) (by omega)
     obtain⟨hK,hKl⟩:=HK.out.at (by omega) k hlt
     have hS:=plusL_take b ks k hlt
     simp only [Option.getD_some]at hK
     generalize plusL b (ks.take k)=B at*
     generalize ks.getD k []=K at*
     have HS:=Lib.hid hS
     have HK2:=Lib.hid hK
     have ES:Hid (B=part 16 0 (fun i=>nth B i^^^nth K i) (nth B)):=Lib.hid (part_start hB)
     have EE:Hid (part 16 16 (fun i=>nth B i^^^nth K i) (nth B)=bothL B K):=Lib.hid part_all
     have hK1:=Nat.le_of_eq hKl
     have hK2':=Nat.le_of_eq hKl.symm
     clear hK hS
     go_wp2_with (first|((with_reducible apply wq_rdW (HK2.out.ext hm.x));exact rfl;infer_instance;exact rfl;exact hKl)|((((with_reducible show qSt);first|((with_reducible apply wq_stW hm);exact rfl;infer_instance;exact rfl;exact rfl;(focus ((repeat (first|exact .hd|assumption|apply Swap.tl|apply Swap.app));done));(focus (first|rfl|omega|(simp;done)|(simp;omega)));(focus (first|rfl|omega|(simp;done)|(simp;omega)));(focus (first|exact one_map _|(simp [one8,one32,one64];done))))));clear hm;intro w hm)|((first|((with_reducible show qAl);first|((with_reducible apply wq_new hm);exact rfl;infer_instance)));clear hm;(first|(have hx_:=g1;clear hx_;(first|(have hx_:=g2;clear hx_;(first|(have hx_:=g3;clear hx_;intro gx_)|intro g3))|intro g2))|intro g1);intro w hm))
     rw [ES.out]at hm
     go_loopw [14] (fun i wr=>∃j:Nat,j≤16∧i= .int .i64 j∧Own w0 wr [⟨g3,68,K.map v8⟩,⟨g2,68,(zer 16).map v8⟩,⟨g1,68,(part 16 j (fun i=>nth B i^^^nth K i) (nth B)).map v8⟩]) (fun i _=>16-(intOf i).toNat)
     case atStart=>exact⟨0,by omega,rfl,hm⟩
     case round =>
       obtain⟨j,hj,rfl,hm⟩:=hrel
       by_cases hjl:j<16
       · have hj1:decide ((j:Int)<16)=true:=decide_eq_true (by omega)
         have hj2:(j:Int)<16:=by omega
         have EJ:Hid (setN (part 16 j (fun i=>nth B i^^^nth K i) (nth B)) j (nth (part 16 j (fun i=>nth B i^^^nth K i) (nth B)) j^^^nth K j)=part 16 (j+1) (fun i=>nth B i^^^nth K i) (nth B)):=Lib.hid (by
           rw [nth_part_ge hjl (Nat.le_refl _)];exact part_set (f:=fun i=>nth B i^^^nth K i) hjl)
         have lJ:(part 16 j (fun i=>nth B i^^^nth K i) (nth B)).length=16:=part_length
         generalize part 16 j (fun i=>nth B i^^^nth K i) (nth B)=C at*
         go_wp2_with fail
         refine region_at 8 (fun w'=>Ext _ w') 28 (by kernel_rfl) (by kernel_rfl) rfl (fun _ _ h k=>h.trans k) (drew_ext _) ?_
         simp only [tSC,List.take_zero,dSC,List.drop_zero,List.map_cons,List.map_nil]
         repeat (first
             | (apply walk_is rfl rfl rfl
                · (intro wx hwx;first|((with_reducible show gives _ _ _ (Sem.run _ (execOp _ (Oper.mk _ (Op.load _ _) _ _ _ _)) _));first|((with_reducible apply gq_ldv (hm.ext hwx));infer_instance;exact rfl;(focus ((repeat (first|exact .hd|assumption|apply Has.tl|apply Has.app));done));(focus (first|omega|(simp;omega)|(refine ltB ?_;first|omega|(simp;done)|(simp;omega))))))|(go_simp;(try go_bits);first|exact gives_same|exact gives_skip))
                · (simp only [Act.put,sIB,sCS,sCZ];rfl))
             | (apply walk_not rfl rfl rfl
                · (simp only [Act.put,sIB,sCS,sCZ];rfl)))
         intro wz hwz
         simp only [zCC,zNR]
         repeat (first|rw [fin_is]|(rw [fin_cons];intro _ _))
         rw [fin_nil]
         try (replace hm:=hm.ext hwz)
         simp only [Act.put,sIB,sCS,sCZ]
         go_wp2_with (first|((((with_reducible show qSt);first|((with_reducible apply wq_stv hm);exact rfl;infer_instance;exact rfl;(focus ((repeat (first|exact .hd|assumption|apply Swap.tl|apply Swap.app));done));infer_instance;exact rfl;(focus (first|omega|(simp;omega)|(refine ltB ?_;first|omega|(simp;done)|(simp;omega)))))));clear hm;intro w hm))
         go_roundw
         case rel=>
           rw [EJ.out]at hm
           exact⟨j+1,by omega,by go_num,hm⟩
         case measure=>simp [intOf]<;>omega
       · obtain rfl:j=16:=by omega
         have hj1:decide (((16:Nat):Int)<16)=false:=decide_eq_false (by omega)
         rw [EE.out]at hm
         go_wp2_with fail
         go_roundw
         case rel=>exact⟨k+1,by omega,by go_num,by rw [HS.out];exact hm.drop⟩
         case measure=>simp [intOf]<;>omega
   · obtain rfl:k=ks.length:=by omega
     have hd:decide ((ks.length:Int)<(ks.length:Int))=false:=decide_eq_false (by omega)
     rw [List.take_length]at hm hB
     go_wp2_with (first|((with_reducible show qLd);first|((with_reducible apply wq_ldW hm);exact rfl;infer_instance;exact rfl;(focus ((repeat (first|exact .hd|assumption|apply Has.tl|apply Has.app));done));(focus (first|rfl|omega|(simp;done)|(simp;omega)))))|((((with_reducible show qSt);first|((with_reducible apply wq_stW hm);exact rfl;infer_instance;exact rfl;exact rfl;(focus ((repeat (first|exact .hd|assumption|apply Swap.tl|apply Swap.app));done));(focus (first|rfl|omega|(simp;done)|(simp;omega)));(focus (first|rfl|omega|(simp;done)|(simp;omega)));(focus (first|exact one_map _|(simp [one8,one32,one64];done))))));clear hm;intro w hm))
     refine rtO hm rfl rfl (hR:=⟨rfl,hm.x⟩)
theorem off_neg(g:Nat)(j i:Int)(w0:World)(h:j<0∨i<0):Gives Tryz.prog 207 #[.pointer (some ⟨g,0,none⟩), .int .i64 j, .int .i64 i] w0 (A8 (zer 16)):=by
 unfold Gives
 have hm:=Own.start w0
 by_cases h1:j<0
 · have e1:decide (j<0)=true:=decide_eq_true h1
   go_enter Tryz.func207,Tryz.ntmps207
   go_wp2_with (first|((with_reducible apply wq_build0 build_z16);exact rfl)|((((with_reducible show qSt);first|((with_reducible apply wq_stW hm);exact rfl;infer_instance;exact rfl;exact rfl;(focus ((repeat (first|exact .hd|assumption|apply Swap.tl|apply Swap.app));done));(focus (first|rfl|omega|(simp;done)|(simp;omega)));(focus (first|rfl|omega|(simp;done)|(simp;omega)));(focus (first|exact one_map _|(simp [one8,one32,one64];done))))));clear hm;intro w hm)|((first|((with_reducible show qAl);first|((with_reducible apply wq_new hm);exact rfl;infer_instance)));clear hm;intro gx_;intro w hm))
   refine rtO hm rfl rfl (hR:=⟨rfl,hm.x⟩)
 · have e1:decide (j<0)=false:=decide_eq_false h1
   have h2:i<0:=by omega
   have e2:decide (i<0)=true:=decide_eq_true h2
   go_enter Tryz.func207,Tryz.ntmps207
   go_wp2_with (first|((with_reducible apply wq_build0 build_z16);exact rfl)|((((with_reducible show qSt);first|((with_reducible apply wq_stW hm);exact rfl;infer_instance;exact rfl;exact rfl;(focus ((repeat (first|exact .hd|assumption|apply Swap.tl|apply Swap.app));done));(focus (first|rfl|omega|(simp;done)|(simp;omega)));(focus (first|rfl|omega|(simp;done)|(simp;omega)));(focus (first|exact one_map _|(simp [one8,one32,one64];done))))));clear hm;intro w hm)|((first|((with_reducible show qAl);first|((with_reducible apply wq_new hm);exact rfl;infer_instance)));clear hm;intro gx_;intro w hm))
   refine rtO hm rfl rfl (hR:=⟨rfl,hm.x⟩)
theorem off_pos(g:Nat)(K:KeyP)(j i:Nat)(w0:World)(hk:KeyR w0 g K)(hj:j≤9223372036854775807)(hi:i≤9223372036854775807):Gives Tryz.prog 207 #[.pointer (some ⟨g,0,none⟩), .int .i64 j, .int .i64 i] w0 (A8 (offN K j i)):=by
 unfold Gives
 have hm:=Own.start w0
 have HI:=Lib.hid hk.rdi
 have HJ:=Lib.hid hk.rdj
 have HL:=Lib.hid hk.rdl
 have li:=hk.1.hi
 have lj:=hk.1.hj
 have ll:=hk.1.hl
 have e1:decide ((j:Int)<0)=false:=decide_eq_false (by omega)
 have e2:decide ((i:Int)<0)=false:=decide_eq_false (by omega)
 obtain⟨r,hr,hr8⟩:∃r:Nat,i%8=r∧r<8:=⟨_,rfl,Nat.mod_lt _ (by omega)⟩
 obtain⟨u,hu,hu8⟩:∃u:Nat,i/8=u∧u≤1152921504606846975:=⟨_,rfl,by omega⟩
 have a1:(i:Int)%8=(r:Int):=by omega
 have a2:(i:Int).tmod 8=(r:Int):=by rw [Int.tmod_eq_emod_of_nonneg (by omega)];exact a1
 have a3:(i:Int)/8=(u:Int):=by omega
 have a4:(i:Int).tdiv 8=(u:Int):=by rw [Int.tdiv_eq_ediv_of_nonneg (by omega)];exact a3
 have D1:Hid (∀wx,Gives Tryz.prog 208 #[.int .u64 (j:Int),A8 K.j] wx (A8 (mulL (BitVec.ofNat 64 j) K.j))):=Lib.hid fun wx=>by rw [natv64 (by omega)];exact ring_mul _ K.j lj wx
 have D3:Hid (∀wx,Gives Tryz.prog 208 #[.int .u64 (r:Int),A8 K.l] wx (A8 (mulL (BitVec.ofNat 64 r) K.l))):=Lib.hid fun wx=>by rw [natv64 (by omega)];exact ring_mul _ K.l ll wx
 have l1:=mulL_length (BitVec.ofNat 64 j) K.j
 have l3:=mulL_length (BitVec.ofNat 64 r) K.l
 have l2:=dblN_length K.i li (upN i)
 have eO:offN K j i=plusL (mulL (BitVec.ofNat 64 j) K.j) [dblN K.i (upN i),mulL (BitVec.ofNat 64 r) K.l]:=by rw [offN,hr];rfl
 have D4:Hid (∀(wx:World)(p:Option Addr)(c:Nat),2≤c→RdK wx p 16 [dblN K.i (upN i),mulL (BitVec.ofNat 64 r) K.l]→Gives Tryz.prog 206 #[A8 (mulL (BitVec.ofNat 64 j) K.j), .slice p 2 c] wx (A8 (offN K j i))):=Lib.hid fun wx p c hc h=>eO ▸ ezplus_any (mulL (BitVec.ofNat 64 j) K.j) [dblN K.i (upN i),mulL (BitVec.ofNat 64 r) K.l] p c l1 wx h hc (by simp)
 have hk2:Hid (∀k∈[dblN K.i (upN i),mulL (BitVec.ofNat 64 r) K.l],k.length=16):=Lib.hid (by simp [l2,l3])
 have lO:=offN_length K j i
 by_cases hr0:r≤1
 · have d2:=fun wx=>ring_raised (upN i) K.i li (by unfold upN;omega) wx
   have eu:((upN i:Nat):Int)=(u:Int)+(r:Int):=by unfold upN;omega
   rw [eu]at d2
   have D2:=Lib.hid d2
   have hr1:(r:Int)≤1:=by omega
   clear d2 eu hr0
   clear eO
   generalize mulL (BitVec.ofNat 64 j) K.j=A at*
   generalize mulL (BitVec.ofNat 64 r) K.l=C at*
   generalize dblN K.i (upN i)=B at*
   generalize offN K j i=O at*
   clear hr hu hk
   go_enter Tryz.func207,Tryz.ntmps207
   go_wp2_with (first|((first|((with_reducible show qAl);first|((with_reducible apply wq_new hm);exact rfl;infer_instance)));clear hm;intro gx_;intro w hm))
   have hi1:=fun wx (hwx:Ext w wx)=>HI.out.ext (hm.x.trans hwx)
   have hj1:=fun wx (hwx:Ext w wx)=>HJ.out.ext (hm.x.trans hwx)
   have hl1:=fun wx (hwx:Ext w wx)=>HL.out.ext (hm.x.trans hwx)
   refine region_at 23 (fun w'=>Ext _ w') 48 (by kernel_rfl) (by kernel_rfl) rfl (fun _ _ h k=>h.trans k) (drew_ext _) ?_
   simp only [tSC,List.take_zero,dSC,List.drop_zero,List.map_cons,List.map_nil]
   repeat (first
       | (apply walk_is rfl rfl rfl
          · (intro wx hwx;(with_reducible apply gq_rdW ((hi1) wx hwx));infer_instance;exact rfl;(focus (first|rfl|omega|(simp;done)|(simp;omega))))
          · (simp only [Act.put,sIB,sCS,sCZ];rfl))
       | (apply walk_is rfl rfl rfl
          · (intro wx hwx;(with_reducible apply gq_rdW ((hj1) wx hwx));infer_instance;exact rfl;(focus (first|rfl|omega|(simp;done)|(simp;omega))))
          · (simp only [Act.put,sIB,sCS,sCZ];rfl))
       | (apply walk_is rfl rfl rfl
          · (intro wx hwx;(with_reducible apply gq_rdW ((hl1) wx hwx));infer_instance;exact rfl;(focus (first|rfl|omega|(simp;done)|(simp;omega))))
          · (simp only [Act.put,sIB,sCS,sCZ];rfl))
       |(apply walk_some (KeysS ([B,C])) 46 (KeysS.stable _) rfl rfl rfl rfl;(intro wx hwx;exact gq_bs2 (hk2.out) (bs_run2 B C l2 l3 wx) rfl rfl))
       | (apply walk_from (T:=[(46,KeysS [B,C])]) rfl rfl
          · (intro wx hwx;simp only [withS];(rintro x ⟨p,c,rfl,hlc,hk'⟩);refine⟨rfl, ?_⟩;go_simp;exact gives_call (D4.out wx p c hlc hk'))
          · (simp only [Act.put,sIB,sCS,sCZ];rfl))
       | (apply walk_is rfl rfl rfl
          · (intro wx hwx;go_simp;(try go_bits);first|exact gives_same|exact gives_skip|with_reducible exact gives_call (D1.out wx)|with_reducible exact gives_call (D2.out wx)|with_reducible exact gives_call (D3.out wx))
          · (simp only [Act.put,sIB,sCS,sCZ];rfl))
       | (apply walk_not rfl rfl rfl
          · (simp only [Act.put,sIB,sCS,sCZ];rfl)))
   intro wz hwz
   simp only [zCC,zNR]
   repeat (first|rw [fin_is]|(rw [fin_cons];intro _ _))
   rw [fin_nil]
   try (replace hm:=hm.ext hwz)
   simp only [Act.put,sIB,sCS,sCZ]
   clear hi1 hj1 hl1
   go_wp2_with (first|((((with_reducible show qSt);first|((with_reducible apply wq_stW hm);exact rfl;infer_instance;exact rfl;exact rfl;(focus ((repeat (first|exact .hd|assumption|apply Swap.tl|apply Swap.app));done));(focus (first|rfl|omega|(simp;done)|(simp;omega)));(focus (first|rfl|omega|(simp;done)|(simp;omega)));(focus (first|exact one_map _|(simp [one8,one32,one64];done))))));clear hm;intro w hm))
   refine rtO hm rfl rfl (hR:=⟨rfl,hm.x⟩)
 · have d2:=fun wx=>ring_raised (upN i) K.i li (by unfold upN;omega) wx
   have eu:((upN i:Nat):Int)=(u:Int)+1:=by unfold upN;omega
   rw [eu]at d2
   have D2:=Lib.hid d2
   have hr1:¬(r:Int)≤1:=by omega
   clear d2 eu hr0
   clear eO
   generalize mulL (BitVec.ofNat 64 j) K.j=A at*
   generalize mulL (BitVec.ofNat 64 r) K.l=C at*
   generalize dblN K.i (upN i)=B at*
   generalize offN K j i=O at*
   clear hr hu hk
   go_enter Tryz.func207,Tryz.ntmps207
   go_wp2_with (first|((first|((with_reducible show qAl);first|((with_reducible apply wq_new hm);exact rfl;infer_instance)));clear hm;intro gx_;intro w hm))
   have hi1:=fun wx (hwx:Ext w wx)=>HI.out.ext (hm.x.trans hwx)
   have hj1:=fun wx (hwx:Ext w wx)=>HJ.out.ext (hm.x.trans hwx)
   have hl1:=fun wx (hwx:Ext w wx)=>HL.out.ext (hm.x.trans hwx)
   refine region_at 23 (fun w'=>Ext _ w') 48 (by kernel_rfl) (by kernel_rfl) rfl (fun _ _ h k=>h.trans k) (drew_ext _) ?_
   simp only [tSC,List.take_zero,dSC,List.drop_zero,List.map_cons,List.map_nil]
   repeat (first
       | (apply walk_is rfl rfl rfl
          · (intro wx hwx;(with_reducible apply gq_rdW ((hi1) wx hwx));infer_instance;exact rfl;(focus (first|rfl|omega|(simp;done)|(simp;omega))))
          · (simp only [Act.put,sIB,sCS,sCZ];rfl))
       | (apply walk_is rfl rfl rfl
          · (intro wx hwx;(with_reducible apply gq_rdW ((hj1) wx hwx));infer_instance;exact rfl;(focus (first|rfl|omega|(simp;done)|(simp;omega))))
          · (simp only [Act.put,sIB,sCS,sCZ];rfl))
       | (apply walk_is rfl rfl rfl
          · (intro wx hwx;(with_reducible apply gq_rdW ((hl1) wx hwx));infer_instance;exact rfl;(focus (first|rfl|omega|(simp;done)|(simp;omega))))
          · (simp only [Act.put,sIB,sCS,sCZ];rfl))
       |(apply walk_some (KeysS ([B,C])) 46 (KeysS.stable _) rfl rfl rfl rfl;(intro wx hwx;exact gq_bs2 (hk2.out) (bs_run2 B C l2 l3 wx) rfl rfl))
       | (apply walk_from (T:=[(46,KeysS [B,C])]) rfl rfl
          · (intro wx hwx;simp only [withS];(rintro x ⟨p,c,rfl,hlc,hk'⟩);refine⟨rfl, ?_⟩;go_simp;exact gives_call (D4.out wx p c hlc hk'))
          · (simp only [Act.put,sIB,sCS,sCZ];rfl))
       | (apply walk_is rfl rfl rfl
          · (intro wx hwx;go_simp;(try go_bits);first|exact gives_same|exact gives_skip|with_reducible exact gives_call (D1.out wx)|with_reducible exact gives_call (D2.out wx)|with_reducible exact gives_call (D3.out wx))
          · (simp only [Act.put,sIB,sCS,sCZ];rfl))
       | (apply walk_not rfl rfl rfl
          · (simp only [Act.put,sIB,sCS,sCZ];rfl)))
   intro wz hwz
   simp only [zCC,zNR]
   repeat (first|rw [fin_is]|(rw [fin_cons];intro _ _))
   rw [fin_nil]
   try (replace hm:=hm.ext hwz)
   simp only [Act.put,sIB,sCS,sCZ]
   clear hi1 hj1 hl1
   go_wp2_with (first|((((with_reducible show qSt);first|((with_reducible apply wq_stW hm);exact rfl;infer_instance;exact rfl;exact rfl;(focus ((repeat (first|exact .hd|assumption|apply Swap.tl|apply Swap.app));done));(focus (first|rfl|omega|(simp;done)|(simp;omega)));(focus (first|rfl|omega|(simp;done)|(simp;omega)));(focus (first|exact one_map _|(simp [one8,one32,one64];done))))));clear hm;intro w hm))
   refine rtO hm rfl rfl (hR:=⟨rfl,hm.x⟩)
end Go.Proofs.YtllnjbiebdkmbaaGreatDoor
