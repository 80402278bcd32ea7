/-
  Texts of the program, walked, and plain ones. Conditions: those written in each theorem.
-/
import Derived.Test.YtllnjbiebdkmbaaGreatDoorZTopReturns0
import Derived.Test.YtllnjbiebdkmbaaGreatDoorZTopReturns3
import Derived.Laws.AppendOwnNone
import Derived.Deep.MidRow
import Derived.WalkMore
import Derived.ScopeJumps
set_option linter.unusedSimpArgs false
set_option linter.unusedVariables false
set_option maxHeartbeats 16000000
namespace Go.Proofs.YtllnjbiebdkmbaaGreatDoor
open Go Go.RowKit
set_option maxRecDepth 100000
def OwnB(w:World)(B:Nat)(v:Value)(l:List Byte):Prop:=w.ownsRow B 5 1 v l.length (l.map v8)
theorem OwnB.nil(w:World)(B:Nat):OwnB w B (.slice none 0 0) []:=World.ownsRow_nil w B _ 1
theorem OwnB.drew {w:World}{B:Nat}{v:Value}{l:List Byte}(h:OwnB w B v l):OwnB w.drew B v l:=h
theorem OwnB.alloc {w:World}{B:Nat}{v:Value}{l:List Byte}(h:OwnB w B v l)(o:Obj):OwnB (w.alloc o) B v l:=World.ownsRow.alloc h o
theorem OwnB.ext {w w':World}{B:Nat}{v:Value}{l:List Byte}(h:OwnB w B v l)(hx:Ext w w'):OwnB w' B v l:=
 World.ownsRow.kept h (row:=none) ⟨hx.os,hx.tape,hx.output,hx.size,fun k hk _=>Below.block hx k hk⟩ (by cases hv:v.ownBlock<;>simp)
theorem OwnB.reads {w:World}{B:Nat}{v:Value}{l:List Byte}(h:OwnB w B v l):BytesS l v w:=by
 obtain⟨h1,h2⟩:=h
 rcases h2 with ⟨rfl,h0⟩|⟨g,cap,cur,rfl,hg,hh,hn,hc,hs,ht⟩
 · have:l=[]:=List.eq_nil_of_length_eq_zero h0
   subst this
   exact⟨none,0,rfl,Nat.le_refl _,RdB.nil _ _⟩
 · refine⟨some ⟨g,0,none⟩,cap,rfl,hn,fun _=>rfl,fun i hi=> ?_⟩
   have e:(⟨g,0,none⟩:Addr).add i=⟨g,i,none⟩:=by simp [Addr.add];omega
   show w.cell? ((⟨g,0,none⟩:Addr).add i)=_
   rw [e,cell_of_row w g i cur _ _ hh]
   have:(cur.toList.take (l.length*1))[i]? =(l.map v8)[i]? :=by rw [ht]
   rw [List.getElem?_take,if_pos (by omega)]at this
   rw [←Array.getElem?_toList,this]
   simp [hi]
theorem OwnB.slice {w:World}{B:Nat}{v:Value}{l:List Byte}(h:OwnB w B v l):∃p c,v= .slice p l.length c∧l.length≤c∧RdB w p l:=h.reads
theorem OwnB.lt {w:World}{B:Nat}{v:Value}{l:List Byte}(h:OwnB w B v l):∀k,v.ownBlock=some k→B≤k∧k<w.heap.size:=World.ownsRow.lt h
theorem Gives.mono {P:Program}{f:FuncId}{args:Array Value}{w:World}{c:Value}(h:Gives P f args w c){Q:Ending→World→Prop}(hq:∀e w',e= .returned c∧Ext w w'→Q e w'):Calls P f args w Q:=Calls.mono h hq
theorem GivesR.mono {P:Program}{f:FuncId}{args:Array Value}{w:World}{V:Slot}(h:GivesR P f args w V){Q:Ending→World→Prop}(hq:∀e w',(∃v,e= .returned v∧V v w'∧Ext w w')→Q e w'):Calls P f args w Q:=Calls.mono h hq
structure Blk where
 g:Nat
 t:TypeId
 cs:List Value
def Own(w0 w:World)(L:List Blk):Prop:=Ext w0 w∧(L.map Blk.g).Nodup∧∀b∈L,w0.heap.size≤b.g∧Row w b.g b.t b.cs
inductive Has:List Blk→Blk→Prop
 |hd {b:Blk} {L:List Blk}:Has (b::L) b
 |tl {b c:Blk} {L:List Blk}:Has L b→Has (c::L) b
inductive Swap:List Blk→Blk→Blk→List Blk→Prop
 |hd {b b':Blk} {L:List Blk}:Swap (b::L) b b' (b'::L)
 |tl {b b' c:Blk} {L L':List Blk}:Swap L b b' L'→Swap (c::L) b b' (c::L')
theorem Has.mem {L:List Blk}{b:Blk}(h:Has L b):b∈L:=by
 induction h with
 |hd=>simp
 |tl _ ih=>simp [ih]
theorem Swap.has {L L':List Blk}{b b':Blk}(h:Swap L b b' L'):Has L b:=by
 induction h with
 |hd=>exact .hd
 |tl _ ih=>exact .tl ih
theorem Swap.keys {L L':List Blk}{b b':Blk}(h:Swap L b b' L')(hg:b'.g=b.g):L'.map Blk.g=L.map Blk.g:=by
 induction h with
 |hd=>simp [hg]
 |tl _ ih=>simp [ih hg]
theorem Swap.cases {L L':List Blk}{b b' c:Blk}(h:Swap L b b' L')(hg:b'.g=b.g)(hn:(L.map Blk.g).Nodup)(hc:c∈L'):c=b'∨(c∈L∧c.g≠b.g):=by
 induction h with
 | @hd b b' L=>
   rcases List.mem_cons.1 hc with rfl|hc
   · exact .inl rfl
   · refine .inr ⟨by simp [hc],fun e=> ?_⟩
     simp only [List.map_cons,List.nodup_cons]at hn
     exact hn.1 (List.mem_map.2 ⟨c,hc,e⟩)
 | @tl b b' d L L' hs ih=>
   simp only [List.map_cons,List.nodup_cons]at hn
   rcases List.mem_cons.1 hc with rfl|hc
   · refine .inr ⟨by simp,fun e=>hn.1 ?_⟩
     exact List.mem_map.2 ⟨b,hs.has.mem,e.symm⟩
   · rcases ih hg hn.2 hc with rfl|⟨h1,h2⟩
     · exact .inl rfl
     · exact .inr ⟨by simp [h1],h2⟩
theorem Own.start(w:World):Own w w []:=⟨Ext.refl w,by simp,by simp⟩
theorem Own.row {w0 w:World}{L:List Blk}{g:Nat}{t:TypeId}{cs:List Value}(h:Own w0 w L)(hh:Has L ⟨g,t,cs⟩):Row w g t cs:=(h.2.2 _ hh.mem).2
theorem Own.base {w0 w:World}{L:List Blk}{b:Blk}(h:Own w0 w L)(hh:Has L b):w0.heap.size≤b.g:=(h.2.2 _ hh.mem).1
theorem Own.x {w0 w:World}{L:List Blk}(h:Own w0 w L):Ext w0 w:=h.1
theorem Own.ext {w0 w w':World}{L:List Blk}(h:Own w0 w L)(hx:Ext w w'):Own w0 w' L:=⟨h.1.trans hx,h.2.1,fun b hb=>⟨(h.2.2 b hb).1,row_ext (h.2.2 b hb).2 hx⟩⟩
theorem Own.drew {w0 w:World}{L:List Blk}(h:Own w0 w L):Own w0 w.drew L:=h.ext (drew_ext w)
theorem Own.push {w0 w1 w:World}{L:List Blk}{g:Nat}{t:TypeId}{cs:List Value}(h:Own w0 w1 L)(hx:Ext w1 w)(hg:w1.heap.size≤g)(hr:Row w g t cs):Own w0 w (⟨g,t,cs⟩::L):=by
 refine⟨h.1.trans hx, ?_,fun b hb=> ?_⟩
 · simp only [List.map_cons,List.nodup_cons]
   refine⟨fun hm=> ?_,h.2.1⟩
   obtain⟨b,hb,e⟩:=List.mem_map.1 hm
   have:=row_lt (h.2.2 b hb).2
   omega
 · rcases List.mem_cons.1 hb with rfl|hb
   · exact⟨by have:=h.1.size;simp only;omega,hr⟩
   · exact⟨(h.2.2 b hb).1,row_ext (h.2.2 b hb).2 hx⟩
theorem Own.add {w0 w:World}{L:List Blk}{g:Nat}{t:TypeId}{cs:List Value}(h:Own w0 w L)(hg:w0.heap.size≤g)(hn:∀b∈L,b.g≠g)(hr:Row w g t cs):Own w0 w (⟨g,t,cs⟩::L):=by
 refine⟨h.1, ?_,fun b hb=> ?_⟩
 · simp only [List.map_cons,List.nodup_cons]
   refine⟨fun hm=> ?_,h.2.1⟩
   obtain⟨b,hb,e⟩:=List.mem_map.1 hm
   exact hn b hb e
 · rcases List.mem_cons.1 hb with rfl|hb
   · exact⟨hg,hr⟩
   · exact h.2.2 b hb
theorem Own.lt {w0 w:World}{L:List Blk}(h:Own w0 w L):∀b∈L,b.g<w.heap.size:=fun b hb=>row_lt (h.2.2 b hb).2
theorem Own.push2 {w0 w1 w:World}{L:List Blk}{g k:Nat}{t u:TypeId}{cs ds:List Value}(h:Own w0 w1 L)(hx:Ext w1 w)(hg:w1.heap.size≤g)(hr:Row w g t cs)(hk:w1.heap.size≤k)(hs:Row w k u ds)(hne:g≠k):Own w0 w (⟨k,u,ds⟩::⟨g,t,cs⟩::L):=by
 have h1:=h.push hx hg hr
 refine h1.add (by have:=h.1.size;omega) (fun b hb=> ?_) hs
 rcases List.mem_cons.1 hb with rfl|hb
 · exact hne
 · have:=h.lt b hb;omega
theorem Own.alloc {w0 w:World}{L:List Blk}(h:Own w0 w L)(t:TypeId)(cs:List Value):Own w0 (w.alloc (.cells cs.toArray t)) (⟨w.heap.size,t,cs⟩::L):=
 h.push ((Ext.refl w).alloc _) (Nat.le_refl _) (row_new w t cs)
theorem Own.drop {w0 w:World}{b:Blk}{L:List Blk}(h:Own w0 w (b::L)):Own w0 w L:=⟨h.1,(List.nodup_cons.1 h.2.1).2,fun c hc=>h.2.2 c (by simp [hc])⟩
theorem Own.rebase {w00 w0 w:World}{L:List Blk}(h:Own w0 w L)(hx:Ext w00 w0):Own w00 w L:=⟨hx.trans h.1,h.2.1,fun b hb=>⟨Nat.le_trans hx.size (h.2.2 b hb).1,(h.2.2 b hb).2⟩⟩
theorem Own.turn {w0 w:World}{L L':List Blk}{g:Nat}{t:TypeId}{cs cs':List Value}(h:Own w0 w L)(hs:Swap L ⟨g,t,cs⟩ ⟨g,t,cs'⟩ L'):Own w0 (w.setRow g cs'.toArray) L':=by
 have hr:Row w g t cs:=h.row hs.has
 have hb:w0.heap.size≤g:=h.base hs.has
 refine⟨ext_setRow h.1 g _ hb,by rw [hs.keys rfl];exact h.2.1,fun c hc=> ?_⟩
 rcases hs.cases rfl h.2.1 hc with rfl|⟨h1,h2⟩
 · exact⟨hb,row_setRow hr cs'⟩
 · exact⟨(h.2.2 c h1).1,row_setRow_other (h.2.2 c h1).2 _ h2⟩
theorem Own.rdB {w0 w:World}{L:List Blk}{g:Nat}{t:TypeId}{l:List Byte}(h:Own w0 w L)(hh:Has L ⟨g,t,l.map v8⟩):RdB w (some ⟨g,0,none⟩) l:=RdB.of_row (h.row hh)
theorem Own.rdB_at {w0 w:World}{L:List Blk}{g k:Nat}{t:TypeId}{l:List Byte}(h:Own w0 w L)(hh:Has L ⟨g,t,l.map v8⟩):RdB w (some ⟨g,k,none⟩) (l.drop k):=
 ⟨fun _=>rfl,fun i hi=>by
   rw [List.length_drop]at hi
   show w.cell? ((⟨g,k,none⟩:Addr).add i)=_
   rw [Addr.add_mid,row_v8 (h.row hh) (k+i) (by omega)]
   simp [List.getElem?_drop]⟩
theorem RdB.take {w:World}{p:Option Addr}{l:List Byte}(h:RdB w p l)(n:Nat):RdB w p (l.take n):=
 ⟨fun hp=>h.1 (by simp at hp;omega),fun i hi=>by
   simp only [List.length_take]at hi
   rw [h.2 i (by omega)]
   simp [List.getElem?_take,show i<n by omega]⟩
/-! ### The model's own steps -/
section
variable {P:Program} {w0 w:World} {L L':List Blk} {g k:Nat} {t T:TypeId} {cs:List Value} {v:Value}
class One1 (P:Program) (T:TypeId):Prop where
 size:(P.info? T).map (·.size)=some 1
 row:((P.underlying T).map fun d=>d.isRow)=some false
class Many (P:Program) (T:TypeId) (n:outParam Nat):Prop where
 size:(P.info? T).map (·.size)=some n
 row:((P.underlying T).map fun d=>d.isRow)=some true
theorem run_ld1(h:Own w0 w L)(hh:Has L ⟨g,t,cs⟩)[hT:One1 P T](hv:cs[k]? =some v):(Instr.loadAt T (.pointer (some ⟨g,k,none⟩))).run P w= .ok v w:=by
 have hc:w.cell? ⟨g,k,none⟩=some v:=by rw [row_cell (h.row hh) k];exact hv
 obtain⟨d,hu,hd⟩:=Option.map_eq_some_iff.1 hT.row
 have hagg:(isAgg T).run P w= .ok false w:=by
   unfold isAgg
   rw [Sem.run_bind,run_underlying hu w]
   cases d<;>simp_all
 simp [Instr.loadAt,Instr.sureAddr,loadVar,Sem.run_bind,hagg,hc]
theorem run_ldN {n:Nat}{cs':List Value}(h:Own w0 w L)(hh:Has L ⟨g,t,cs⟩)[hT:Many P T n](hv:(cs.drop k).take n=cs')(hn:cs'.length=n):(Instr.loadAt T (.pointer (some ⟨g,k,none⟩))).run P w= .ok (.agg cs'.toArray) w:=by
 obtain⟨d,hu,hd⟩:=Option.map_eq_some_iff.1 hT.row
 refine run_loadAt_mid w g k T cs' d (fun j v hj=> ?_) hu hd (by rw [hn];exact hT.size)
 rw [row_cell (h.row hh)]
 subst hv
 rw [List.getElem?_take]at hj
 split at hj
 · rwa [List.getElem?_drop]at hj
 · cases hj
theorem run_stN {vs cs':List Value}{val:Value}(h:Own w0 w L)(hs:Swap L ⟨g,t,cs⟩ ⟨g,t,cs'⟩ L')(hval:val.cells=vs.toArray)(hT:(P.info? T).map (·.size)=some vs.length)(hk:k+vs.length≤cs.length)(h1:∀v∈vs,v.oneCell'=true)(he:cs.take k++vs++cs.drop (k+vs.length)=cs'):
   ∃w',(Instr.storeAt T (.pointer (some ⟨g,k,none⟩)) val).run P w= .ok () w'∧Own w0 w' L':=by
 refine⟨w.setRow g cs'.toArray, ?_,h.turn hs⟩
 have hs':=run_storeCells_at P g k t vs 0 cs.toArray w (h.row hs.has) (by simpa using hk) h1
 obtain⟨i,hi1,hi2⟩:=Option.map_eq_some_iff.1 hT
 subst he
 simp only [Nat.add_zero]at hs'
 simp [Instr.storeAt,Instr.sureAddr,storeVar,sizeOf,typeInfo,hi1,hi2,hval,hs']
end
theorem set_seg(cs:List Value)(k:Nat)(v:Value)(h:k<cs.length):cs.take k++[v]++cs.drop (k+[v].length)=cs.set k v:=by
 rw [List.set_eq_take_append_cons_drop,if_pos h];simp
theorem cells_agg(cs:List Value):(Value.agg cs.toArray).cells=cs.toArray:=rfl
/-! ### Steps of a walk -/
section
variable {P:Program} {ops:Array Oper} {Q:Exit→Act→World→Prop} {rest:List Oper} {o:Oper} {a:Act} {w0 w:World} {L L':List Blk} {T t:TypeId} {x y:Operand} {g k:Nat} {cs cs':List Value} {v:Value}
theorem wpl_ld1(hm:Own w0 w L)(hgd:Region.wanted o (yielded ops a.tmps)=true)(ho:o.op= .load T x)(hx:a.eval x= .pointer (some ⟨g,k,none⟩))[hT:One1 P T](hh:Has L ⟨g,t,cs⟩)(hv:cs[k]? =some v)
   (hr:wpList P ops Q rest (a.put o.dst v) w):wpList P ops Q (o::rest) a w:=
 wpList_want hgd fun K hK=>by
   unfold Oper.wp execOp
   simp only [ho,hx,Sem.run_bind,run_ld1 hm hh hv,Result.andThen_ok,Sem.run_pure]
   exact hK _ _ hr
theorem wpl_ldN {n:Nat}(hm:Own w0 w L)(hgd:Region.wanted o (yielded ops a.tmps)=true)(ho:o.op= .load T x)(hx:a.eval x= .pointer (some ⟨g,k,none⟩))[hT:Many P T n](hh:Has L ⟨g,t,cs⟩)(hv:(cs.drop k).take n=cs')(hn:cs'.length=n)
   (hr:wpList P ops Q rest (a.put o.dst (.agg cs'.toArray)) w):wpList P ops Q (o::rest) a w:=
 wpList_want hgd fun K hK=>by
   unfold Oper.wp execOp
   simp only [ho,hx,Sem.run_bind,run_ldN hm hh hv hn,Result.andThen_ok,Sem.run_pure]
   exact hK _ _ hr
theorem wpl_ldW {n:Nat}(hm:Own w0 w L)(hgd:Region.wanted o (yielded ops a.tmps)=true)(ho:o.op= .load T x)(hx:a.eval x= .pointer (some ⟨g,0,none⟩))[hT:Many P T n](hh:Has L ⟨g,t,cs⟩)(hn:cs.length=n)
   (hr:wpList P ops Q rest (a.put o.dst (.agg cs.toArray)) w):wpList P ops Q (o::rest) a w:=
 wpl_ldN hm hgd ho hx hh (by rw [List.drop_zero,List.take_of_length_le (by omega)]) hn hr
theorem wpl_stN {vs:List Value}{val:Value}(hm:Own w0 w L)(hgd:Region.wanted o (yielded ops a.tmps)=true)(ho:o.op= .store T x y)(hx:a.eval x= .pointer (some ⟨g,k,none⟩))(hy:a.eval y=val)(hval:val.cells=vs.toArray)
   (hT:(P.info? T).map (·.size)=some vs.length) (hs:Swap L ⟨g,t,cs⟩ ⟨g,t,cs'⟩ L') (hk:k+vs.length≤cs.length) (h1:∀v∈vs,v.oneCell'=true) (he:cs.take k++vs++cs.drop (k+vs.length)=cs')
   (hr:∀w',Own w0 w' L'→wpList P ops Q rest (a.put o.dst undef) w'):wpList P ops Q (o::rest) a w:=
 wpList_want hgd fun K hK=>by
   obtain⟨w',hrun,hm'⟩:=run_stN hm hs hval hT hk h1 he
   unfold Oper.wp execOp
   simp only [ho,hx,hy,Sem.run_bind,hrun,Result.andThen_ok]
   exact hK _ _ (hr w' hm')
theorem wpl_st1(hm:Own w0 w L)(hgd:Region.wanted o (yielded ops a.tmps)=true)(ho:o.op= .store T x y)(hx:a.eval x= .pointer (some ⟨g,k,none⟩))(hy:a.eval y=v)(hval:v.cells= #[v])(h1:v.oneCell'=true)
   [hT:One1 P T] (hs:Swap L ⟨g,t,cs⟩ ⟨g,t,cs'⟩ L') (hk:k<cs.length) (he:cs.set k v=cs')
   (hr:∀w',Own w0 w' L'→wpList P ops Q rest (a.put o.dst undef) w'):wpList P ops Q (o::rest) a w:=
 wpl_stN (vs:=[v]) hm hgd ho hx hy hval hT.size hs hk (by intro u hu;rw [List.mem_singleton.1 hu];exact h1) (by rw [set_seg _ _ _ hk,he]) hr
theorem wpl_st8 {l:List (BitVec 8)}{b:BitVec 8}(hm:Own w0 w L)(hgd:Region.wanted o (yielded ops a.tmps)=true)(ho:o.op= .store T x y)(hx:a.eval x= .pointer (some ⟨g,k,none⟩))(hy:a.eval y=v8 b)
   [hT:One1 P T] (hs:Swap L ⟨g,t,l.map v8⟩ ⟨g,t,(setN l k b).map v8⟩ L') (hk:k<l.length)
   (hr:∀w',Own w0 w' L'→wpList P ops Q rest (a.put o.dst undef) w'):wpList P ops Q (o::rest) a w:=
 wpl_st1 hm hgd ho hx hy rfl rfl hs (by simpa using hk) (map8_set l b) hr
theorem wpl_st8i {l:List (BitVec 8)}{n:Int}(hm:Own w0 w L)(hgd:Region.wanted o (yielded ops a.tmps)=true)(ho:o.op= .store T x y)(hx:a.eval x= .pointer (some ⟨g,k,none⟩))(hy:a.eval y= .int .u8 n)[hT:One1 P T](h0:0≤n)(h1:n≤255)
   (hs:Swap L ⟨g,t,l.map v8⟩ ⟨g,t,(setN l k (BitVec.ofInt 8 n)).map v8⟩ L') (hk:k<l.length)
   (hr:∀w',Own w0 w' L'→wpList P ops Q rest (a.put o.dst undef) w'):wpList P ops Q (o::rest) a w:=
 wpl_st8 hm hgd ho hx (hy.trans (by rw [←int8,IntWalk.u8_in _ ⟨h0,h1⟩])) hs hk hr
theorem wpl_stW {n:Nat}(hm:Own w0 w L)(hgd:Region.wanted o (yielded ops a.tmps)=true)(ho:o.op= .store T x y)(hx:a.eval x= .pointer (some ⟨g,0,none⟩))(hy:a.eval y= .agg cs'.toArray)[hT:Many P T n]
   (hs:Swap L ⟨g,t,cs⟩ ⟨g,t,cs'⟩ L') (hl:cs'.length=n) (hl2:cs.length=n) (h1:∀v∈cs',v.oneCell'=true)
   (hr:∀w',Own w0 w' L'→wpList P ops Q rest (a.put o.dst undef) w'):wpList P ops Q (o::rest) a w:=
 wpl_stN (vs:=cs') hm hgd ho hx hy rfl (by rw [hl];exact hT.size) hs (by omega) h1 (by simp [hl,←hl2]) hr
theorem wpl_stA {n:Nat}{vs:List Value}(hm:Own w0 w L)(hgd:Region.wanted o (yielded ops a.tmps)=true)(ho:o.op= .store T x y)(hx:a.eval x= .pointer (some ⟨g,k,none⟩))(hy:a.eval y= .agg vs.toArray)[hT:Many P T n]
   (hs:Swap L ⟨g,t,cs⟩ ⟨g,t,cs'⟩ L') (hl:vs.length=n) (hk:k+n≤cs.length) (h1:∀v∈vs,v.oneCell'=true) (he:cs.take k++vs++cs.drop (k+n)=cs')
   (hr:∀w',Own w0 w' L'→wpList P ops Q rest (a.put o.dst undef) w'):wpList P ops Q (o::rest) a w:=
 wpl_stN (vs:=vs) hm hgd ho hx hy rfl (by rw [hl];exact hT.size) hs (by omega) h1 (by rw [hl];exact he) hr
class ZeroOf (P:Program) (T:TypeId) (cs:outParam (List Value)):Prop where
 out:(P.info? T).bind (fun i=>i.zero.map fun z=>z.cells)=some cs.toArray
theorem new_run(e:TypeId)(v:Value):(newVar e v).run P w= .ok ⟨w.heap.size,0,none⟩ (w.alloc (.cells v.cells e)):=by
 simp only [newVar,newRow,newObj,Sem.run_bind];rfl
theorem run_zero [z:ZeroOf P T cs]:∃u:Value,u.cells=cs.toArray∧(zeroValue T).run P w= .ok u w:=by
 have:=z.out
 cases hi:P.info? T with
 |none=>simp [hi]at this
 | some i=>
   cases hz:i.zero with
   |none=>simp [hi,hz]at this
   | some u=>
     simp [hi,hz]at this
     exact⟨u,this,by simp [zeroValue,typeInfo,hi,hz]⟩
theorem wpl_new [z:ZeroOf P T cs](hm:Own w0 w L)(hgd:Region.wanted o (yielded ops a.tmps)=true)(ho:o.op= .alloc T)
   (hr:∀g w',Own w0 w' (⟨g,T,cs⟩::L)→wpList P ops Q rest (a.put o.dst (.pointer (some ⟨g,0,none⟩))) w'):wpList P ops Q (o::rest) a w:=
 wpList_want hgd fun K hK=>by
   obtain⟨u,hu,hz⟩:=run_zero (P:=P) (T:=T) (cs:=cs) (w:=w)
   unfold Oper.wp execOp
   simp only [ho,Instr.alloc,Sem.run_bind,hz,Result.andThen_ok,new_run,Sem.run_pure,hu]
   exact hK _ _ (hr _ _ (hm.alloc T cs))
theorem wpl_boxN(hm:Own w0 w L)(hgd:Region.wanted o (yielded ops a.tmps)=true)(ho:o.op= .box T x)(hx:a.eval x= .agg cs.toArray)
   (hr:∀g w',Own w0 w' (⟨g,T,cs⟩::L)→wpList P ops Q rest (a.put o.dst (.pointer (some ⟨g,0,none⟩))) w'):wpList P ops Q (o::rest) a w:=
 wpList_want hgd fun K hK=>by
   unfold Oper.wp execOp
   simp only [ho,hx,Sem.run_bind,new_run,Result.andThen_ok,Sem.run_pure,cells_agg]
   exact hK _ _ (hr _ _ (hm.alloc T cs))
theorem wpl_box1(hm:Own w0 w L)(hgd:Region.wanted o (yielded ops a.tmps)=true)(ho:o.op= .box T x)(hx:a.eval x=v)(hv:v.cells= #[v])
   (hr:∀g w',Own w0 w' (⟨g,T,[v]⟩::L)→wpList P ops Q rest (a.put o.dst (.pointer (some ⟨g,0,none⟩))) w'):wpList P ops Q (o::rest) a w:=
 wpList_want hgd fun K hK=>by
   unfold Oper.wp execOp
   have h2:=hm.alloc T [v]
   rw [show [v].toArray=v.cells from hv.symm]at h2
   simp only [ho,hx,Sem.run_bind,new_run,Result.andThen_ok,Sem.run_pure]
   exact hK _ _ (hr _ _ h2)
theorem wpl_cp8 {dT sT elem:TypeId}{dLen dCap sCap n:Nat}{p:Option Addr}{cur cur' l:List Byte}(hm:Own w0 w L)(hgd:Region.wanted o (yielded ops a.tmps)=true)(ho:o.op= .call {callee:= .builtin .copy,args:= #[x,y],argTypes:= #[dT,sT]})(hx:a.eval x= .slice (some ⟨g,k,Option.none⟩) dLen dCap)(hy:a.eval y= .slice p n sCap)
   (hu:P.underlying dT=some (.slice elem)) (he:(P.info? elem).map (·.size)=some 1) (hs:Swap L ⟨g,t,cur.map v8⟩ ⟨g,t,cur'.map v8⟩ L') (hr:RdB w p l) (hn:n=l.length) (hc:over cur k (l.take dLen)=cur') (hfit:k+dLen≤cur.length)
   (h:∀w',Own w0 w' L'→wpList P ops Q rest (a.put o.dst (goInt (min l.length dLen:Nat))) w'):wpList P ops Q (o::rest) a w:=
 wpl_copy hc hgd ho hx hy hn hu he (hm.row hs.has) hfit hr (h _ (hm.turn hs))
theorem ret_own {fn:Func}{R:Ending→World→Prop}{p:Tmp}{n:Nat}(hm:Own w0 w L)(h:fn.results= #[.cell p T])(hp:a.tmps.getD p undef= .pointer (some ⟨g,0,none⟩))(hT:Many P T n)(hh:Has L ⟨g,t,cs⟩)(hn:cs.length=n)
   (hf:a.defers=[]) (hR:R (.returned (.agg cs.toArray)) w):bodyPost P fn R .ret a w:=by
 obtain⟨d,hu,hd⟩:=Option.map_eq_some_iff.1 hT.row
 exact ret_row h hp (hm.row hh) hu (by cases d<;>simp_all) (by rw [hn];exact hT.size) hf hR
/-! ### Steps of a region -/
theorem gives_ld1(hm:Own w0 w L)(ho:o.op= .load T x)(hx:a.eval x= .pointer (some ⟨g,k,none⟩))[hT:One1 P T](hh:Has L ⟨g,t,cs⟩)(hv:cs[k]? =some v):gives P w (Is v) ((execOp a.eval o).run P w):=by
 unfold execOp
 simp only [ho,hx,Sem.run_bind,run_ld1 hm hh hv,Result.andThen_ok,Sem.run_pure]
 exact gives_same
theorem gives_ldN {n:Nat}(hm:Own w0 w L)(ho:o.op= .load T x)(hx:a.eval x= .pointer (some ⟨g,k,none⟩))[hT:Many P T n](hh:Has L ⟨g,t,cs⟩)(hv:(cs.drop k).take n=cs')(hn:cs'.length=n):gives P w (Is (.agg cs'.toArray)) ((execOp a.eval o).run P w):=by
 unfold execOp
 simp only [ho,hx,Sem.run_bind,run_ldN hm hh hv hn,Result.andThen_ok,Sem.run_pure]
 exact gives_same
theorem gives_ldW {n:Nat}(hm:Own w0 w L)(ho:o.op= .load T x)(hx:a.eval x= .pointer (some ⟨g,0,none⟩))[hT:Many P T n](hh:Has L ⟨g,t,cs⟩)(hn:cs.length=n):gives P w (Is (.agg cs.toArray)) ((execOp a.eval o).run P w):=
 gives_ldN hm ho hx hh (by rw [List.drop_zero,List.take_of_length_le (by omega)]) hn
end
/-! ### The same, each for the operation that it is for (quick to try) -/
section
variable {P:Program} {ops:Array Oper} {Q:Exit→Act→World→Prop} {rest:List Oper} {dst:Option Tmp} {ty:TypeId} {pos:String} {aft:Array Edge} {gd:Option (Nat×Bool)} {a:Act} {w0 w:World} {L L':List Blk} {T t:TypeId} {x y:Operand} {g k n:Nat} {cs cs' vs:List Value} {v:Value}
theorem wq_ldv {b:Nat}{f:BitVec b→Value}{l:List (BitVec b)}(hm:Own w0 w L)(hgd:Region.wanted (Oper.mk dst (.load T x) ty pos aft gd) (yielded ops a.tmps)=true)(hT:One1 P T)(hx:a.eval x= .pointer (some ⟨g,k,none⟩))(hh:Has L ⟨g,t,l.map f⟩)(hk:k<l.length)(hr:wpList P ops Q rest (a.put dst (f (nth l k))) w):wpList P ops Q ((Oper.mk dst (.load T x) ty pos aft gd)::rest) a w:=wpl_ld1 hm hgd rfl hx hh (mapv_at f l hk) hr
theorem gq_ldv {b:Nat}{f:BitVec b→Value}{l:List (BitVec b)}(hm:Own w0 w L)(hT:One1 P T)(hx:a.eval x= .pointer (some ⟨g,k,none⟩))(hh:Has L ⟨g,t,l.map f⟩)(hk:k<l.length):gives P w (Is (f (nth l k))) ((execOp a.eval (Oper.mk dst (.load T x) ty pos aft gd)).run P w):=gives_ld1 hm rfl hx hh (mapv_at f l hk)
theorem wq_stv {b:Nat}{f:BitVec b→Value}{l:List (BitVec b)}{z:BitVec b}(hm:Own w0 w L)(hgd:Region.wanted (Oper.mk dst (.store T x y) ty pos aft gd) (yielded ops a.tmps)=true)(hT:One1 P T)(hx:a.eval x= .pointer (some ⟨g,k,none⟩))(hs:Swap L ⟨g,t,l.map f⟩ ⟨g,t,(setN l k z).map f⟩ L')(hf:CellV f)(hy:a.eval y=f z)(hk:k<l.length)(hr:∀w',Own w0 w' L'→wpList P ops Q rest (a.put dst undef) w'):wpList P ops Q ((Oper.mk dst (.store T x y) ty pos aft gd)::rest) a w:=wpl_st1 hm hgd rfl hx hy (hf.cells z) (hf.one z) hs (by simpa using hk) (mapv_set f l z) hr
theorem wq_st8i {l:List (BitVec 8)}{n:Int}(hm:Own w0 w L)(hgd:Region.wanted (Oper.mk dst (.store T x y) ty pos aft gd) (yielded ops a.tmps)=true)(hT:One1 P T)(hx:a.eval x= .pointer (some ⟨g,k,none⟩))(hy:a.eval y= .int .u8 n)(hs:Swap L ⟨g,t,l.map v8⟩ ⟨g,t,(setN l k (BitVec.ofInt 8 n)).map v8⟩ L')(h0:0≤n∧n≤255)(hk:k<l.length)(hr:∀w',Own w0 w' L'→wpList P ops Q rest (a.put dst undef) w'):wpList P ops Q ((Oper.mk dst (.store T x y) ty pos aft gd)::rest) a w:=wpl_st8i hm hgd rfl hx hy h0.1 h0.2 hs hk hr
theorem wq_ld1(hm:Own w0 w L)(hgd:Region.wanted (Oper.mk dst (.load T x) ty pos aft gd) (yielded ops a.tmps)=true)(hT:One1 P T)(hx:a.eval x= .pointer (some ⟨g,k,none⟩))(hh:Has L ⟨g,t,cs⟩)(hv:cs[k]? =some v)(hr:wpList P ops Q rest (a.put dst v) w):wpList P ops Q ((Oper.mk dst (.load T x) ty pos aft gd)::rest) a w:=wpl_ld1 hm hgd rfl hx hh hv hr
theorem wq_ldW(hm:Own w0 w L)(hgd:Region.wanted (Oper.mk dst (.load T x) ty pos aft gd) (yielded ops a.tmps)=true)(hT:Many P T n)(hx:a.eval x= .pointer (some ⟨g,0,none⟩))(hh:Has L ⟨g,t,cs⟩)(hn:cs.length=n)(hr:wpList P ops Q rest (a.put dst (.agg cs.toArray)) w):wpList P ops Q ((Oper.mk dst (.load T x) ty pos aft gd)::rest) a w:=wpl_ldW hm hgd rfl hx hh hn hr
theorem wq_ldN(hm:Own w0 w L)(hgd:Region.wanted (Oper.mk dst (.load T x) ty pos aft gd) (yielded ops a.tmps)=true)(hT:Many P T n)(hx:a.eval x= .pointer (some ⟨g,k,none⟩))(hh:Has L ⟨g,t,cs⟩)(hv:(cs.drop k).take n=cs')(hn:cs'.length=n)(hr:wpList P ops Q rest (a.put dst (.agg cs'.toArray)) w):wpList P ops Q ((Oper.mk dst (.load T x) ty pos aft gd)::rest) a w:=wpl_ldN hm hgd rfl hx hh hv hn hr
theorem wq_st1(hm:Own w0 w L)(hgd:Region.wanted (Oper.mk dst (.store T x y) ty pos aft gd) (yielded ops a.tmps)=true)(hT:One1 P T)(hx:a.eval x= .pointer (some ⟨g,k,none⟩))(hy:a.eval y=v)(hval:v.cells= #[v])(h1:v.oneCell'=true)(hs:Swap L ⟨g,t,cs⟩ ⟨g,t,cs.set k v⟩ L')(hk:k<cs.length)(hr:∀w',Own w0 w' L'→wpList P ops Q rest (a.put dst undef) w'):wpList P ops Q ((Oper.mk dst (.store T x y) ty pos aft gd)::rest) a w:=wpl_st1 hm hgd rfl hx hy hval h1 hs hk rfl hr
theorem wq_stW(hm:Own w0 w L)(hgd:Region.wanted (Oper.mk dst (.store T x y) ty pos aft gd) (yielded ops a.tmps)=true)(hT:Many P T n)(hx:a.eval x= .pointer (some ⟨g,0,none⟩))(hy:a.eval y= .agg cs'.toArray)(hs:Swap L ⟨g,t,cs⟩ ⟨g,t,cs'⟩ L')(hl:cs'.length=n)(hl2:cs.length=n)(h1:∀v∈cs',v.oneCell'=true)(hr:∀w',Own w0 w' L'→wpList P ops Q rest (a.put dst undef) w'):wpList P ops Q ((Oper.mk dst (.store T x y) ty pos aft gd)::rest) a w:=wpl_stW hm hgd rfl hx hy hs hl hl2 h1 hr
theorem wq_new(hm:Own w0 w L)(hgd:Region.wanted (Oper.mk dst (.alloc T) ty pos aft gd) (yielded ops a.tmps)=true)(hT:ZeroOf P T cs)(hr:∀g w',Own w0 w' (⟨g,T,cs⟩::L)→wpList P ops Q rest (a.put dst (.pointer (some ⟨g,0,none⟩))) w'):wpList P ops Q ((Oper.mk dst (.alloc T) ty pos aft gd)::rest) a w:=wpl_new hm hgd rfl hr
theorem wq_boxN(hm:Own w0 w L)(hgd:Region.wanted (Oper.mk dst (.box T x) ty pos aft gd) (yielded ops a.tmps)=true)(hx:a.eval x= .agg cs.toArray)(hr:∀g w',Own w0 w' (⟨g,T,cs⟩::L)→wpList P ops Q rest (a.put dst (.pointer (some ⟨g,0,none⟩))) w'):wpList P ops Q ((Oper.mk dst (.box T x) ty pos aft gd)::rest) a w:=wpl_boxN hm hgd rfl hx hr
theorem wq_box1(hm:Own w0 w L)(hgd:Region.wanted (Oper.mk dst (.box T x) ty pos aft gd) (yielded ops a.tmps)=true)(hx:a.eval x=v)(hv:v.cells= #[v])(hr:∀g w',Own w0 w' (⟨g,T,[v]⟩::L)→wpList P ops Q rest (a.put dst (.pointer (some ⟨g,0,none⟩))) w'):wpList P ops Q ((Oper.mk dst (.box T x) ty pos aft gd)::rest) a w:=wpl_box1 hm hgd rfl hx hv hr
theorem gq_ld1(hm:Own w0 w L)(hT:One1 P T)(hx:a.eval x= .pointer (some ⟨g,k,none⟩))(hh:Has L ⟨g,t,cs⟩)(hv:cs[k]? =some v):gives P w (Is v) ((execOp a.eval (Oper.mk dst (.load T x) ty pos aft gd)).run P w):=gives_ld1 hm rfl hx hh hv
theorem gq_ldW(hm:Own w0 w L)(hT:Many P T n)(hx:a.eval x= .pointer (some ⟨g,0,none⟩))(hh:Has L ⟨g,t,cs⟩)(hn:cs.length=n):gives P w (Is (.agg cs.toArray)) ((execOp a.eval (Oper.mk dst (.load T x) ty pos aft gd)).run P w):=gives_ldW hm rfl hx hh hn
theorem gq_ldN(hm:Own w0 w L)(hT:Many P T n)(hx:a.eval x= .pointer (some ⟨g,k,none⟩))(hh:Has L ⟨g,t,cs⟩)(hv:(cs.drop k).take n=cs')(hn:cs'.length=n):gives P w (Is (.agg cs'.toArray)) ((execOp a.eval (Oper.mk dst (.load T x) ty pos aft gd)).run P w):=gives_ldN hm rfl hx hh hv hn
end
theorem wq_build0 {P:Program}{ops:Array Oper}{Q:Exit→Act→World→Prop}{rest:List Oper}{dst:Option Tmp}{ty:TypeId}{pos:String}{aft:Array Edge}{gd:Option (Nat×Bool)}{a:Act}{w:World}{T:TypeId}{v:Value}
   (hb:∀w,(Instr.build T #[]).run P w= .ok v w) (hgd:Region.wanted (Oper.mk dst (.build T #[]) ty pos aft gd) (yielded ops a.tmps)=true) (hr:wpList P ops Q rest (a.put dst v) w):wpList P ops Q ((Oper.mk dst (.build T #[]) ty pos aft gd)::rest) a w:=
 wpList_want hgd fun K hK=>by
   unfold Oper.wp execOp
   simp [hb,Sem.run_bind,Result.andThen_ok,Sem.run_pure]
   exact hK _ _ hr
section
variable {P:Program} {ops:Array Oper} {Q:Exit→Act→World→Prop} {rest:List Oper} {dst:Option Tmp} {ty:TypeId} {pos:String} {aft:Array Edge} {gd:Option (Nat×Bool)} {a:Act} {w0 w:World} {L L':List Blk} {T t:TypeId} {x y:Operand} {g k n:Nat} {cs:List Value} {v:Value}
theorem wq_buildN {parts:Array (Nat×Operand)}(hb:∀w,(Instr.build T (parts.map fun p=>(p.1,a.eval p.2))).run P w= .ok v w)(hgd:Region.wanted (Oper.mk dst (.build T parts) ty pos aft gd) (yielded ops a.tmps)=true)(hr:wpList P ops Q rest (a.put dst v) w):wpList P ops Q ((Oper.mk dst (.build T parts) ty pos aft gd)::rest) a w:=
 wpList_want hgd fun K hK=>by
   have h:=hb w
   unfold Oper.wp execOp
   simp only [Sem.run_bind,h,Result.andThen_ok,Sem.run_pure]
   exact hK _ _ hr
theorem wq_build1 {i:Nat}{u:Value}(hb:∀w,(Instr.build T #[(i,u)]).run P w= .ok v w)(hgd:Region.wanted (Oper.mk dst (.build T #[(i,x)]) ty pos aft gd) (yielded ops a.tmps)=true)(hx:a.eval x=u)(hr:wpList P ops Q rest (a.put dst v) w):wpList P ops Q ((Oper.mk dst (.build T #[(i,x)]) ty pos aft gd)::rest) a w:=
 wq_buildN (fun w=>by simpa [hx]using hb w) hgd hr
theorem wq_s1v {b:Nat}{f:BitVec b→Value}{z:BitVec b}(hm:Own w0 w L)(hgd:Region.wanted (Oper.mk dst (.store T x y) ty pos aft gd) (yielded ops a.tmps)=true)(hT:One1 P T)(hx:a.eval x= .pointer (some ⟨g,k,none⟩))(hy:a.eval y=f z)(hf:CellV f)(hs:Swap L ⟨g,t,cs⟩ ⟨g,t,cs.set k (f z)⟩ L')(hk:k<cs.length)(hr:∀w',Own w0 w' L'→wpList P ops Q rest (a.put dst undef) w'):wpList P ops Q ((Oper.mk dst (.store T x y) ty pos aft gd)::rest) a w:=wpl_st1 hm hgd rfl hx hy (hf.cells z) (hf.one z) hs hk rfl hr
theorem run_rdW {l:List Byte}{A:Addr}(h:RdB w (some A) l)[hT:Many P T n](hn:l.length=n):(Instr.loadAt T (.pointer (some A))).run P w= .ok (A8 l) w:=by
 obtain⟨d,hu,hd⟩:=Option.map_eq_some_iff.1 hT.row
 have hl:(loadCells A (l.map v8).length).run P w= .ok (l.map v8).toArray w:=
   run_loadCells_list (P:=P) w A (l.map v8) (fun j v hv=>by
     obtain⟨hj,e⟩:=List.getElem?_eq_some_iff.1 hv
     rw [List.length_map]at hj
     have:=h.2 j hj
     simp only [Option.getD_some]at this
     rw [this,←e];simp [hj])
 have hagg:(isAgg T).run P w= .ok true w:=by
   unfold isAgg
   rw [Sem.run_bind,run_underlying hu w]
   cases d<;>simp_all
 obtain⟨i,hi1,hi2⟩:=Option.map_eq_some_iff.1 hT.size
 rw [List.length_map]at hl
 simp [Instr.loadAt,Instr.sureAddr,loadVar,Sem.run_bind,hagg,sizeOf,typeInfo,hi1,hi2,←hn,hl]
theorem gq_rdW {l:List Byte}{A:Addr}(h:RdB w (some A) l)(hT:Many P T n)(hx:a.eval x= .pointer (some A))(hn:l.length=n):gives P w (Is (A8 l)) ((execOp a.eval (Oper.mk dst (.load T x) ty pos aft gd)).run P w):=by
 unfold execOp
 simp only [hx,Sem.run_bind,run_rdW h hn,Result.andThen_ok,Sem.run_pure]
 exact gives_same
theorem wq_rdW {l:List Byte}{A:Addr}(h:RdB w (some A) l)(hgd:Region.wanted (Oper.mk dst (.load T x) ty pos aft gd) (yielded ops a.tmps)=true)(hT:Many P T n)(hx:a.eval x= .pointer (some A))(hn:l.length=n)(hr:wpList P ops Q rest (a.put dst (A8 l)) w):wpList P ops Q ((Oper.mk dst (.load T x) ty pos aft gd)::rest) a w:=
 wpList_want hgd fun K hK=>by
   unfold Oper.wp execOp
   simp only [hx,Sem.run_bind,run_rdW h hn,Result.andThen_ok,Sem.run_pure]
   exact hK _ _ hr
theorem gq_row1(h:Row w g t cs)(hT:One1 P T)(hx:a.eval x= .pointer (some ⟨g,k,none⟩))(hv:cs[k]? =some v):gives P w (Is v) ((execOp a.eval (Oper.mk dst (.load T x) ty pos aft gd)).run P w):=by
 have hm:Own w w []:=Own.start w
 have hc:w.cell? ⟨g,k,none⟩=some v:=by rw [row_cell h k];exact hv
 obtain⟨d,hu,hd⟩:=Option.map_eq_some_iff.1 hT.row
 have hagg:(isAgg T).run P w= .ok false w:=by
   unfold isAgg
   rw [Sem.run_bind,run_underlying hu w]
   cases d<;>simp_all
 unfold execOp
 simp [hx,Instr.loadAt,Instr.sureAddr,loadVar,Sem.run_bind,hagg,hc]
 exact gives_same
end
@[go_sem] theorem indexAt_v8 (t : TypeId) (x : Value) (i : BitVec 8) : Instr.indexAt t x (v8 i) = Instr.indexAt t x (.int .u8 i.toNat) := rfl
@[go_sem] theorem index_v8 (t : TypeId) (x : Value) (i : BitVec 8) : Instr.index t x (v8 i) = Instr.index t x (.int .u8 i.toNat) := rfl
theorem wp_scope_goto {P:Program}{c X:Code}{Q:Exit→Act→World→Prop}{a:Act}{w:World}(l:Nat)(J:Act→World→Prop)(μ :Act→World→Nat)(hf:findLabel c l=some (Code.skip.seq X))
   (pass:∀a w,J a w→X.wp P (Exit.jump l (fun a' w'=>J a' w'∧ μ a' w'< μ a w) Q) a w)
   (first:(∀a w,J a w→X.wp P (Exit.jump l J Q) a w)→c.wp P (Exit.jump l J Q) a w):(Code.scope c).wp P Q a w:=
 wp_scope_jumps l J μ hf (first fun a w h=>Code.wp_mono (fun e a' w' he=>by
   cases e<;>first|exact he|exact⟨he.1,he.2.1⟩) (pass a w h)) (fun a w h=>wp_seq (wp_skip (pass a w h)))
instance:One1 Tryz.prog 3:=⟨by kernel_rfl,by kernel_rfl⟩
instance:ZeroOf Tryz.prog 3 [.int .i64 0]:=⟨by kernel_rfl⟩
instance:One1 Tryz.prog 4:=⟨by kernel_rfl,by kernel_rfl⟩
instance:ZeroOf Tryz.prog 4 [.bool false]:=⟨by kernel_rfl⟩
instance:One1 Tryz.prog 5:=⟨by kernel_rfl,by kernel_rfl⟩
instance:ZeroOf Tryz.prog 5 [v8 0#8]:=⟨by kernel_rfl⟩
instance:One1 Tryz.prog 9:=⟨by kernel_rfl,by kernel_rfl⟩
instance:ZeroOf Tryz.prog 9 [.string ⟨#[]⟩]:=⟨by kernel_rfl⟩
instance:One1 Tryz.prog 22:=⟨by kernel_rfl,by kernel_rfl⟩
instance:ZeroOf Tryz.prog 22 [.slice none 0 0]:=⟨by kernel_rfl⟩
instance:Many Tryz.prog 24 2:=⟨by kernel_rfl,by kernel_rfl⟩
instance:ZeroOf Tryz.prog 24 ([.int .i64 0, .slice none 0 0]):=⟨by kernel_rfl⟩
instance:One1 Tryz.prog 25:=⟨by kernel_rfl,by kernel_rfl⟩
instance:ZeroOf Tryz.prog 25 [.slice none 0 0]:=⟨by kernel_rfl⟩
instance:One1 Tryz.prog 26:=⟨by kernel_rfl,by kernel_rfl⟩
instance:ZeroOf Tryz.prog 26 [.slice none 0 0]:=⟨by kernel_rfl⟩
instance:One1 Tryz.prog 28:=⟨by kernel_rfl,by kernel_rfl⟩
instance:ZeroOf Tryz.prog 28 [.pointer none]:=⟨by kernel_rfl⟩
instance:Many Tryz.prog 30 4:=⟨by kernel_rfl,by kernel_rfl⟩
instance:ZeroOf Tryz.prog 30 ([.string ⟨#[]⟩, .string ⟨#[]⟩, .string ⟨#[]⟩, .string ⟨#[]⟩]):=⟨by kernel_rfl⟩
instance:One1 Tryz.prog 31:=⟨by kernel_rfl,by kernel_rfl⟩
instance:ZeroOf Tryz.prog 31 [.int .i64 0]:=⟨by kernel_rfl⟩
instance:One1 Tryz.prog 34:=⟨by kernel_rfl,by kernel_rfl⟩
instance:One1 Tryz.prog 40:=⟨by kernel_rfl,by kernel_rfl⟩
instance:ZeroOf Tryz.prog 40 [.pointer none]:=⟨by kernel_rfl⟩
instance:Many Tryz.prog 43 3:=⟨by kernel_rfl,by kernel_rfl⟩
instance:ZeroOf Tryz.prog 43 ([.int .i64 0, .int .i64 0, .int .i64 0]):=⟨by kernel_rfl⟩
instance:Many Tryz.prog 45 20:=⟨by kernel_rfl,by kernel_rfl⟩
instance:ZeroOf Tryz.prog 45 ((zer (n:=8) 20).map v8):=⟨by kernel_rfl⟩
instance:Many Tryz.prog 47 21:=⟨by kernel_rfl,by kernel_rfl⟩
instance:ZeroOf Tryz.prog 47 ((zer (n:=8) 21).map v8):=⟨by kernel_rfl⟩
instance:One1 Tryz.prog 49:=⟨by kernel_rfl,by kernel_rfl⟩
instance:ZeroOf Tryz.prog 49 [.pointer none]:=⟨by kernel_rfl⟩
instance:One1 Tryz.prog 65:=⟨by kernel_rfl,by kernel_rfl⟩
instance:ZeroOf Tryz.prog 65 [.pointer none]:=⟨by kernel_rfl⟩
instance:Many Tryz.prog 68 16:=⟨by kernel_rfl,by kernel_rfl⟩
instance:ZeroOf Tryz.prog 68 ((zer (n:=8) 16).map v8):=⟨by kernel_rfl⟩
instance:One1 Tryz.prog 69:=⟨by kernel_rfl,by kernel_rfl⟩
instance:ZeroOf Tryz.prog 69 [v64 0#64]:=⟨by kernel_rfl⟩
instance:Many Tryz.prog 71 2:=⟨by kernel_rfl,by kernel_rfl⟩
instance:ZeroOf Tryz.prog 71 ([v64 0#64,v64 0#64]):=⟨by kernel_rfl⟩
instance:One1 Tryz.prog 74:=⟨by kernel_rfl,by kernel_rfl⟩
instance:ZeroOf Tryz.prog 74 [v32 0#32]:=⟨by kernel_rfl⟩
instance:Many Tryz.prog 75 256:=⟨by kernel_rfl,by kernel_rfl⟩
instance:ZeroOf Tryz.prog 75 ((zer (n:=32) 256).map v32):=⟨by kernel_rfl⟩
instance:Many Tryz.prog 76 1024:=⟨by kernel_rfl,by kernel_rfl⟩
instance:ZeroOf Tryz.prog 76 ((zer (n:=32) 1024).map v32):=⟨by kernel_rfl⟩
instance:Many Tryz.prog 78 2049:=⟨by kernel_rfl,by kernel_rfl⟩
instance:ZeroOf Tryz.prog 78 ([.pointer none]++((zer (n:=32) 2048).map v32)):=⟨by kernel_rfl⟩
instance:One1 Tryz.prog 80:=⟨by kernel_rfl,by kernel_rfl⟩
instance:ZeroOf Tryz.prog 80 [.nilIface]:=⟨by kernel_rfl⟩
instance:Many Tryz.prog 84 2:=⟨by kernel_rfl,by kernel_rfl⟩
instance:ZeroOf Tryz.prog 84 ([.int .i64 0, .nilIface]):=⟨by kernel_rfl⟩
instance:Many Tryz.prog 87 4:=⟨by kernel_rfl,by kernel_rfl⟩
instance:ZeroOf Tryz.prog 87 ((zer (n:=8) 4).map v8):=⟨by kernel_rfl⟩
instance:Many Tryz.prog 88 255:=⟨by kernel_rfl,by kernel_rfl⟩
instance:ZeroOf Tryz.prog 88 ((zer (n:=8) 255).map v8):=⟨by kernel_rfl⟩
instance:Many Tryz.prog 89 256:=⟨by kernel_rfl,by kernel_rfl⟩
instance:ZeroOf Tryz.prog 89 ((zer (n:=8) 256).map v8):=⟨by kernel_rfl⟩
instance:Many Tryz.prog 91 512:=⟨by kernel_rfl,by kernel_rfl⟩
instance:ZeroOf Tryz.prog 91 ((zer (n:=8) 512).map v8):=⟨by kernel_rfl⟩
instance:Many Tryz.prog 94 8:=⟨by kernel_rfl,by kernel_rfl⟩
instance:ZeroOf Tryz.prog 94 ((zer (n:=8) 8).map v8):=⟨by kernel_rfl⟩
instance:One1 Tryz.prog 96:=⟨by kernel_rfl,by kernel_rfl⟩
instance:ZeroOf Tryz.prog 96 [.pointer none]:=⟨by kernel_rfl⟩
instance:One1 Tryz.prog 99:=⟨by kernel_rfl,by kernel_rfl⟩
instance:ZeroOf Tryz.prog 99 [.pointer none]:=⟨by kernel_rfl⟩
instance:One1 Tryz.prog 102:=⟨by kernel_rfl,by kernel_rfl⟩
instance:ZeroOf Tryz.prog 102 [.pointer none]:=⟨by kernel_rfl⟩
instance:Many Tryz.prog 106 1:=⟨by kernel_rfl,by kernel_rfl⟩
instance:ZeroOf Tryz.prog 106 ([.pointer none]):=⟨by kernel_rfl⟩
instance:One1 Tryz.prog 108:=⟨by kernel_rfl,by kernel_rfl⟩
instance:ZeroOf Tryz.prog 108 [v64 0#64]:=⟨by kernel_rfl⟩
instance:Many Tryz.prog 110 32:=⟨by kernel_rfl,by kernel_rfl⟩
instance:ZeroOf Tryz.prog 110 ((zer (n:=8) 32).map v8):=⟨by kernel_rfl⟩
instance:One1 Tryz.prog 111:=⟨by kernel_rfl,by kernel_rfl⟩
instance:ZeroOf Tryz.prog 111 [.pointer none]:=⟨by kernel_rfl⟩
instance:One1 Tryz.prog 112:=⟨by kernel_rfl,by kernel_rfl⟩
instance:ZeroOf Tryz.prog 112 [.pointer none]:=⟨by kernel_rfl⟩
instance:Many Tryz.prog 114 34:=⟨by kernel_rfl,by kernel_rfl⟩
instance:ZeroOf Tryz.prog 114 (((zer (n:=8) 32).map v8)++[.pointer none, .pointer none]):=⟨by kernel_rfl⟩
instance:Many Tryz.prog 116 24:=⟨by kernel_rfl,by kernel_rfl⟩
instance:ZeroOf Tryz.prog 116 ((zer (n:=8) 24).map v8):=⟨by kernel_rfl⟩
instance:Many Tryz.prog 122 33:=⟨by kernel_rfl,by kernel_rfl⟩
instance:ZeroOf Tryz.prog 122 ([.pointer none]++((zer (n:=8) 32).map v8)):=⟨by kernel_rfl⟩
instance:One1 Tryz.prog 123:=⟨by kernel_rfl,by kernel_rfl⟩
instance:Many Tryz.prog 127 49:=⟨by kernel_rfl,by kernel_rfl⟩
instance:ZeroOf Tryz.prog 127 ([.pointer none]++((zer (n:=8) 48).map v8)):=⟨by kernel_rfl⟩
instance:Many Tryz.prog 130 64:=⟨by kernel_rfl,by kernel_rfl⟩
instance:ZeroOf Tryz.prog 130 ((zer (n:=8) 64).map v8):=⟨by kernel_rfl⟩
instance:One1 Tryz.prog 136:=⟨by kernel_rfl,by kernel_rfl⟩
instance:ZeroOf Tryz.prog 136 [.slice none 0 0]:=⟨by kernel_rfl⟩
instance:Many Tryz.prog 137 4:=⟨by kernel_rfl,by kernel_rfl⟩
instance:ZeroOf Tryz.prog 137 ((zer (n:=8) 4).map v8):=⟨by kernel_rfl⟩
instance:One1 Tryz.prog 142:=⟨by kernel_rfl,by kernel_rfl⟩
instance:ZeroOf Tryz.prog 142 [.slice none 0 0]:=⟨by kernel_rfl⟩
instance:Many Tryz.prog 144 2:=⟨by kernel_rfl,by kernel_rfl⟩
instance:ZeroOf Tryz.prog 144 ([.pointer none, .slice none 0 0]):=⟨by kernel_rfl⟩
instance:One1 Tryz.prog 146:=⟨by kernel_rfl,by kernel_rfl⟩
instance:ZeroOf Tryz.prog 146 [.slice none 0 0]:=⟨by kernel_rfl⟩
instance:Many Tryz.prog 150 33:=⟨by kernel_rfl,by kernel_rfl⟩
instance:ZeroOf Tryz.prog 150 (((zer (n:=8) 32).map v8)++[.slice none 0 0]):=⟨by kernel_rfl⟩
instance:One1 Tryz.prog 153:=⟨by kernel_rfl,by kernel_rfl⟩
instance:ZeroOf Tryz.prog 153 [.pointer none]:=⟨by kernel_rfl⟩
instance:One1 Tryz.prog 156:=⟨by kernel_rfl,by kernel_rfl⟩
instance:Many Tryz.prog 160 16:=⟨by kernel_rfl,by kernel_rfl⟩
instance:ZeroOf Tryz.prog 160 ((zer (n:=32) 16).map v32):=⟨by kernel_rfl⟩
instance:One1 Tryz.prog 165:=⟨by kernel_rfl,by kernel_rfl⟩
instance:Many Tryz.prog 168 8:=⟨by kernel_rfl,by kernel_rfl⟩
instance:ZeroOf Tryz.prog 168 ((zer (n:=64) 8).map v64):=⟨by kernel_rfl⟩
instance:Many Tryz.prog 170 12:=⟨by kernel_rfl,by kernel_rfl⟩
instance:ZeroOf Tryz.prog 170 (((zer (n:=64) 10).map v64)++[.slice none 0 0, .int .i64 0]):=⟨by kernel_rfl⟩
instance:Many Tryz.prog 174 128:=⟨by kernel_rfl,by kernel_rfl⟩
instance:ZeroOf Tryz.prog 174 ((zer (n:=8) 128).map v8):=⟨by kernel_rfl⟩
instance:One1 Tryz.prog 177:=⟨by kernel_rfl,by kernel_rfl⟩
instance:ZeroOf Tryz.prog 177 [.pointer none]:=⟨by kernel_rfl⟩
instance:Many Tryz.prog 182 16:=⟨by kernel_rfl,by kernel_rfl⟩
instance:ZeroOf Tryz.prog 182 ((zer (n:=64) 16).map v64):=⟨by kernel_rfl⟩
instance:Many Tryz.prog 184 160:=⟨by kernel_rfl,by kernel_rfl⟩
instance:ZeroOf Tryz.prog 184 ((zer (n:=8) 160).map v8):=⟨by kernel_rfl⟩
instance:One1 Tryz.prog 186:=⟨by kernel_rfl,by kernel_rfl⟩
instance:ZeroOf Tryz.prog 186 [.pointer none]:=⟨by kernel_rfl⟩
instance:One1 Tryz.prog 221:=⟨by kernel_rfl,by kernel_rfl⟩
instance:ZeroOf Tryz.prog 221 [.pointer none]:=⟨by kernel_rfl⟩
instance:Many Tryz.prog 228 5:=⟨by kernel_rfl,by kernel_rfl⟩
instance:ZeroOf Tryz.prog 228 ((zer (n:=32) 5).map v32):=⟨by kernel_rfl⟩
instance:Many Tryz.prog 231 27:=⟨by kernel_rfl,by kernel_rfl⟩
instance:ZeroOf Tryz.prog 231 (((zer (n:=32) 10).map v32)++((zer (n:=8) 16).map v8)++[.int .i64 0]):=⟨by kernel_rfl⟩
instance:Many Tryz.prog 233 4:=⟨by kernel_rfl,by kernel_rfl⟩
instance:ZeroOf Tryz.prog 233 ((zer (n:=64) 4).map v64):=⟨by kernel_rfl⟩
instance:Many Tryz.prog 234 4:=⟨by kernel_rfl,by kernel_rfl⟩
instance:ZeroOf Tryz.prog 234 ((zer (n:=32) 4).map v32):=⟨by kernel_rfl⟩
instance:Many Tryz.prog 237 5:=⟨by kernel_rfl,by kernel_rfl⟩
instance:ZeroOf Tryz.prog 237 ((zer (n:=64) 5).map v64):=⟨by kernel_rfl⟩
instance:One1 Tryz.prog 248:=⟨by kernel_rfl,by kernel_rfl⟩
instance:ZeroOf Tryz.prog 248 [.pointer none]:=⟨by kernel_rfl⟩
instance:One1 Tryz.prog 252:=⟨by kernel_rfl,by kernel_rfl⟩
instance:ZeroOf Tryz.prog 252 [.pointer none]:=⟨by kernel_rfl⟩
instance:Many Tryz.prog 255 17:=⟨by kernel_rfl,by kernel_rfl⟩
instance:ZeroOf Tryz.prog 255 ([.pointer none]++((zer (n:=8) 16).map v8)):=⟨by kernel_rfl⟩
instance:Many Tryz.prog 256 32:=⟨by kernel_rfl,by kernel_rfl⟩
instance:ZeroOf Tryz.prog 256 ((zer (n:=64) 32).map v64):=⟨by kernel_rfl⟩
instance:Many Tryz.prog 258 32:=⟨by kernel_rfl,by kernel_rfl⟩
instance:ZeroOf Tryz.prog 258 ((zer (n:=64) 32).map v64):=⟨by kernel_rfl⟩
instance:Many Tryz.prog 261 2:=⟨by kernel_rfl,by kernel_rfl⟩
instance:ZeroOf Tryz.prog 261 ([v8 0#8,v8 0#8]):=⟨by kernel_rfl⟩
instance:Many Tryz.prog 269 2:=⟨by kernel_rfl,by kernel_rfl⟩
instance:ZeroOf Tryz.prog 269 ([.slice none 0 0, .slice none 0 0]):=⟨by kernel_rfl⟩
instance:One1 Tryz.prog 272:=⟨by kernel_rfl,by kernel_rfl⟩
instance:ZeroOf Tryz.prog 272 [.slice none 0 0]:=⟨by kernel_rfl⟩
instance:Many Tryz.prog 274 35:=⟨by kernel_rfl,by kernel_rfl⟩
instance:ZeroOf Tryz.prog 274 ([.slice none 0 0, .slice none 0 0, .slice none 0 0]++((zer (n:=8) 32).map v8)):=⟨by kernel_rfl⟩
instance:One1 Tryz.prog 280:=⟨by kernel_rfl,by kernel_rfl⟩
instance:Many Tryz.prog 284 32:=⟨by kernel_rfl,by kernel_rfl⟩
instance:ZeroOf Tryz.prog 284 ((zer (n:=8) 32).map v8):=⟨by kernel_rfl⟩
instance:One1 Tryz.prog 287:=⟨by kernel_rfl,by kernel_rfl⟩
@[go_sem] theorem cv3_5 (n : Int) (w : World) : (convert 3 5 (.int .i64 n)).run Tryz.prog w = .ok (v8 (BitVec.ofInt 8 n)) w := conv_int8 n _ _ _ _ w rfl rfl
@[go_sem] theorem cv3_69 (n : Int) (w : World) : (convert 3 69 (.int .i64 n)).run Tryz.prog w = .ok (v64 (BitVec.ofInt 64 n)) w := conv_int64 n _ _ _ _ w rfl rfl
@[go_sem] theorem cv3_108 (n : Int) (w : World) : (convert 3 108 (.int .i64 n)).run Tryz.prog w = .ok (v64 (BitVec.ofInt 64 n)) w := conv_int64 n _ _ _ _ w rfl rfl
@[go_sem] theorem cv5_3 (x : BitVec 8) (w : World) : (convert 5 3 (v8 x)).run Tryz.prog w = .ok (.int .i64 x.toNat) w := conv8_i64 x _ _ _ w rfl rfl
@[go_sem] theorem cv5_69 (x : BitVec 8) (w : World) : (convert 5 69 (v8 x)).run Tryz.prog w = .ok (v64 (x.setWidth 64)) w := conv8_64 x _ _ _ w rfl rfl
@[go_sem] theorem cv5_74 (x : BitVec 8) (w : World) : (convert 5 74 (v8 x)).run Tryz.prog w = .ok (v32 (x.setWidth 32)) w := conv8_32 x _ _ _ w rfl rfl
@[go_sem] theorem cv69_5 (x : BitVec 64) (w : World) : (convert 69 5 (v64 x)).run Tryz.prog w = .ok (v8 (x.setWidth 8)) w := conv64_8 x _ _ _ w rfl rfl
@[go_sem] theorem cv69_74 (x : BitVec 64) (w : World) : (convert 69 74 (v64 x)).run Tryz.prog w = .ok (v32 (x.setWidth 32)) w := conv64_32 x _ _ _ w rfl rfl
@[go_sem] theorem cv74_5 (x : BitVec 32) (w : World) : (convert 74 5 (v32 x)).run Tryz.prog w = .ok (v8 (x.setWidth 8)) w := conv32_8 x _ _ _ w rfl rfl
@[go_sem] theorem cv74_69 (x : BitVec 32) (w : World) : (convert 74 69 (v32 x)).run Tryz.prog w = .ok (v64 (x.setWidth 64)) w := conv32_64 x _ _ _ w rfl rfl
@[go_sem] theorem and1_nat (t : TypeId) (N : Nat) : binOp .and t (.int .i64 (N : Int)) (.int .i64 1) = pure (.int .i64 ((N % 2 : Nat) : Int)) := by
 rw [binOp_and]
 show pure (Value.int .i64 (IntKind.i64.wrap ((BitVec.ofInt 64 (N:Int)&&&BitVec.ofInt 64 1).toNat:Nat)))=_
 have e:(BitVec.ofInt 64 (N:Int)&&&BitVec.ofInt 64 1).toNat=N%2:=by
   rw [ofInt_nat',show BitVec.ofInt 64 1=1#64 from by decide,BitVec.toNat_and]
   simp only [BitVec.toNat_ofNat,show(1%2^64)=1 from by decide,Nat.and_one_is_mod]
   omega
 rw [e,IntWalk.i64_in _ (by omega)]
theorem bits_and1(N:Nat):bits .and .i64 (N:Int) 1=((N%2:Nat):Int):=by
 show IntKind.i64.wrap ((BitVec.ofInt 64 (N:Int)&&&BitVec.ofInt 64 1).toNat:Nat)=_
 have e:(BitVec.ofInt 64 (N:Int)&&&BitVec.ofInt 64 1).toNat=N%2:=by
   rw [ofInt_nat',show BitVec.ofInt 64 1=1#64 from by decide,BitVec.toNat_and]
   simp only [BitVec.toNat_ofNat,show(1%2^64)=1 from by decide,Nat.and_one_is_mod]
   omega
 rw [e,IntWalk.i64_in _ (by omega)]
@[go_sem] theorem shr1_nat (t : TypeId) (N : Nat) : binOp .shr t (.int .i64 (N : Int)) (.int .u64 1) = pure (.int .i64 ((N / 2 : Nat) : Int)) := by
 simp only [binOp_shr,Op.shift]
 have:((N:Int).fdiv (2^(min (1:Int).toNat IntKind.i64.bits)))=((N/2:Nat):Int):=by
   rw [show min (1:Int).toNat IntKind.i64.bits=1 from by decide,Int.fdiv_eq_ediv_of_nonneg _ (by decide)];omega
 rw [this];rfl
theorem build_z16(w:World):(Instr.build 68 #[]).run Tryz.prog w= .ok (A8 (zer 16)) w:=by kernel_rfl
open Go
def bothL(a b:List Byte):List Byte:=tab 16 fun i=>nth a i^^^nth b i
theorem bothL_length(a b:List Byte):(bothL a b).length=16:=tab_length
theorem bothL_nth(a b:List Byte)(i:Nat)(h:i<16):nth (bothL a b) i=nth a i^^^nth b i:=nth_tab h
end Go.Proofs.YtllnjbiebdkmbaaGreatDoor
