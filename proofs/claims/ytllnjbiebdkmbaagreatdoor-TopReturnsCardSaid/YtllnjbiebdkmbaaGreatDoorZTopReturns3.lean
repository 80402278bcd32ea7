/-
  Texts of the program, walked, and plain ones. Conditions: those written in each theorem.
-/
import Derived.Test.YtllnjbiebdkmbaaGreatDoorZTopReturns0
import Derived.Test.YtllnjbiebdkmbaaGreatDoorZTopReturns2
import Derived.Test.YtllnjbiebdkmbaaGreatDoorProg
set_option linter.unusedSimpArgs false
set_option linter.unusedVariables false
set_option maxHeartbeats 16000000
namespace Go.Proofs.YtllnjbiebdkmbaaGreatDoor
open Go Go.RowKit
set_option maxRecDepth 100000
abbrev Byte:=BitVec 8
def RdB(w:World)(p:Option Addr)(l:List Byte):Prop:=
 (0<l.length→p.isSome=true)∧∀i,i<l.length→w.cell? ((p.getD default).add i)=some (v8 (l.getD i 0))
theorem RdB.isSome {w:World}{p:Option Addr}{l:List Byte}(h:RdB w p l)(i:Nat)(hi:i<l.length):p.isSome=true:=h.1 (by omega)
theorem RdB.at {w:World}{p:Option Addr}{l:List Byte}(h:RdB w p l)(i:Nat)(hi:i<l.length):w.cell? ((p.getD default).add i)=some (v8 (l.getD i 0)):=h.2 i hi
theorem RdB.ext {w w':World}{p:Option Addr}{l:List Byte}(h:RdB w p l)(hx:Ext w w'):RdB w' p l:=⟨h.1,fun i hi=>hx.cell (h.2 i hi)⟩
theorem RdB.nil(w:World)(p:Option Addr):RdB w p []:=⟨by simp,by simp⟩
def BytesS(l:List Byte):Slot:=fun v w=>∃p c,v= .slice p l.length c∧l.length≤c∧RdB w p l
theorem BytesS.stable(l:List Byte):Stable (BytesS l):=fun _ _ _ ⟨p,c,h1,h2,h3⟩ hx=>⟨p,c,h1,h2,h3.ext hx⟩
@[go_sem] theorem run_indexAt_opt {P : Program} (w : World) (t : TypeId) (p : Option Addr) (len cap : Nat) (k : IntKind) (i : Int) (h : P.underlying t = some (.slice (P.elem t))) (hp : p.isSome = true) :
   (Instr.indexAt t (.slice p len cap) (.int k i)).run P w=
     if 0≤i∧i<len then((sizeOf (P.elem t)).run P w).andThen fun s w=> .ok (.pointer (some ((p.getD default).add (i.toNat*s)))) w
     else(boundsPanic k i len .index).run P w:=by
 obtain⟨a,rfl⟩:=Option.isSome_iff_exists.1 hp
 exact run_indexAt_slice w t a len cap k i h
theorem Gives.of_same {P:Program}{f:FuncId}{args:Array Value}{w:World}{c:Value}(h:Calls P f args w fun e w'=>e= .returned c∧w=w'):Gives P f args w c:=
 h.mono fun _ _ ⟨he,hw⟩=>⟨he,by subst hw;exact Ext.refl w⟩
theorem drew_ext(w:World):Ext w w.drew:=Below.drew (Below.refl _ _)
/-! ### Blocks of the call's own -/
abbrev Row(w:World)(g:Nat)(t:TypeId)(cs:List Value):Prop:=w.heap[g]? =some (.cells cs.toArray t (0,0))
abbrev A8(l:List Byte):Value:= .agg (l.map v8).toArray
theorem row_lt {w:World}{g:Nat}{t:TypeId}{cs:List Value}(h:Row w g t cs):g<w.heap.size:=(Array.getElem?_eq_some_iff.1 h).1
theorem row_new(w:World)(t:TypeId)(cs:List Value):Row (w.alloc (.cells cs.toArray t)) w.heap.size t cs:=heap_alloc_new w _
theorem row_alloc {w:World}{g:Nat}{t:TypeId}{cs:List Value}(h:Row w g t cs)(o:Obj):Row (w.alloc o) g t cs:=by
 unfold Row;rw [Below.heap_alloc w o g (row_lt h)];exact h
theorem row_ext {w w':World}{g:Nat}{t:TypeId}{cs:List Value}(h:Row w g t cs)(hx:Ext w w'):Row w' g t cs:=hx.block h
theorem row_cell {w:World}{g:Nat}{t:TypeId}{cs:List Value}(h:Row w g t cs)(i:Nat):w.cell? ⟨g,i,none⟩=cs[i]? :=by
 rw [cell_of_row w g i _ t _ h];simp
theorem row_free {w:World}{g:Nat}{t:TypeId}{cs:List Value}(h:Row w g t cs)(i:Nat):w.frozen? ⟨g,i,none⟩=false:=frozen_of_row w g i _ t h
theorem row_set {w:World}{g:Nat}{t:TypeId}{cs:List Value}(h:Row w g t cs)(i:Nat)(v:Value):Row (w.setCell ⟨g,i,none⟩ v) g t (cs.set i v):=by
 unfold Row;rw [heap_setCell_same w g i _ t v h];simp
theorem row_other {w:World}{g:Nat}{t:TypeId}{cs:List Value}(h:Row w g t cs)(a:Addr)(v:Value)(hne:g≠a.block):Row (w.setCell a v) g t cs:=by
 unfold Row;rw [heap_setCell_other w a g v hne];exact h
theorem row_v8 {w:World}{g:Nat}{t:TypeId}{l:List Byte}(h:Row w g t (l.map v8))(i:Nat)(hi:i<l.length):w.cell? ⟨g,i,none⟩=some (v8 (l.getD i 0)):=by
 rw [row_cell h,List.getElem?_map,List.getElem?_eq_getElem hi];simp [hi]
theorem RdB.of_row {w:World}{g:Nat}{t:TypeId}{l:List Byte}(h:Row w g t (l.map v8)):RdB w (some ⟨g,0,none⟩) l:=
 ⟨fun _=>rfl,fun i hi=>by
   have:(⟨g,0,none⟩:Addr).add i=⟨g,i,none⟩:=by simp [Addr.add];omega
   show w.cell? ((⟨g,0,none⟩:Addr).add i)=_
   rw [this];exact row_v8 h i hi⟩
theorem run_storeAt_row {P:Program}{w:World}{g:Nat}{T t:TypeId}{cs0 cs:List Value}(h:Row w g t cs0)(hl:cs.length=cs0.length)(hi:(P.info? T).map (·.size)=some cs.length)(h1:∀v∈cs,v.oneCell'=true):
   (Instr.storeAt T (.pointer (some ⟨g,0,none⟩)) (.agg cs.toArray)).run P w= .ok () (w.setRow g cs.toArray):=by
 have hs:=run_storeCells_at P g 0 t cs 0 cs0.toArray w h (by simp;omega) h1
 simp only [Nat.zero_add,List.take_zero,List.nil_append]at hs
 rw [show cs0.toArray.toList.drop cs.length=[]by simp [hl],List.append_nil]at hs
 obtain⟨i,hi1,hi2⟩:=Option.map_eq_some_iff.1 hi
 simp [Instr.storeAt,Instr.sureAddr,storeVar,sizeOf,typeInfo,hi1,hi2,Value.cells,hs]
theorem row_setRow {w:World}{g:Nat}{t:TypeId}{cs0:List Value}(h:Row w g t cs0)(cs:List Value):Row (w.setRow g cs.toArray) g t cs:=setRow_heap w g _ _ t _ h
theorem row_setRow_other {w:World}{g k:Nat}{t:TypeId}{cs0:List Value}(h:Row w k t cs0)(cs:Array Value)(hne:k≠g):Row (w.setRow g cs) k t cs0:=by
 unfold Row;rw [setRow_other w g k cs hne];exact h
theorem below_setRow {B:Nat}{w w':World}(h:Below B w w')(g:Nat)(cs:Array Value)(hg:B≤g):Below B w (w'.setRow g cs):=
 h.trans ⟨rfl,rfl,rfl,by simp,fun k hk=>setRow_other w' g k cs (by omega)⟩
theorem ext_setRow {w w':World}(h:Ext w w')(g:Nat)(cs:Array Value)(hg:w.heap.size≤g):Ext w (w'.setRow g cs):=below_setRow h g cs hg
theorem ext_setCell {w w':World}(h:Ext w w')(a:Addr)(v:Value)(hg:w.heap.size≤a.block):Ext w (w'.setCell a v):=Below.setCell h hg v
theorem run_loadAt_row {P:Program}{w:World}{g:Nat}{T t:TypeId}{cs:List Value}{d:TypeDesc}(h:Row w g t cs)(hu:P.underlying T=some d)(hd:(match d with| .struct _| .array _ _=>true|_=>false)=true)(hi:(P.info? T).map (·.size)=some cs.length):
   (Instr.loadAt T (.pointer (some ⟨g,0,none⟩))).run P w= .ok (.agg cs.toArray) w:=by
 simp only [Instr.loadAt,Instr.sureAddr,Sem.run_bind,Sem.run_pure,Result.andThen_ok]
 exact run_loadVar_row w g t T cs.toArray (0,0) d h hu hd (by simpa using hi)
theorem ret_row {P:Program}{fn:Func}{R:Ending→World→Prop}{a:Act}{w:World}{p:Tmp}{T t:TypeId}{g:Nat}{cs:List Value}{d:TypeDesc}(h:fn.results= #[.cell p T])(hp:a.tmps.getD p undef= .pointer (some ⟨g,0,none⟩))(hr:Row w g t cs)
   (hu:P.underlying T=some d) (hd:(match d with| .struct _| .array _ _=>true|_=>false)=true) (hi:(P.info? T).map (·.size)=some cs.length) (hf:a.defers=[]) (hR:R (.returned (.agg cs.toArray)) w):bodyPost P fn R .ret a w:=
 bodyPost_ret (results_cell_row h _ w g t cs.toArray (0,0) d hp hr hu hd (by simpa using hi)) hf hR
theorem one_v8(l:List Byte):∀v∈l.map v8,v.oneCell'=true:=by
 intro v hv;obtain⟨x,_,rfl⟩:=List.mem_map.1 hv;rfl
theorem wpList_want {P:Program}{ops:Array Oper}{Q:Exit→Act→World→Prop}{rest:List Oper}{o:Oper}{a:Act}{w:World}(hgd:Region.wanted o (yielded ops a.tmps)=true)
   (h:∀K:Act→World→Prop,(∀a w,wpList P ops Q rest a w→K a w)→o.wp P a w K Q):wpList P ops Q (o::rest) a w:=by
 unfold wpList
 rw [if_pos hgd]
 exact .inl (h _ (fun _ _ h=>h))
theorem wpl_store_row {P:Program}{ops:Array Oper}{Q:Exit→Act→World→Prop}{rest:List Oper}{o:Oper}{a:Act}{w:World}{T t:TypeId}{x y:Operand}{g:Nat}{cs0 cs:List Value}
   (hgd:Region.wanted o (yielded ops a.tmps)=true) (ho:o.op= .store T x y) (hx:a.eval x= .pointer (some ⟨g,0,none⟩)) (hy:a.eval y= .agg cs.toArray) (h:Row w g t cs0) (hl:cs.length=cs0.length) (hi:(P.info? T).map (·.size)=some cs.length) (h1:∀v∈cs,v.oneCell'=true)
   (hr:wpList P ops Q rest (a.put o.dst undef) (w.setRow g cs.toArray)):wpList P ops Q (o::rest) a w:=
 wpList_want hgd fun K hK=>by
   unfold Oper.wp execOp
   simp only [ho,hx,hy,Sem.run_bind,run_storeAt_row h hl hi h1,Result.andThen_ok]
   exact hK _ _ hr
theorem wpl_load_row {P:Program}{ops:Array Oper}{Q:Exit→Act→World→Prop}{rest:List Oper}{o:Oper}{a:Act}{w:World}{T t:TypeId}{x:Operand}{g:Nat}{cs:List Value}{d:TypeDesc}
   (hgd:Region.wanted o (yielded ops a.tmps)=true) (ho:o.op= .load T x) (hx:a.eval x= .pointer (some ⟨g,0,none⟩)) (h:Row w g t cs) (hu:P.underlying T=some d) (hd:(match d with| .struct _| .array _ _=>true|_=>false)=true) (hi:(P.info? T).map (·.size)=some cs.length)
   (hr:wpList P ops Q rest (a.put o.dst (.agg cs.toArray)) w):wpList P ops Q (o::rest) a w:=
 wpList_want hgd fun K hK=>by
   unfold Oper.wp execOp
   simp only [ho,hx,Sem.run_bind,run_loadAt_row h hu hd hi,Result.andThen_ok,Sem.run_pure]
   exact hK _ _ hr
def over(cur:List Byte)(o:Nat)(xs:List Byte):List Byte:=cur.take o++xs++cur.drop (o+xs.length)
theorem over_length(cur:List Byte)(o:Nat)(xs:List Byte)(h:o+xs.length≤cur.length):(over cur o xs).length=cur.length:=by
 simp [over];omega
theorem RdB.none {w:World}{l:List Byte}(h:RdB w none l):l=[]:=by
 cases l with
 |nil=>rfl
 |cons x l=>have:=h.1 (by simp);simp at this
theorem run_copy_bytes {P:Program}{w:World}{dT sT ty elem t:TypeId}{g o dLen dCap sCap:Nat}{p:Option Addr}{cur l:List Byte}(hu:P.underlying dT=some (.slice elem))(hs:(P.info? elem).map (·.size)=some 1)
   (hg:Row w g t (cur.map v8)) (hfit:o+dLen≤cur.length) (hr:RdB w p l):
   (Builtin.copy_ #[dT,sT] ty #[.slice (some ⟨g,o,Option.none⟩) dLen dCap, .slice p l.length sCap]).run P w= .ok (goInt (min l.length dLen:Nat)) (w.setRow g ((over cur o (l.take dLen)).map v8).toArray):=by
 cases p with
 | none=>
   have:=hr.none;subst this
   obtain⟨i,hi1,hi2⟩:=Option.map_eq_some_iff.1 hs
   have e:w.setRow g ((over cur o (([]:List Byte).take dLen)).map v8).toArray=w:=by
     have:over cur o (([]:List Byte).take dLen)=cur:=by simp [over]
     rw [this];exact setRow_self w g _ t (0,0) hg
   rw [e]
   simp [Builtin.copy_,run_underlying hu,Builtin.lenOf,Builtin.firstCells,sizeOf,typeInfo,hi1,storeCells]
 | some a=>
   have h:=run_copy_row (P:=P) w dT sT ty elem g o dLen dCap a l.length sCap ((cur.map v8).toArray) t ((l.take dLen).map v8) hu hs hg (by simp [Nat.min_comm])
     (fun j v hj=>by
       simp only [List.getElem?_map,List.getElem?_take]at hj
       by_cases hjd:j<dLen
       · rw [if_pos hjd]at hj
         obtain⟨x,hx,rfl⟩:=Option.map_eq_some_iff.1 hj
         obtain⟨hlt,hx'⟩:=List.getElem?_eq_some_iff.1 hx
         have:=hr.2 j hlt
         simp only [Option.getD_some]at this
         rw [this];simp [hlt,hx']
       · rw [if_neg hjd]at hj;simp at hj)
     (by simp;omega) (one_v8 _)
   rw [h]
   simp only [List.length_map,List.length_take,List.map_append,over,List.map_take,List.map_drop]
   rw [Nat.min_comm dLen l.length]
theorem wpl_copy {P:Program}{ops:Array Oper}{Q:Exit→Act→World→Prop}{rest:List Oper}{o:Oper}{a:Act}{w:World}{dT sT elem t:TypeId}{x y:Operand}{g k dLen dCap sCap:Nat}{p:Option Addr}{cur cur' l:List Byte}
   (hc:over cur k (l.take dLen)=cur') (hgd:Region.wanted o (yielded ops a.tmps)=true) (ho:o.op= .call {callee:= .builtin .copy,args:= #[x,y],argTypes:= #[dT,sT]}) (hx:a.eval x= .slice (some ⟨g,k,Option.none⟩) dLen dCap) {n:Nat} (hy:a.eval y= .slice p n sCap) (hn:n=l.length)
   (hu:P.underlying dT=some (.slice elem)) (hs:(P.info? elem).map (·.size)=some 1) (hg:Row w g t (cur.map v8)) (hfit:k+dLen≤cur.length) (hr:RdB w p l)
   (h:wpList P ops Q rest (a.put o.dst (goInt (min l.length dLen:Nat))) (w.setRow g (cur'.map v8).toArray)):wpList P ops Q (o::rest) a w:=
 wpList_want hgd fun K hK=>by
   subst hc hn
   unfold Oper.wp execOp
   simp only [ho,resolve,invoke,builtin,Sem.run_bind,Sem.run_pure,Result.andThen_ok,List.map_toArray,List.map_cons,List.map_nil,hx,hy,run_copy_bytes (ty:=o.type) hu hs hg hfit hr]
   exact hK _ _ h
def zeros(n:Nat):List Byte:=List.replicate n 0
theorem zeros_length(n:Nat):(zeros n).length=n:=by simp [zeros]
theorem madeCells_v8(n:Nat):madeCells #[Value.int .u8 0] n=((zeros n).map v8).toArray:=by
 unfold zeros
 apply Array.ext
 · simp [madeCells]
 · intro i h1 h2
   simp [madeCells,Nat.mod_one]at h1⊢
   rfl
theorem run_make_bytes {P:Program}{w:World}{t e:TypeId}{i:TypeInfo}(ht:P.underlying t=some (.slice e))(hi:P.info? e=some i)(hz:i.zero=some (.int .u8 0))(hs:i.size=1)(hb:i.bytes=1)(n:Nat)(hn:n≤281474976710656):
   (Instr.makeSlice t (.int .i64 n) (.int .i64 n)).run P w= .ok (.slice (some ⟨w.heap.size,0,Option.none⟩) n n) (w.alloc (.cells ((zeros n).map v8).toArray e)):=by
 have h:=run_make (P:=P) w t e i (.int .u8 0) ht hi hz .i64 .i64 n n (by omega) (Int.le_refl _) (by rw [hb];omega) (by omega)
 rw [h,hs,Nat.mul_one]
 simp only [Int.toNat_natCast,Value.cells,madeCells_v8]
theorem wpl_make {P:Program}{ops:Array Oper}{Q:Exit→Act→World→Prop}{rest:List Oper}{o:Oper}{a:Act}{w:World}{t e:TypeId}{x y:Operand}{n:Nat}{N M:Int}{i:TypeInfo}
   (hgd:Region.wanted o (yielded ops a.tmps)=true) (ho:o.op= .makeSlice t x y) (hx:a.eval x= .int .i64 N) (hy:a.eval y= .int .i64 M) (ht:P.underlying t=some (.slice e)) (hi:P.info? e=some i) (hz:i.zero=some (.int .u8 0)) (hs:i.size=1) (hb:i.bytes=1) (hN:N=(n:Int)) (hM:M=(n:Int)) (hn:n≤281474976710656)
   (h:wpList P ops Q rest (a.put o.dst (.slice (some ⟨w.heap.size,0,Option.none⟩) n n)) (w.alloc (.cells ((zeros n).map v8).toArray e))):wpList P ops Q (o::rest) a w:=
 wpList_want hgd fun K hK=>by
   subst hN hM
   unfold Oper.wp execOp
   simp only [ho,hx,hy,Sem.run_bind,run_make_bytes ht hi hz hs hb n hn,Result.andThen_ok,Sem.run_pure]
   exact hK _ _ h
def bstr(l:List Byte):ByteArray:=⟨(l.map UInt8.ofBitVec).toArray⟩
theorem bstr_inj {l m:List Byte}(h:(bstr l).toList=(bstr m).toList):l=m:=by
 rw [ByteArray.toList_eq,ByteArray.toList_eq]at h
 simp only [bstr]at h
 exact(List.map_inj_right (fun x y e=>by have:=congrArg UInt8.toBitVec e;simpa using this)).1 h
@[go_sem] theorem bstr_beq (l m : List Byte) : ((bstr l).toList == (bstr m).toList) = (l == m) := by
 rw [Bool.eq_iff_iff];simp only [beq_iff_eq]
 exact⟨bstr_inj,fun e=>by rw [e]⟩
theorem run_conv_str {P:Program}{w:World}{src dst e:TypeId}(hs:P.underlying src=some (.slice e))(he:P.underlying e=some (.int .u8))(hd:P.underlying dst=some .string){p:Option Addr}{l:List Byte}(c:Nat)(h:RdB w p l):
   (convert src dst (.slice p l.length c)).run P w= .ok (.string (bstr l)) w:=by
 cases p with
 | none=>
   have:=h.none;subst this
   rw [List.length_nil,run_convert_bytes_nil w src e hs he 0 c dst hd];rfl
 | some a=>
   rw [run_convert_bytes_string w src dst e _ _ c hs he hd]
   have hl:=run_loadCells_list (P:=P) w a (l.map v8) (fun j v hj=>by
     simp only [List.getElem?_map]at hj
     obtain⟨x,hx,rfl⟩:=Option.map_eq_some_iff.1 hj
     obtain⟨hlt,hx'⟩:=List.getElem?_eq_some_iff.1 hx
     have:=h.2 j hlt
     simp only [Option.getD_some]at this
     rw [this];simp [hlt,hx'])
   have e1:l.map v8=(l.map fun x=>(x.toNat:Int)).map (Value.int .u8):=by rw [List.map_map];rfl
   rw [List.length_map,e1]at hl
   rw [run_bytesToString w a l.length c _ hl,foldl_push_bytes]
   congr 2
   apply ByteArray.ext
   simp only [bstr]
   simp
def IsRow(k:IntKind)(w:World)(a:Option Addr)(len cap:Nat)(zs:List Int):Prop:=
 (a=none∧len=0∧cap=0∧zs=[])∨
 ∃x,a=some x∧len≤cap∧cap≤maxLen∧zs.length=cap∧(∀i,i<zs.length→w.cell? (x.add i)=some (.int k (zs.getD i 0)))∧∀n∈zs,(Lit.int k n).wf=true
theorem int_v8(n:Int)(h:(Lit.int .u8 n).wf=true):Value.int .u8 n=v8 (BitVec.ofInt 8 n):=by
 have hx:0≤n∧n≤255:=by simpa [Lit.wf,IntKind.min,IntKind.max,IntKind.signed,IntKind.bits]using h
 rw [←int8,IntWalk.u8_in _ hx]
theorem int_v16(n:Int)(h:(Lit.int .u16 n).wf=true):Value.int .u16 n=v16 (BitVec.ofInt 16 n):=by
 have hx:0≤n∧n≤65535:=by simpa [Lit.wf,IntKind.min,IntKind.max,IntKind.signed,IntKind.bits]using h
 rw [←int16,IntWalk.u16_in _ hx]
theorem int_v32(n:Int)(h:(Lit.int .u32 n).wf=true):Value.int .u32 n=v32 (BitVec.ofInt 32 n):=by
 have hx:0≤n∧n≤4294967295:=by simpa [Lit.wf,IntKind.min,IntKind.max,IntKind.signed,IntKind.bits]using h
 rw [←int32,IntWalk.u32_in _ hx]
theorem int_v64(n:Int)(h:(Lit.int .u64 n).wf=true):Value.int .u64 n=v64 (BitVec.ofInt 64 n):=by
 have hx:0≤n∧n≤18446744073709551615:=by simpa [Lit.wf,IntKind.min,IntKind.max,IntKind.signed,IntKind.bits]using h
 rw [←int64,IntWalk.u64_in _ hx]
theorem int_i64(n:Int)(h:(Lit.int .i64 n).wf=true): -9223372036854775808≤n∧n≤9223372036854775807:=by
 simpa [Lit.wf,IntKind.min,IntKind.max,IntKind.signed,IntKind.bits]using h
theorem rdB_of {w:World}{a:Option Addr}{len cap:Nat}{zs:List Int}(h:IsRow .u8 w a len cap zs):∃l:List Byte,len=l.length∧RdB w a l∧l.length≤cap∧l.length≤maxLen:=by
 rcases h with ⟨rfl,rfl,rfl,rfl⟩|⟨x,rfl,h1,h2,h3,h4,h5⟩
 · exact⟨[],rfl,RdB.nil _ _,Nat.le_refl _,by simp⟩
 · refine⟨(zs.take len).map (BitVec.ofInt 8),by simp;omega,⟨fun _=>rfl,fun i hi=> ?_⟩,by simp;omega,by simp;omega⟩
   simp at hi
   have hlt:i<zs.length:=by omega
   have:=h4 i hlt
   simp only [Option.getD_some]
   rw [this]
   have hm:zs[i]∈zs:=List.getElem_mem hlt
   rw [List.getD_eq_getElem?_getD,List.getD_eq_getElem?_getD,List.getElem?_eq_getElem hlt,List.getElem?_map,List.getElem?_take,if_pos (by omega),List.getElem?_eq_getElem hlt]
   exact congrArg some (int_v8 _ (h5 _ hm))
/-! ### Arrays of bytes held against each other -/
theorem run_part_v8 {P:Program}(w:World)(e:TypeId)(k:IntKind)(he:P.underlying e=some (.int k))(l:List Byte)(i:Nat)(hi:i<l.length):(part e (l.map v8).toArray i).run P w= .ok (v8 (l.getD i 0)) w:=by
 simp [part,isAgg,run_underlying he,hi]
theorem eq_loop(P:Program)(w:World)(f:Nat→Option Bool×Unit→Sem (ForInStep (Option Bool×Unit)))(l m:List Byte)(n:Nat)(hl:l.length=n)(hm:m.length=n)
   (hf:∀i s,i<n→(f i s).run P w= .ok (if l.getD i 0==m.getD i 0 then .yield (none,())else .done (some false,())) w):
   ∀k a,a+k=n→(forIn (List.range' a k) ((none:Option Bool),()) f).run P w= .ok (if l.drop a==m.drop a then(none,())else(some false,())) w:=by
 intro k
 induction k with
 | zero=>
   intro a ha
   have e1:l.drop a=[]:=List.drop_eq_nil_of_le (by omega)
   have e2:m.drop a=[]:=List.drop_eq_nil_of_le (by omega)
   rw [e1,e2]
   simp
 | succ k ih=>
   intro a ha
   have hla:a<l.length:=by omega
   have hma:a<m.length:=by omega
   simp only [List.range'_succ,List.forIn_cons,Sem.run_bind,hf a _ (by omega)]
   have e1:l.drop a=l.getD a 0::l.drop (a+1):=by rw [List.drop_eq_getElem_cons hla];simp [hla]
   have e2:m.drop a=m.getD a 0::m.drop (a+1):=by rw [List.drop_eq_getElem_cons hma];simp [hma]
   rw [e1,e2]
   by_cases h:l.getD a 0=m.getD a 0
   · rw [h]
     have:=ih (a+1) (by omega)
     simp only [beq_self_eq_true,if_true,Result.andThen_ok,this]
     simp
   · have hb:(l.getD a 0==m.getD a 0)=false:=by simpa using h
     rw [hb]
     have hc:(l.getD a 0::l.drop (a+1)==m.getD a 0::m.drop (a+1))=false:=by
       rw [beq_eq_false_iff_ne];intro e;exact h (List.cons.inj e).1
     rw [hc]
     simp only [Result.andThen_ok,Bool.false_eq_true,if_false,Sem.run_pure]
theorem run_equalIn_bytes {P:Program}(w:World)(d:Nat)(T e:TypeId)(n:Nat)(l m:List Byte)(hT:P.underlying T=some (.array n e))(he:P.underlying e=some (.int .u8))(hs:(P.info? e).map (·.size)=some 1)(hl:l.length=n)(hm:m.length=n):
   (Op.equalIn (d+2) T (A8 l) (A8 m)).run P w= .ok (l==m) w:=by
 obtain⟨i,hi1,hi2⟩:=Option.map_eq_some_iff.1 hs
 rw [Op.equalIn]
 simp only [Sem.run_bind,run_underlying hT,Result.andThen_ok,sizeOf,typeInfo,run_program,hi1,Sem.run_pure,hi2,Std.Legacy.Range.forIn_eq_forIn_range',Nat.mul_one,Std.Legacy.Range.size,Nat.sub_zero,Nat.add_sub_cancel,Nat.div_one]
 rw [eq_loop P w _ l m n hl hm ?hf n 0 (by omega)]
 case hf=>
   intro j s hj
   simp only [Sem.run_bind,run_part_v8 w e .u8 he l j (by omega),run_part_v8 w e .u8 he m j (by omega),Result.andThen_ok]
   rw [run_equalIn8 e _ _ P w d .u8 he]
   cases l.getD j 0==m.getD j 0<;>simp
 · simp only [List.drop_zero]
   cases l==m<;>simp
def NewS(B:Nat)(t:TypeId)(cs:List Value):Slot:=fun v w=>∃g,v= .pointer (some ⟨g,0,none⟩)∧B≤g∧Row w g t cs
theorem NewS.stable(B:Nat)(t:TypeId)(cs:List Value):Stable (NewS B t cs):=fun _ _ _ ⟨g,h1,h2,h3⟩ hx=>⟨g,h1,h2,row_ext h3 hx⟩
theorem gives_new {P:Program}{B:Nat}{t:TypeId}{cs:List Value}{w:World}(h:B≤w.heap.size):gives P w (NewS B t cs) (.ok (.value (.pointer (some ⟨w.heap.size,0,none⟩))) (w.alloc (.cells cs.toArray t))):=
 ⟨(Ext.refl w).alloc _,_,rfl,h,row_new w t cs⟩
theorem apart_of {ds:List Nat}{a:Act}(h:Apart ds a){d e g k:Nat}(hd:d∈ds)(he:e∈ds)(hne:d≠e)(h1:a.tmps.getD d undef= .pointer (some ⟨g,0,none⟩))(h2:a.tmps.getD e undef= .pointer (some ⟨k,0,none⟩)):g≠k:=by
 rintro rfl;exact h d hd e he hne (h1.trans h2.symm)
def nth {n:Nat}(l:List (BitVec n))(k:Nat):BitVec n:=l.getD k 0
def tab {n:Nat}(m:Nat)(f:Nat→BitVec n):List (BitVec n):=(List.range m).map f
def part {n:Nat}(m k:Nat)(f g:Nat→BitVec n):List (BitVec n):=tab m fun i=>if i<k then f i else g i
def setN {n:Nat}(l:List (BitVec n))(k:Nat)(x:BitVec n):List (BitVec n):=l.set k x
def zer {n:Nat}(m:Nat):List (BitVec n):=tab m fun _=>0
section
variable {n m k i:Nat} {f g:Nat→BitVec n} {l l':List (BitVec n)} {x:BitVec n}
theorem tab_length:(tab m f).length=m:=by simp [tab]
theorem part_length:(part m k f g).length=m:=by simp [part,tab]
theorem setN_length:(setN l k x).length=l.length:=by simp [setN]
theorem nth_tab(h:i<m):nth (tab m f) i=f i:=by simp [nth,tab,h]
theorem nth_tab_ge(h:m≤i):nth (tab m f) i=0:=by simp [nth,tab,h]
theorem nth_ge(h:l.length≤i):nth l i=0:=by simp [nth,h]
theorem nth_part_ge(h:i<m)(h2:k≤i):nth (part m k f g) i=g i:=by rw [part,nth_tab h,if_neg (by omega)]
theorem nth_set(h:i<l.length):nth (setN l k x) i=if k=i then x else nth l i:=by
 simp only [nth,setN,List.getD_eq_getElem?_getD,List.getElem?_set]
 by_cases e:k=i
 · subst e;simp [h]
 · simp [e]
theorem nth_ext(h:l.length=l'.length)(hh:∀i,i<l.length→nth l i=nth l' i):l=l':=by
 apply List.ext_getElem h
 intro i h1 h2
 have:=hh i h1
 simpa [nth,h1,h2]using this
theorem nth_get(h:i<l.length):nth l i=l[i]:=by simp [nth,h]
theorem tab_eq(h:l.length=m):l=tab m (nth l):=nth_ext (by rw [tab_length,h]) fun i hi=>by rw [nth_tab (by omega)]
theorem tab_ext(h:∀i,i<m→f i=g i):tab m f=tab m g:=nth_ext (by rw [tab_length,tab_length]) fun i hi=>by rw [tab_length]at hi;rw [nth_tab hi,nth_tab hi,h i hi]
theorem part_zero:part m 0 f g=tab m g:=tab_ext fun i _=>if_neg (by omega)
theorem part_all:part m m f g=tab m f:=tab_ext fun i h=>if_pos h
theorem part_set(h:k<m):setN (part m k f g) k (f k)=part m (k+1) f g:=
 nth_ext (by rw [setN_length,part_length,part_length]) fun i hi=>by
   rw [setN_length,part_length]at hi
   rw [nth_set (by rw [part_length];exact hi),part,nth_tab hi,part,nth_tab hi]
   by_cases e:k=i
   · subst e;rw [if_pos rfl,if_pos (by omega)]
   · rw [if_neg e];congr 1;rw [eq_iff_iff];omega
theorem part_set'(h:k<m)(hx:x=f k):setN (part m k f g) k x=part m (k+1) f g:=by rw [hx,part_set h]
theorem zer_length:(zer (n:=n) m).length=m:=tab_length
theorem zer_start:zer (n:=n) m=part m 0 f (fun _=>0):=by rw [part_zero];rfl
theorem part_start(h:l.length=m):l=part m 0 f (nth l):=by rw [part_zero];exact tab_eq h
end
attribute [simp] tab_length part_length setN_length zer_length zeros_length
class CellV {b:Nat} (f:BitVec b→Value):Prop where
 cells:∀x,(f x).cells= #[f x]
 one:∀x,(f x).oneCell'=true
instance:CellV v8:=⟨fun _=>rfl,fun _=>rfl⟩
instance:CellV v16:=⟨fun _=>rfl,fun _=>rfl⟩
instance:CellV v32:=⟨fun _=>rfl,fun _=>rfl⟩
instance:CellV v64:=⟨fun _=>rfl,fun _=>rfl⟩
theorem mapv_at {b k:Nat}(f:BitVec b→Value)(l:List (BitVec b))(h:k<l.length):(l.map f)[k]? =some (f (nth l k)):=by simp [nth,h]
theorem mapv_set {b k:Nat}(f:BitVec b→Value)(l:List (BitVec b))(x:BitVec b):(l.map f).set k (f x)=(setN l k x).map f:=by simp [setN,List.map_set]
theorem one_map {b:Nat}{f:BitVec b→Value}[CellV f](l:List (BitVec b)):∀v∈l.map f,v.oneCell'=true:=by
 intro v hv;obtain⟨x,_,rfl⟩:=List.mem_map.1 hv;exact CellV.one x
section
variable {k i:Nat}
theorem map8_at(l:List (BitVec 8))(h:k<l.length):(l.map v8)[k]? =some (v8 (nth l k)):=by simp [nth,h]
theorem map32_at(l:List (BitVec 32))(h:k<l.length):(l.map v32)[k]? =some (v32 (nth l k)):=by simp [nth,h]
theorem map64_at(l:List (BitVec 64))(h:k<l.length):(l.map v64)[k]? =some (v64 (nth l k)):=by simp [nth,h]
theorem map8_set(l:List (BitVec 8))(x:BitVec 8):(l.map v8).set k (v8 x)=(setN l k x).map v8:=by simp [setN,List.map_set]
end
def gb(l:List Byte)(j:Int):Byte:=if 0≤j then l.getD j.toNat 0 else 0
theorem gb_neg(l:List Byte)(j:Int)(h:j<0):gb l j=0:=by unfold gb;rw [if_neg (by omega)]
theorem gb_past(l:List Byte)(j:Int)(h:(l.length:Int)≤j):gb l j=0:=by
 unfold gb;rw [if_pos (by omega),List.getD_eq_getElem?_getD,List.getElem?_eq_none (by omega)];rfl
theorem gb_in(l:List Byte)(i:Nat):gb l i=l.getD i 0:=by unfold gb;rw [if_pos (by omega)];rfl
def num(l:List Byte)(at_:Int):Nat→BitVec 64
 |0=>0
 |m+1=>num l at_ m|||((gb l (at_+m)).setWidth 64<<<(8*m))
theorem from1_any(l:List Byte)(p:Option Addr)(c:Nat)(at_ k:Int)(x y:Addr)(w:World)(h:RdB w p l)(hl:l.length≤140737488355328)(hk0:0≤k)(hk:k≤1000)(ha: -9223372036854775808≤at_)(hb:at_≤9223372036854775807)
   (hx:w.cell? x=some (.int .i64 at_)) (hy:w.cell? y=some (.slice p l.length c)):
   Calls Tryz.prog 83 #[.int .i64 k, .pointer (some x), .pointer (some y)] w fun e w'=>e= .returned (v8 (gb l (at_+k)))∧w=w':=by
 by_cases h1:at_< -k
 · rw [gb_neg l _ (by omega)]
   clear h
   by_cases h3:(l.length:Int)-1-k<at_
   all_goals
     go_enter Tryz.func83,Tryz.ntmps83
     go_wp2
     go_ret
     exact⟨rfl,rfl⟩
 · by_cases h2:(l.length:Int)≤at_+k
   · rw [gb_past l _ h2]
     clear h
     have h3:(l.length:Int)-1-k<at_:=by omega
     go_enter Tryz.func83,Tryz.ntmps83
     go_wp2
     go_ret
     exact⟨rfl,rfl⟩
   · have hs:=h.isSome (at_+k).toNat (by omega)
     have hc:=h.at (at_+k).toNat (by omega)
     have h3:¬(l.length:Int)-1-k<at_:=by omega
     have e:gb l (at_+k)=l.getD (at_+k).toNat 0:=by unfold gb;rw [if_pos (by omega)]
     rw [e]
     clear h e
     go_enter Tryz.func83,Tryz.ntmps83
     go_wp2
     go_ret
     exact⟨rfl,rfl⟩
@[local go_sem] theorem conv_8_64 (x : BitVec 8) (w : World) : (convert 5 69 (v8 x)).run Tryz.prog w = .ok (v64 (x.setWidth 64)) w := conv8_64 x _ _ _ w rfl rfl
theorem gather_any(l:List Byte)(p:Option Addr)(c:Nat)(at_:Int)(x y:Addr)(m:Nat)(w:World)(h:RdB w p l)(hl:l.length≤140737488355328)(hm:m≤8)(ha: -9223372036854775808≤at_)(hb:at_≤9223372036854775807)
   (hx:w.cell? x=some (.int .i64 at_)) (hy:w.cell? y=some (.slice p l.length c)):
   Calls Tryz.prog 75 #[.int .i64 m, .func (.func 83) #[] #[.pointer (some x), .pointer (some y)]] w fun e w'=>e= .returned (v64 (num l at_ m))∧w=w':=by
 go_enter Tryz.func75,Tryz.ntmps75
 go_wp2
 go_loop [5,8] (fun n i=>∃k:Nat,k≤m∧i= .int .i64 k∧n=v64 (num l at_ k)) (fun _ i=>m-(intOf i).toNat)
 case atStart=>exact⟨0,Nat.zero_le _,rfl,rfl⟩
 case round=>
   obtain⟨k,hk,rfl,rfl⟩:=hrel
   by_cases hlt:k<m
   · go_wp2_with (go_at_call 83;refine(from1_any l p c at_ k x y _ h hl (by omega) (by omega) ha hb hx hy).mono ?_;rintro e w' ⟨rfl,rfl⟩)
     go_round
     case rel=>exact⟨k+1,by omega,by go_num,by rw [num]⟩
     case measure=>simp [intOf]<;>omega
   · obtain rfl:k=m:=by omega
     go_wp2
     go_ret
     exact⟨rfl,rfl⟩
theorem gather4(l:List Byte)(p:Option Addr)(c:Nat)(at_:Int)(x y:Addr)(w:World)(h:RdB w p l)(hl:l.length≤140737488355328)(ha: -9223372036854775808≤at_)(hb:at_≤9223372036854775807)
   (hx:w.cell? x=some (.int .i64 at_)) (hy:w.cell? y=some (.slice p l.length c)):
   Calls Tryz.prog 75 #[.int .i64 4, .func (.func 83) #[] #[.pointer (some x), .pointer (some y)]] w fun e w'=>e= .returned (v64 (num l at_ 4))∧w=w':=
 gather_any l p c at_ x y 4 w h hl (by omega) ha hb hx hy
theorem gather8(l:List Byte)(p:Option Addr)(c:Nat)(at_:Int)(x y:Addr)(w:World)(h:RdB w p l)(hl:l.length≤140737488355328)(ha: -9223372036854775808≤at_)(hb:at_≤9223372036854775807)
   (hx:w.cell? x=some (.int .i64 at_)) (hy:w.cell? y=some (.slice p l.length c)):
   Calls Tryz.prog 75 #[.int .i64 8, .func (.func 83) #[] #[.pointer (some x), .pointer (some y)]] w fun e w'=>e= .returned (v64 (num l at_ 8))∧w=w':=
 gather_any l p c at_ x y 8 w h hl (by omega) ha hb hx hy
@[local go_sem] theorem conv_64_32 (x : BitVec 64) (w : World) : (convert 69 74 (v64 x)).run Tryz.prog w = .ok (v32 (x.setWidth 32)) w := conv64_32 x _ _ _ w rfl rfl
theorem word_any(l:List Byte)(p:Option Addr)(c:Nat)(at_:Int)(w:World)(h:RdB w p l)(hl:l.length≤140737488355328)(ha: -9223372036854775808≤at_)(hb:at_≤9223372036854775807):
   Gives Tryz.prog 60 #[.slice p l.length c, .int .i64 at_] w (v32 ((num l at_ 4).setWidth 32)):=by
 unfold Gives
 have h':=h.ext (((Ext.refl w).alloc (.cells #[.slice p l.length c] 22)).alloc (.cells #[.int .i64 at_] 3))
 have hx:((w.alloc (.cells #[.slice p l.length c] 22)).alloc (.cells #[.int .i64 at_] 3)).cell? ⟨w.heap.size+1,0,none⟩=some (.int .i64 at_):=by simp
 have hy:((w.alloc (.cells #[.slice p l.length c] 22)).alloc (.cells #[.int .i64 at_] 3)).cell? ⟨w.heap.size,0,none⟩=some (.slice p l.length c):=by simp
 go_enter Tryz.func60,Tryz.ntmps60
 go_wp2_with (first|(go_at_call 75;refine(gather4 l p c at_ _ _ _ h' hl ha hb hx hy).mono ?_;rintro e w' ⟨rfl,rfl⟩)|go_in)
 go_ret
 exact⟨rfl,((Ext.refl w).alloc _).alloc _⟩
theorem long_any(l:List Byte)(p:Option Addr)(c:Nat)(at_:Int)(w:World)(h:RdB w p l)(hl:l.length≤140737488355328)(ha: -9223372036854775808≤at_)(hb:at_≤9223372036854775807):
   Gives Tryz.prog 89 #[.slice p l.length c, .int .i64 at_] w (v64 (num l at_ 8)):=by
 unfold Gives
 have h':=h.ext (((Ext.refl w).alloc (.cells #[.slice p l.length c] 22)).alloc (.cells #[.int .i64 at_] 3))
 have hx:((w.alloc (.cells #[.slice p l.length c] 22)).alloc (.cells #[.int .i64 at_] 3)).cell? ⟨w.heap.size+1,0,none⟩=some (.int .i64 at_):=by simp
 have hy:((w.alloc (.cells #[.slice p l.length c] 22)).alloc (.cells #[.int .i64 at_] 3)).cell? ⟨w.heap.size,0,none⟩=some (.slice p l.length c):=by simp
 go_enter Tryz.func89,Tryz.ntmps89
 go_wp2_with (first|(go_at_call 75;refine(gather8 l p c at_ _ _ _ h' hl ha hb hx hy).mono ?_;rintro e w' ⟨rfl,rfl⟩)|go_in)
 go_ret
 exact⟨rfl,((Ext.refl w).alloc _).alloc _⟩
abbrev WV(lo hi:BitVec 64):Value:= .agg #[v64 lo,v64 hi]
@[local go_sem] theorem build_wide (a b : BitVec 64) (w : World) : (Instr.build 71 #[(0, v64 a), (1, v64 b)]).run Tryz.prog w = .ok (WV a b) w := by kernel_rfl
theorem load_any(l:List Byte)(p:Option Addr)(c:Nat)(w:World)(h:RdB w p l)(hl:l.length≤140737488355328):
   Gives Tryz.prog 125 #[.slice p l.length c] w (WV (num l 0 8) (num l 8 8)):=by
 unfold Gives
 have h1:Ext w (w.alloc (.cells [Value.int .u64 0, .int .u64 0].toArray 71)):=(Ext.refl w).alloc _
 go_enter Tryz.func125,Tryz.ntmps125
 go_wp2_with fail
 refine(long_any l p c 0 _ (h.ext h1) hl (by omega) (by omega)).mono ?_
 rintro e w1 ⟨rfl,hx1⟩
 go_wp2_with fail
 refine(long_any l p c 8 _ (h.ext (h1.trans hx1)) hl (by omega) (by omega)).mono ?_
 rintro e w2 ⟨rfl,hx2⟩
 have hres:=row_ext (row_ext (row_new w 71 [Value.int .u64 0, .int .u64 0]) hx1) hx2
 go_wp2_with (with_reducible show wpList _ _ _ _ _ _;refine wpl_store_row (cs:=[v64 (num l 0 8),v64 (num l 8 8)]) rfl rfl rfl rfl hres rfl (by kernel_rfl) (by simp [one64]) ?_)
 refine ret_row rfl rfl (row_setRow hres _) rfl rfl (by kernel_rfl) rfl ⟨rfl, ?_⟩
 exact ext_setRow (h1.trans (hx1.trans hx2)) _ _ (by omega)
def blk(l:List Byte):List Byte:=(List.range 16).map fun (i:Nat)=>gb l i
def blkTo(l:List Byte)(k:Nat):List Byte:=(List.range 16).map fun (i:Nat)=>if i<k then gb l i else 0
theorem blk_length(l:List Byte):(blk l).length=16:=by simp [blk]
theorem over_blk(l:List Byte):over (List.replicate 16 0) 0 (l.take 16)=blk l:=by
 apply List.ext_getElem
 · rw [over_length _ _ _ (by simp;omega),blk_length];simp
 · intro i h1 h2
   have hi:i<16:=by rw [blk_length]at h2;exact h2
   simp only [over,List.take_zero,List.nil_append,Nat.zero_add,blk,List.getElem_map,List.getElem_range,gb_in,List.getD_eq_getElem?_getD]
   by_cases h:i<l.length
   · rw [List.getElem_append_left (by simp;omega)]
     simp [h]
   · rw [List.getElem_append_right (by simp;omega)]
     simp only [List.getElem_drop,List.getElem_replicate,List.getElem?_eq_none (show l.length≤i by omega),Option.getD_none]
theorem oblock_any(l:List Byte)(p:Option Addr)(c:Nat)(w:World)(h:RdB w p l):
   Gives Tryz.prog 54 #[.slice p l.length c] w (A8 (blk l)):=by
 unfold Gives
 have hz:Ext w ((w.alloc (.cells #[Value.int IntKind.u8 0,Value.int IntKind.u8 0,Value.int IntKind.u8 0,Value.int IntKind.u8 0,Value.int IntKind.u8 0,Value.int IntKind.u8 0,Value.int IntKind.u8 0,Value.int IntKind.u8 0,Value.int IntKind.u8 0,Value.int IntKind.u8 0,Value.int IntKind.u8 0,Value.int IntKind.u8 0,Value.int IntKind.u8 0,Value.int IntKind.u8 0,Value.int IntKind.u8 0,Value.int IntKind.u8 0] 68)).alloc (.cells #[Value.int IntKind.u8 0,Value.int IntKind.u8 0,Value.int IntKind.u8 0,Value.int IntKind.u8 0,Value.int IntKind.u8 0,Value.int IntKind.u8 0,Value.int IntKind.u8 0,Value.int IntKind.u8 0,Value.int IntKind.u8 0,Value.int IntKind.u8 0,Value.int IntKind.u8 0,Value.int IntKind.u8 0,Value.int IntKind.u8 0,Value.int IntKind.u8 0,Value.int IntKind.u8 0,Value.int IntKind.u8 0] 68)):=((Ext.refl w).alloc _).alloc _
 have hr1:Row ((w.alloc (.cells #[Value.int IntKind.u8 0,Value.int IntKind.u8 0,Value.int IntKind.u8 0,Value.int IntKind.u8 0,Value.int IntKind.u8 0,Value.int IntKind.u8 0,Value.int IntKind.u8 0,Value.int IntKind.u8 0,Value.int IntKind.u8 0,Value.int IntKind.u8 0,Value.int IntKind.u8 0,Value.int IntKind.u8 0,Value.int IntKind.u8 0,Value.int IntKind.u8 0,Value.int IntKind.u8 0,Value.int IntKind.u8 0] 68)).alloc (.cells #[Value.int IntKind.u8 0,Value.int IntKind.u8 0,Value.int IntKind.u8 0,Value.int IntKind.u8 0,Value.int IntKind.u8 0,Value.int IntKind.u8 0,Value.int IntKind.u8 0,Value.int IntKind.u8 0,Value.int IntKind.u8 0,Value.int IntKind.u8 0,Value.int IntKind.u8 0,Value.int IntKind.u8 0,Value.int IntKind.u8 0,Value.int IntKind.u8 0,Value.int IntKind.u8 0,Value.int IntKind.u8 0] 68)) (w.heap.size+1) 68 ((List.replicate 16 (0:Byte)).map v8):=heap_alloc2_new _ _ _
 have hr0:Row ((w.alloc (.cells #[Value.int IntKind.u8 0,Value.int IntKind.u8 0,Value.int IntKind.u8 0,Value.int IntKind.u8 0,Value.int IntKind.u8 0,Value.int IntKind.u8 0,Value.int IntKind.u8 0,Value.int IntKind.u8 0,Value.int IntKind.u8 0,Value.int IntKind.u8 0,Value.int IntKind.u8 0,Value.int IntKind.u8 0,Value.int IntKind.u8 0,Value.int IntKind.u8 0,Value.int IntKind.u8 0,Value.int IntKind.u8 0] 68)).alloc (.cells #[Value.int IntKind.u8 0,Value.int IntKind.u8 0,Value.int IntKind.u8 0,Value.int IntKind.u8 0,Value.int IntKind.u8 0,Value.int IntKind.u8 0,Value.int IntKind.u8 0,Value.int IntKind.u8 0,Value.int IntKind.u8 0,Value.int IntKind.u8 0,Value.int IntKind.u8 0,Value.int IntKind.u8 0,Value.int IntKind.u8 0,Value.int IntKind.u8 0,Value.int IntKind.u8 0,Value.int IntKind.u8 0] 68)) w.heap.size 68 ((List.replicate 16 (0:Byte)).map v8):=heap_alloc2_old _ _ _
 have hb:=h.ext hz
 have hr1':=row_setRow hr1 ((blk l).map v8)
 have hr0':=row_setRow_other hr0 ((blk l).map v8).toArray (show w.heap.size≠w.heap.size+1 by omega)
 have hz':=ext_setRow hz (w.heap.size+1) ((blk l).map v8).toArray (by omega)
 go_enter Tryz.func54,Tryz.ntmps54
 go_wp2_with (first|(with_reducible show wpList _ _ _ _ _ _;refine wpl_copy (over_blk l) rfl rfl rfl rfl rfl rfl (by kernel_rfl) hr1 (by simp) hb ?_)|(with_reducible show wpList _ _ _ _ _ _;refine wpl_load_row rfl rfl rfl hr1' rfl rfl (by kernel_rfl) ?_)|(with_reducible show wpList _ _ _ _ _ _;refine wpl_store_row rfl rfl rfl rfl hr0' (by simp [blk_length]) (by kernel_rfl) (one_v8 _) ?_))
 refine ret_row rfl rfl (row_setRow hr0' _) rfl rfl (by kernel_rfl) rfl ⟨rfl, ?_⟩
 exact ext_setRow hz' _ _ (by omega)
def roomN(n:Nat)(s:Int):Nat:=if s<1 then 0 else(s.toNat-n%s.toNat)%s.toNat
theorem roomN_lt(n:Nat)(s:Int):roomN n s≤s.toNat:=by
 unfold roomN;split
 · omega
 · exact Nat.le_of_lt (Nat.mod_lt _ (by omega))
def pad(l:List Byte)(s:Int):List Byte:=l++List.replicate (roomN l.length s) 0
def marked(l:List Byte)(m:Byte)(s:Int):List Byte:=pad (l++[m]) s
theorem room_any(n:Nat)(s:Int)(w:World)(hn:n≤281474976710656)(h0: -9223372036854775808≤s)(h1:s≤9223372036854775807):
   Calls Tryz.prog 84 #[.int .i64 n, .int .i64 s] w fun e w'=>e= .returned (.int .i64 (roomN n s))∧w=w':=by
 by_cases hs:s<1
 · have e:((roomN n s:Nat):Int)=0:=by unfold roomN;rw [if_pos hs];rfl
   rw [e]
   clear e
   go_enter Tryz.func84,Tryz.ntmps84
   go_wp2
   go_ret
   exact⟨rfl,rfl⟩
 · obtain⟨k,rfl⟩:=Int.eq_ofNat_of_zero_le (show 0≤s by omega)
   have hmod:(n:Int)%k<k:=Int.emod_lt_of_pos _ (by omega)
   have hmod0:0≤(n:Int)%k:=Int.emod_nonneg _ (by omega)
   have e:((roomN n k:Nat):Int)=((k:Int)-(n:Int)%k)%k:=by
     unfold roomN;rw [if_neg hs,Int.toNat_natCast]
     have hlt:n%k<k:=Nat.mod_lt _ (by omega)
     rw [Int.natCast_emod,Int.ofNat_sub (Nat.le_of_lt hlt),Int.natCast_emod]
   rw [e]
   clear e
   have hk:1≤(k:Int):=by omega
   have hkne:((k:Int)==0)=false:=by simp;omega
   go_enter Tryz.func84,Tryz.ntmps84
   go_wp2
   go_ret
   exact⟨rfl,rfl⟩
theorem over_pad(l:List Byte)(r:Nat):over (zeros (l.length+r)) 0 (l.take (l.length+r))=l++List.replicate r 0:=by
 unfold zeros
 rw [List.take_of_length_le (by omega)]
 simp [over]
theorem over_pad'(l:List Byte)(s:Int):over (zeros (l.length+roomN l.length s)) 0 (l.take (l.length+roomN l.length s))=pad l s:=over_pad l _
theorem info_byte:∃i,Tryz.prog.info? 5=some i∧i.zero=some (.int .u8 0)∧i.size=1∧i.bytes=1:=by
 obtain⟨i,h1,h2,h3,h4⟩:=info_parts (show(Tryz.prog.info? 5).map (fun i=>(i.zero,i.size,i.bytes))=some (some (.int .u8 0),1,1)by kernel_rfl)
 exact⟨i,h1,h2,h3,h4⟩
theorem make_b {ops:Array Oper}{Q:Exit→Act→World→Prop}{rest:List Oper}{o:Oper}{a:Act}{w:World}{x y:Operand}{N M:Int}(n:Nat)
   (hgd:Region.wanted o (yielded ops a.tmps)=true) (ho:o.op= .makeSlice 22 x y) (hx:a.eval x= .int .i64 N) (hy:a.eval y= .int .i64 M) (hN:N=(n:Int)) (hM:M=(n:Int)) (hn:n≤281474976710656)
   (h:wpList Tryz.prog ops Q rest (a.put o.dst (.slice (some ⟨w.heap.size,0,Option.none⟩) n n)) (w.alloc (.cells ((zeros n).map v8).toArray 5))):wpList Tryz.prog ops Q (o::rest) a w:=by
 obtain⟨i,hi,hz,hs,hb⟩:=info_byte
 exact wpl_make hgd ho hx hy (by kernel_rfl) hi hz hs hb hN hM hn h
theorem padded_any(l:List Byte)(p:Option Addr)(c:Nat)(s:Int)(w:World)(h:RdB w p l)(hl:l.length≤140737488355328)(h0: -9223372036854775808≤s)(h1:s≤2147483648):
   GivesR Tryz.prog 80 #[.slice p l.length c, .int .i64 s] w (BytesS (pad l s)):=by
 unfold GivesR
 have hr:=roomN_lt l.length s
 have hx:Ext w (w.alloc (.cells ((zeros (l.length+roomN l.length s)).map v8).toArray 5)):=(Ext.refl w).alloc _
 have hrow:=row_new w 5 ((zeros (l.length+roomN l.length s)).map v8)
 have hbb:=h.ext hx
 go_enter Tryz.func80,Tryz.ntmps80
 go_wp2_with (first|(go_at_call 84;refine(room_any l.length s _ (by omega) h0 (by omega)).mono ?_;rintro e w' ⟨rfl,rfl⟩)|(with_reducible show wpList _ _ _ _ _ _;refine make_b (l.length+roomN l.length s) rfl rfl rfl rfl (by omega) (by omega) (by omega) ?_)|(with_reducible show wpList _ _ _ _ _ _;refine wpl_copy (over_pad' l s) rfl rfl rfl rfl rfl rfl (by kernel_rfl) hrow (by simp [zeros_length]) hbb ?_))
 go_ret
 refine⟨_,rfl,⟨_,_, ?_,Nat.le_refl _,RdB.of_row (row_setRow hrow _)⟩,ext_setRow hx _ _ (Nat.le_refl _)⟩
 simp [pad]
def with1(l:List Byte)(m:Byte):List Byte:=l++[m]
theorem with1_length(l:List Byte)(m:Byte):(with1 l m).length=l.length+1:=by simp [with1]
theorem over_mark(l:List Byte):over (zeros (l.length+1)) 0 (l.take (l.length+1))=with1 l 0#8:=over_pad l 1
theorem set_mark(l:List Byte)(m:Byte):((with1 l 0#8).map v8).set l.length (v8 m)=(with1 l m).map v8:=by
 unfold with1
 rw [List.map_append,List.set_append_right _ _ (by simp)];simp
theorem marked_any(l:List Byte)(p:Option Addr)(c:Nat)(m:Byte)(s:Int)(w:World)(h:RdB w p l)(hl:l.length≤70368744177664)(h0: -9223372036854775808≤s)(h1:s≤2147483648):
   GivesR Tryz.prog 171 #[.slice p l.length c,v8 m, .int .i64 s] w (BytesS (marked l m s)):=by
 unfold GivesR
 have hx:Ext w (w.alloc (.cells ((zeros (l.length+1)).map v8).toArray 5)):=(Ext.refl w).alloc _
 have hrow:=row_new w 5 ((zeros (l.length+1)).map v8)
 have hbb:=h.ext hx
 have hrow2:=row_setRow hrow ((with1 l 0#8).map v8)
 have hc2:=row_v8 hrow2 l.length (by simp [with1_length])
 have hf2:=row_free hrow2 l.length
 have hrow3:=row_set hrow2 l.length (v8 m)
 rw [set_mark]at hrow3
 have hx3:=ext_setCell (ext_setRow hx w.heap.size ((with1 l 0#8).map v8).toArray (Nat.le_refl _)) ⟨w.heap.size,l.length,none⟩ (v8 m) (Nat.le_refl _)
 have hb3:=RdB.of_row hrow3
 have hp:=fun q=>padded_any (with1 l m) q (l.length+1) s
 rw [with1_length]at hp
 go_enter Tryz.func171,Tryz.ntmps171
 go_wp2_with (first|(with_reducible show wpList _ _ _ _ _ _;refine make_b (l.length+1) rfl rfl rfl rfl (by omega) (by omega) (by omega) ?_)|(with_reducible show wpList _ _ _ _ _ _;refine wpl_copy (over_mark l) rfl rfl rfl rfl rfl rfl (by kernel_rfl) hrow (by simp [zeros_length]) hbb ?_))
 refine(hp _ _ hb3 (by omega) h0 h1).mono ?_
 rintro e w' ⟨v,rfl,hv,hx'⟩
 obtain⟨p',c',rfl,hcap,hbv⟩:=hv
 go_wp2
 go_ret
 exact⟨_,rfl,⟨p',c',rfl,hcap,hbv⟩,hx3.trans hx'⟩
theorem conv_str(p:Option Addr)(l:List Byte)(c:Nat)(w:World)(h:RdB w p l):(convert 22 9 (.slice p l.length c)).run Tryz.prog w= .ok (.string (bstr l)) w:=
 run_conv_str (e:=5) (by kernel_rfl) (by kernel_rfl) (by kernel_rfl) c h
attribute [go_sem] blk_length
@[go_sem] theorem eql16 (d : Nat) (l m : List Byte) (w : World) (hl : l.length = 16) (hm : m.length = 16) : (Op.equalIn (d + 2) 68 (A8 l) (A8 m)).run Tryz.prog w = .ok (l == m) w :=
 run_equalIn_bytes w d _ 5 16 l m (by kernel_rfl) (by kernel_rfl) (by kernel_rfl) hl hm
end Go.Proofs.YtllnjbiebdkmbaaGreatDoor
