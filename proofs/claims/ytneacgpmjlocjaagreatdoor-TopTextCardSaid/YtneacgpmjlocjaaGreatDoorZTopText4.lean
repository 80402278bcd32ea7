/-
  Texts of the program, walked, and plain ones. Conditions: those written in each theorem.
-/
import Derived.Test.YtneacgpmjlocjaaGreatDoorZTopText0
import Derived.Test.YtneacgpmjlocjaaGreatDoorZTopText3
import Derived.WalkKit
import Derived.ProofKit
import Derived.OpenShut
import Derived.ShutString
import Derived.ChangeOld
import Derived.Below
import Derived.Deep.Slices
import Derived.RegionTactic
import Derived.ChangeAlike
import Derived.ArgAppend
import Derived.Test.YtneacgpmjlocjaaGreatDoorZTopText2
set_option linter.unusedSimpArgs false
set_option linter.unusedVariables false
set_option maxHeartbeats 16000000
open Go.Lib (hid)
namespace Go.Proofs.YtneacgpmjlocjaaGreatDoor
open Go Go.RowKit Go.ChangeShapes Go.WideShapes Go.ChangeAt Go.Deep
set_option maxRecDepth 100000
def Trd {H:Type}(enc:TypeId×Value→H)(P:Program)(w:World)(T:TypeId)(cs:List Value):Prop:=∃fuel x,DataW.trod enc P w 0 (fun _=>true) true fuel T cs=some x
section
variable {H:Type} {enc:TypeId×Value→H} {P:Program} {w:World} {T e:TypeId} {cs:List Value}
theorem Trd.of {v:Value}{d:DataW H}{p:List MemPlace}(h:DataW.Trod enc P w 0 (fun _=>true) true T v d p):Trd enc P w T v.cells.toList:=by
 obtain⟨f,hf⟩:=h;exact⟨f,_,hf⟩
theorem Trd.cells {v:Value}{cs:List Value}(h:Trd enc P w T v.cells.toList)(he:v.cells.toList=cs):Trd enc P w T cs:=he ▸ h
theorem okWide_agg {r:Reach}{base:Nat}{v:Value}(hT:((P.underlying T).map fun d=>d.isRow)=some true)(h:Value.okWide P w r base T v):∃cs:List Value,v= .agg cs.toArray:=by
 obtain⟨d,hu,hd⟩:=Option.map_eq_some_iff.1 hT
 simp only [Value.okWide,hu]at h
 cases d<;>simp [TypeDesc.isRow]at hd
 all_goals
   obtain⟨cs,h1,_⟩:=h
   exact⟨cs.toList,by rw [h1]⟩
theorem Trd.int {k:IntKind}(ht:P.underlying T=some (.int k))(h:Trd enc P w T cs):∃n,cs=[.int k n]∧(Lit.int k n).wf=true:=by
 obtain⟨f,x,hf⟩:=h
 obtain⟨n,h1,_,h2⟩:=DataW.trod_int ht hf
 exact⟨n,h1,h2⟩
theorem Trd.u8(ht:P.underlying T=some (.int .u8))(h:Trd enc P w T cs):∃x:BitVec 8,cs=[v8 x]:=by
 obtain⟨n,rfl,hw⟩:=h.int ht;exact⟨_,by rw [int_v8 _ hw]⟩
theorem Trd.u16(ht:P.underlying T=some (.int .u16))(h:Trd enc P w T cs):∃x:BitVec 16,cs=[v16 x]:=by
 obtain⟨n,rfl,hw⟩:=h.int ht;exact⟨_,by rw [int_v16 _ hw]⟩
theorem Trd.u32(ht:P.underlying T=some (.int .u32))(h:Trd enc P w T cs):∃x:BitVec 32,cs=[v32 x]:=by
 obtain⟨n,rfl,hw⟩:=h.int ht;exact⟨_,by rw [int_v32 _ hw]⟩
theorem Trd.u64(ht:P.underlying T=some (.int .u64))(h:Trd enc P w T cs):∃x:BitVec 64,cs=[v64 x]:=by
 obtain⟨n,rfl,hw⟩:=h.int ht;exact⟨_,by rw [int_v64 _ hw]⟩
theorem Trd.i64(ht:P.underlying T=some (.int .i64))(h:Trd enc P w T cs):∃n:Int,cs=[.int .i64 n]∧-9223372036854775808≤n∧n≤9223372036854775807:=by
 obtain⟨n,rfl,hw⟩:=h.int ht;exact⟨n,rfl,int_i64 n hw⟩
theorem Trd.bool(ht:P.underlying T=some .bool)(h:Trd enc P w T cs):∃b:Bool,cs=[.bool b]:=by
 obtain⟨f,x,hf⟩:=h
 obtain⟨b,h1,_⟩:=DataW.trod_bool ht hf
 exact⟨b,h1⟩
theorem Trd.str(ht:P.underlying T=some .string)(h:Trd enc P w T cs):∃s:ByteArray,cs=[.string s]∧s.size≤maxLen:=by
 obtain⟨f,x,hf⟩:=h
 obtain⟨b,h1,_,h2⟩:=DataW.trod_string ht hf
 exact⟨b,h1,h2⟩
theorem Trd.struct {fs:Array Field}{m:Nat}(ht:P.underlying T=some (.struct fs))(hm:P.cellsOf T=m)(h:Trd enc P w T cs):cs.length=m∧∀(i:Nat)(f:Field),fs[i]? =some f→Trd enc P w f.type ((cs.drop f.offset).take (P.cellsOf f.type)):=by
 obtain⟨f,x,hf⟩:=h
 obtain⟨xs,m',rfl,rfl,h1,h2,h3⟩:=DataW.trod_struct ht hf
 subst hm
 refine⟨h1,fun i f hi=> ?_⟩
 have hlt:i<xs.length:=by rw [h2];exact(Array.getElem?_eq_some_iff.1 hi).1
 exact⟨m',xs[i],by rw [h3 i f hi];exact List.getElem?_eq_getElem hlt⟩
theorem Trd.field {fs:Array Field}{i off n:Nat}{ft:TypeId}(h:∀(i:Nat)(f:Field),fs[i]? =some f→Trd enc P w f.type ((cs.drop f.offset).take (P.cellsOf f.type)))(hf:(fs[i]?).map (fun f=>(f.type,f.offset))=some (ft,off))(hn:P.cellsOf ft=n):Trd enc P w ft ((cs.drop off).take n):=by
 obtain⟨f,hf1,hf2⟩:=Option.map_eq_some_iff.1 hf
 simp only [Prod.mk.injEq]at hf2
 obtain⟨rfl,rfl⟩:=hf2
 subst hn
 exact h i f hf1
theorem glue(cs:List Value)(off n:Nat):cs.drop off=(cs.drop off).take n++cs.drop (off+n):=by
 rw [←List.drop_drop,List.take_append_drop]
theorem Trd.bytes(ht:P.underlying T=some (.slice e))(he:P.underlying e=some (.int .u8))(hc:P.cellsOf e=1)(h:Trd enc P w T cs):∃(p:Option Addr)(l:List Byte)(c:Nat),cs=[.slice p l.length c]∧RdB w p l∧l.length≤c∧l.length≤maxLen:=by
 obtain⟨f,x,hf⟩:=h
 rcases open_ints ht he hc hf with ⟨rfl,_⟩|⟨a,len,cap,zs,rfl,_,hl,hm,hz,_,hcell,hwz⟩
 · exact⟨none,[],0,rfl,RdB.nil _ _,Nat.le_refl _,by simp⟩
 · obtain⟨l,h1,h2,h3,h4⟩:=rdB_of (w:=w) (a:=some a) (len:=len) (cap:=cap) (zs:=zs) (.inr ⟨a,rfl,hl,hm,by simpa using hz,hcell,hwz⟩)
   exact⟨some a,l,cap,by rw [h1],h2,h3,h4⟩
def RdR(w:World)(p:Option Addr)(ls:List (List Byte)):Prop:=
 (0<ls.length→p.isSome=true)∧∀i,i<ls.length→∃(q:Option Addr)(c:Nat),w.cell? ((p.getD default).add i)=some (.slice q (ls.getD i []).length c)∧RdB w q (ls.getD i [])∧(ls.getD i []).length≤c∧(ls.getD i []).length≤maxLen
theorem RdR.ext {w w':World}{p:Option Addr}{ls:List (List Byte)}(h:RdR w p ls)(hx:Ext w w'):RdR w' p ls:=
 ⟨h.1,fun i hi=>by obtain⟨q,c,h1,h2,h3⟩:=h.2 i hi;exact⟨q,c,hx.cell h1,h2.ext hx,h3⟩⟩
theorem Trd.rows {q:TypeId}(ht:P.underlying T=some (.slice e))(he:P.underlying e=some (.slice q))(hq:P.underlying q=some (.int .u8))(hc:P.cellsOf e=1)(hcq:P.cellsOf q=1)(h:Trd enc P w T cs):
   ∃(p:Option Addr)(ls:List (List Byte))(c:Nat),cs=[.slice p ls.length c]∧RdR w p ls∧ls.length≤c∧ls.length≤maxLen:=by
 obtain⟨f,x,hf⟩:=h
 rcases open_slice1 ht hc hf with ⟨rfl,_⟩|⟨a,len,cap,m,n,V,D,Pl,rfl,_,hl,hm,hmm,_,hel⟩
 · exact⟨none,[],0,rfl,⟨by simp,by simp⟩,Nat.le_refl _,by simp⟩
 · simp only [if_true]at hmm
   have each:∀i,i<len→∃l:List Byte,∃(q':Option Addr)(c:Nat),V i= .slice q' l.length c∧RdB w q' l∧l.length≤c∧l.length≤maxLen:=fun i hi=>by
     obtain⟨p',l,c',h1,h2,h3,h4⟩:=Trd.bytes (cs:=[V i]) he hq hcq ⟨n,_,(hel i (by omega)).2⟩
     exact⟨l,p',c',by simpa using h1,h2,h3,h4⟩
   have : ∃ ls:List (List Byte),ls.length=len∧∀i,i<len→∃(q':Option Addr)(c:Nat),V i= .slice q' (ls.getD i []).length c∧RdB w q' (ls.getD i [])∧(ls.getD i []).length≤c∧(ls.getD i []).length≤maxLen:=by
     have key:∀k,k≤len→∃ls:List (List Byte),ls.length=k∧∀i,i<k→∃(q':Option Addr)(c:Nat),V i= .slice q' (ls.getD i []).length c∧RdB w q' (ls.getD i [])∧(ls.getD i []).length≤c∧(ls.getD i []).length≤maxLen:=by
       intro k
       induction k with
       |zero=>intro _;exact⟨[],rfl,by intros;omega⟩
       | succ k ih=>
         intro hk
         obtain⟨ls,h1,h2⟩:=ih (by omega)
         obtain⟨l,hl'⟩:=each k (by omega)
         refine⟨ls++[l],by simp [h1],fun i hi=> ?_⟩
         by_cases hik:i<k
         · have:(ls++[l]).getD i []=ls.getD i []:=by simp [List.getElem?_append_left (show i<ls.length by omega)]
           rw [this];exact h2 i hik
         · have:(ls++[l]).getD i []=l:=by
             have:i=ls.length:=by omega
             subst this;simp
           rw [this]
           have:i=k:=by omega
           subst this;exact hl'
     exact key len (Nat.le_refl _)
   obtain⟨ls,h1,h2⟩:=this
   subst h1
   refine⟨some a,ls,cap,rfl,⟨fun _=>rfl,fun i hi=> ?_⟩,hl,by omega⟩
   obtain⟨q',c,h3,h4⟩:=h2 i hi
   refine⟨q',c, ?_,h4⟩
   rw [←h3]
   exact(hel i (by omega)).1
def RdK(w:World)(p:Option Addr)(n:Nat)(ks:List (List Byte)):Prop:=(∀k∈ks,k.length=n)∧RdB w p ks.flatten
theorem RdK.ext {w w':World}{p:Option Addr}{n:Nat}{ks:List (List Byte)}(h:RdK w p n ks)(hx:Ext w w'):RdK w' p n ks:=⟨h.1,h.2.ext hx⟩
theorem flatten_length(n:Nat):∀(ks:List (List Byte)),(∀k∈ks,k.length=n)→ks.flatten.length=ks.length*n
 |[],_=>by simp
 | k::ks,h=>by
   simp only [List.flatten_cons,List.length_append,flatten_length n ks (fun x hx=>h x (by simp [hx])),h k (by simp),List.length_cons,Nat.succ_mul];omega
theorem flatten_getD(n:Nat):∀(ks:List (List Byte))(i j:Nat),(∀k∈ks,k.length=n)→i<ks.length→j<n→ks.flatten.getD (i*n+j) 0=(ks.getD i []).getD j 0
 |[],_,_,_,h,_=>by simp at h
 | k::ks,0,j,h,_,hj=>by
   have:=h k (by simp)
   simp [List.getElem?_append_left (show j<k.length by omega)]
 | k::ks,i+1,j,h,hi,hj=>by
   have hk:=h k (by simp)
   have:=flatten_getD n ks i j (fun x hx=>h x (by simp [hx])) (by simpa using hi) hj
   simp only [List.flatten_cons,List.getD_eq_getElem?_getD,List.getD_cons_succ]at this⊢
   rw [List.getElem?_append_right (by rw [hk,Nat.succ_mul];omega),hk,show(i+1)*n+j-n=i*n+j from by rw [Nat.succ_mul];omega]
   exact this
/-! ### An argument's value -/
section
variable {r:Reach} {b0:Nat} {v:Value} {d:DataW H} {ps:List MemPlace}
theorem val_agg(hT:((P.underlying T).map fun d=>d.isRow)=some true)(hval:Value.okWide P w r b0 T v)(h:DataW.Trod enc P w 0 (fun _=>true) true T v d ps):∃cs:List Value,v= .agg cs.toArray∧Trd enc P w T cs:=by
 obtain⟨cs,rfl⟩:=okWide_agg hT hval
 exact⟨cs,rfl,(Trd.of h).cells rfl⟩
end
end
open Go Go.RowKit
class Elem (P:Program) (e:TypeId) (sz by_:outParam Nat):Prop where
 out:∃i z,P.info? e=some i∧i.zero=some z∧i.size=sz∧i.bytes=by_∧z.cells.size=sz∧0<sz
theorem Elem.of {P:Program}{e:TypeId}{sz by_:Nat}(h:(P.info? e).map (fun i=>(i.zero.map fun z=>z.cells.size,i.size,i.bytes))=some (some sz,sz,by_))(h0:0<sz):Elem P e sz by_:=⟨by
 obtain⟨i,hi,h⟩:=Option.map_eq_some_iff.1 h
 simp only [Prod.mk.injEq]at h
 obtain⟨h1,h2,h3⟩:=h
 obtain⟨z,hz,h4⟩:=Option.map_eq_some_iff.1 h1
 exact⟨i,z,hi,hz,h2,h3,h4,h0⟩⟩
def OwnC(w:World)(B:Nat)(e:TypeId)(sz:Nat)(v:Value)(n:Nat)(cs:List Value):Prop:=w.ownsRow B e sz v n cs
section
variable {w w':World} {B n sz:Nat} {e:TypeId} {v:Value} {cs:List Value}
theorem OwnC.nil(w:World)(B:Nat)(e:TypeId)(sz:Nat):OwnC w B e sz (.slice none 0 0) 0 []:=World.ownsRow_nil w B _ _
theorem OwnC.alloc(h:OwnC w B e sz v n cs)(o:Obj):OwnC (w.alloc o) B e sz v n cs:=World.ownsRow.alloc h o
theorem OwnC.ext(h:OwnC w B e sz v n cs)(hx:Ext w w'):OwnC w' B e sz v n cs:=
 World.ownsRow.kept h (row:=none) ⟨hx.os,hx.tape,hx.output,hx.size,fun k hk _=>Below.block hx k hk⟩ (by cases hv:v.ownBlock<;>simp)
theorem OwnC.lt(h:OwnC w B e sz v n cs):∀k,v.ownBlock=some k→B≤k∧k<w.heap.size:=World.ownsRow.lt h
theorem OwnC.len(h:OwnC w B e sz v n cs):cs.length=n*sz:=h.1
theorem OwnC.slice(h:OwnC w B e sz v n cs):∃(p:Option Addr)(c:Nat),v= .slice p n c∧n≤c∧c≤maxLen∧(0<n→p.isSome=true)∧∀(j:Nat)(u:Value),cs[j]? =some u→w.cell? ((p.getD default).add j)=some u:=by
 obtain⟨h1,h2⟩:=h
 rcases h2 with ⟨rfl,h0⟩|⟨g,cap,cur,rfl,hg,hh,hn,hc,hs,ht⟩
 · subst h0
   have:cs=[]:=List.eq_nil_of_length_eq_zero (by simpa using h1)
   subst this
   exact⟨none,0,rfl,Nat.le_refl _,by simp [maxLen],by simp,by simp⟩
 · refine⟨some ⟨g,0,none⟩,cap,rfl,hn,hc,fun _=>rfl,fun j u hj=> ?_⟩
   have e':(⟨g,0,none⟩:Addr).add j=⟨g,j,none⟩:=by simp [Addr.add];omega
   show w.cell? ((⟨g,0,none⟩:Addr).add j)=_
   rw [e',cell_of_row w g j cur _ _ hh]
   rw [←ht,List.getElem?_take]at hj
   split at hj
   · rw [←Array.getElem?_toList];exact hj
   · cases hj
def catV(ks:List (List Byte)):List Value:=ks.flatten.map v8
theorem catV_append(ks ls:List (List Byte)):catV (ks++ls)=catV ks++catV ls:=by simp [catV]
theorem catV_length(n:Nat)(ks:List (List Byte))(h:∀k∈ks,k.length=n):(catV ks).length=ks.length*n:=by rw [catV,List.length_map,flatten_length n ks h]
theorem catV_one(ks:List (List Byte)):∀u∈catV ks,u.oneCell'=true:=one_map _
theorem RdK.cells {w:World}{p:Option Addr}{n:Nat}{ks:List (List Byte)}(h:RdK w p n ks):∀(j:Nat)(u:Value),(catV ks)[j]? =some u→∃a,p=some a∧w.cell? (a.add j)=some u:=by
 intro j u hj
 rw [catV,List.getElem?_map]at hj
 obtain⟨x,hx,rfl⟩:=Option.map_eq_some_iff.1 hj
 obtain⟨hlt,hx'⟩:=List.getElem?_eq_some_iff.1 hx
 obtain⟨a,rfl⟩:=Option.isSome_iff_exists.1 (h.2.1 (by omega))
 refine⟨a,rfl, ?_⟩
 have:=h.2.2 j hlt
 simp only [Option.getD_some]at this
 rw [this,List.getD_eq_getElem?_getD,hx];rfl
theorem OwnC.reads {m:Nat}{ks:List (List Byte)}(h:OwnC w B e m v ks.length (catV ks))(hk:∀k∈ks,k.length=m):∃p c,v= .slice p ks.length c∧ks.length≤c∧RdK w p m ks:=by
 obtain⟨p,c,rfl,h1,_,h3,h4⟩:=h.slice
 refine⟨p,c,rfl,h1,hk,fun hl=>h3 ?_,fun i hi=> ?_⟩
 · rcases Nat.eq_zero_or_pos ks.length with h0|h0
   · rw [List.eq_nil_of_length_eq_zero h0]at hl;simp at hl
   · exact h0
 · exact h4 i (v8 (ks.flatten.getD i 0)) (by rw [catV,List.getElem?_map,List.getElem?_eq_getElem hi,List.getD_eq_getElem?_getD,List.getElem?_eq_getElem hi];rfl)
end
theorem add_add(a:Addr)(i j:Nat):(a.add i).add j=a.add (i+j):=by unfold Addr.add;split<;>split<;>simp_all<;>omega
theorem RdB.sub {w:World}{p:Option Addr}{l:List Byte}(h:RdB w p l)(o n:Nat)(hn:o+n≤l.length)(h0:0<n):RdB w (some ((p.getD default).add o)) ((l.drop o).take n):=
 ⟨fun _=>rfl,fun i hi=>by
   simp only [List.length_take,List.length_drop]at hi
   simp only [Option.getD_some]
   rw [add_add,h.2 (o+i) (by omega)]
   simp [List.getElem?_take,List.getElem?_drop,show i<n by omega]⟩
theorem flatten_seg(n:Nat):∀(ks:List (List Byte))(i:Nat),(∀k∈ks,k.length=n)→i<ks.length→(ks.flatten.drop (i*n)).take n=ks.getD i []
 |[],_,_,h=>by simp at h
 | k::ks,0,h,_=>by
   have:=h k (by simp)
   simp [List.take_append_of_le_length (Nat.le_of_eq this.symm),List.take_of_length_le (Nat.le_of_eq this)]
 | k::ks,i+1,h,hi=>by
   have hk:=h k (by simp)
   have:=flatten_seg n ks i (fun x hx=>h x (by simp [hx])) (by simpa using hi)
   rw [List.flatten_cons,show(i+1)*n=k.length+i*n from by rw [hk,Nat.succ_mul];omega,List.drop_append,List.drop_eq_nil_of_le (by omega),List.nil_append,show k.length+i*n-k.length=i*n from by omega,this]
   simp
theorem RdK.at {w:World}{p:Option Addr}{n:Nat}{ks:List (List Byte)}(h:RdK w p n ks)(hn:0<n)(i:Nat)(hi:i<ks.length):RdB w (some ((p.getD default).add (i*n))) (ks.getD i [])∧(ks.getD i []).length=n:=by
 have hl:=flatten_length n ks h.1
 have hle:(i+1)*n≤ks.length*n:=Nat.mul_le_mul_right n hi
 rw [Nat.succ_mul]at hle
 have:=h.2.sub (i*n) n (by rw [hl];omega) hn
 rw [flatten_seg n ks i h.1 hi]at this
 refine⟨this,h.1 _ ?_⟩
 rw [List.getD_eq_getElem?_getD,List.getElem?_eq_getElem hi]
 exact List.getElem_mem hi
theorem RdK.addr {w:World}{p:Option Addr}{n:Nat}{ks:List (List Byte)}(h:RdK w p n ks)(hn:0<n)(hk:0<ks.length):∃a,p=some a:=by
 have hl:=flatten_length n ks h.1
 exact Option.isSome_iff_exists.1 (h.2.1 (by rw [hl];exact Nat.mul_pos hk hn))
theorem Swap.split {L L':List Blk}{b b':Blk}(c:Blk)(h:Swap L b b' L'):∃M,Swap L b c M∧Swap M c b' L':=by
 induction h with
 |hd=>exact⟨_, .hd, .hd⟩
 |tl _ ih=>obtain⟨M,h1,h2⟩:=ih;exact⟨_, .tl h1, .tl h2⟩
theorem Own.turnC {w0 w:World}{L L':List Blk}{g k:Nat}{t:TypeId}{cs:List Value}{v:Value}(h:Own w0 w L)(hs:Swap L ⟨g,t,cs⟩ ⟨g,t,cs.set k v⟩ L'):Own w0 (w.setCell ⟨g,k,none⟩ v) L':=by
 have hr:Row w g t cs:=h.row hs.has
 have hb:w0.heap.size≤g:=h.base hs.has
 refine⟨ext_setCell h.1 _ _ hb,by rw [hs.keys rfl];exact h.2.1,fun c hc=> ?_⟩
 rcases hs.cases rfl h.2.1 hc with rfl|⟨h1,h2⟩
 · exact⟨hb,row_set hr k v⟩
 · exact⟨(h.2.2 c h1).1,row_other (h.2.2 c h1).2 _ _ h2⟩
theorem Own.turn8 {w0 w:World}{L L':List Blk}{g k:Nat}{t:TypeId}{l:List Byte}{b:Byte}(h:Own w0 w L)(hs:Swap L ⟨g,t,l.map v8⟩ ⟨g,t,(setN l k b).map v8⟩ L'):Own w0 (w.setCell ⟨g,k,none⟩ (v8 b)) L':=by
 rw [←mapv_set]at hs;exact h.turnC hs
theorem Own.perm {w0 w:World}{L M:List Blk}(h:Own w0 w L)(p:L.Perm M):Own w0 w M:=
 ⟨h.1,(p.map Blk.g).nodup_iff.1 h.2.1,fun b hb=>h.2.2 b (p.mem_iff.2 hb)⟩
theorem Has.perm {L:List Blk}{b:Blk}(h:Has L b):∃R,L.Perm (b::R):=by
 induction h with
 |hd=>exact⟨_,List.Perm.refl _⟩
 | @tl b c L _ ih=>obtain⟨R,p⟩:=ih;exact⟨c::R,(p.cons c).trans (List.Perm.swap b c R)⟩
theorem Swap.front {L L':List Blk}{b b':Blk}(h:Swap L b b' L'):∃R,L.Perm (b::R)∧L'.Perm (b'::R):=by
 induction h with
 |hd=>exact⟨_,List.Perm.refl _,List.Perm.refl _⟩
 | @tl b b' c L L' _ ih=>obtain⟨R,p,q⟩:=ih;exact⟨c::R,(p.cons c).trans (List.Perm.swap b c R),(q.cons c).trans (List.Perm.swap b' c R)⟩
theorem Own.dropN {w0 w:World}{M L:List Blk}(h:Own w0 w (M++L)):Own w0 w L:=
 ⟨h.1,by have:=h.2.1;rw [List.map_append]at this;exact(List.nodup_append.1 this).2.1,fun b hb=>h.2.2 b (by simp [hb])⟩
theorem Has.app {M L:List Blk}{b:Blk}(h:Has L b):Has (M++L) b:=by
 induction M with
 |nil=>exact h
 |cons c M ih=>exact .tl ih
theorem Swap.app {M L L':List Blk}{b b':Blk}(h:Swap L b b' L'):Swap (M++L) b b' (M++L'):=by
 induction M with
 |nil=>exact h
 |cons c M ih=>exact .tl ih
theorem Has.front {M L:List Blk}{b:Blk}(h:Has M b):Has (M++L) b:=by
 induction h with
 |hd=>exact .hd
 |tl _ ih=>exact .tl ih
def ovr:List Value→Nat→List Value→List Value
 |cs,_,[]=>cs
 |cs,o,v::vs=>ovr (cs.set o v) (o+1) vs
theorem ovr_length(vs:List Value):∀(cs:List Value)(o:Nat),(ovr cs o vs).length=cs.length:=by
 induction vs with
 |nil=>intro cs o;rfl
 |cons v vs ih=>intro cs o;rw [ovr,ih];simp
theorem ovr_at(vs:List Value):∀(cs:List Value)(o j:Nat),o+vs.length≤cs.length→(ovr cs o vs)[j]? =if o≤j∧j<o+vs.length then vs[j-o]? else cs[j]? :=by
 induction vs with
 |nil=>intro cs o j _;rw [ovr,if_neg (by simp)]
 | cons v vs ih=>
   intro cs o j hl
   simp only [List.length_cons]at hl
   rw [ovr,ih _ _ _ (by simp;omega)]
   by_cases h1:j=o
   · subst h1
     rw [if_neg (by omega),if_pos (by simp),List.getElem?_set]
     simp;omega
   · by_cases h2:o+1≤j∧j<o+1+vs.length
     · rw [if_pos h2,if_pos (by simp;omega),show j-o=(j-(o+1))+1 from by omega,List.getElem?_cons_succ]
     · rw [if_neg h2,if_neg (by simp;omega),List.getElem?_set_ne (by omega)]
theorem Own.setCells {w0:World}{g:Nat}{t:TypeId}(vs:List Value):∀{w:World} {L L':List Blk} {cs:List Value} {o:Nat},Own w0 w L→Swap L ⟨g,t,cs⟩ ⟨g,t,ovr cs o vs⟩ L'→Own w0 (w.setCells g o vs) L':=by
 induction vs with
 | nil=>
   intro w L L' cs o h hs
   have:=h.turn hs
   have hr:Row w g t cs:=h.row hs.has
   rw [show ovr cs o []=cs from rfl,setRow_self w g _ t (0,0) hr]at this
   exact this
 | cons v vs ih=>
   intro w L L' cs o h hs
   obtain⟨M,h1,h2⟩:=hs.split ⟨g,t,cs.set o v⟩
   exact ih (h.turnC h1) h2
def SlO(M:List Blk)(e:TypeId)(sz:Nat)(v:Value)(n:Nat)(cs:List Value):Prop:=
 cs.length=n*sz∧((v= .slice none 0 0∧n=0∧M=[])∨∃g o cap cur,v= .slice (some ⟨g,o,none⟩) n cap∧M=[⟨g,e,cur⟩]∧n≤cap∧cap≤maxLen∧o+cap*sz≤cur.length∧(cur.drop o).take (n*sz)=cs)
section
variable {w0 w:World} {M R:List Blk} {e:TypeId} {sz n:Nat} {v:Value} {cs:List Value}
theorem SlO.nil(e:TypeId)(sz:Nat):SlO [] e sz (.slice none 0 0) 0 []:=⟨by simp, .inl ⟨rfl,rfl,rfl⟩⟩
theorem SlO.whole(g:Nat)(e:TypeId)(sz n:Nat)(cs:List Value)(hl:cs.length=n*sz)(hn:n≤maxLen):SlO [⟨g,e,cs⟩] e sz (.slice (some ⟨g,0,none⟩) n n) n cs:=
 ⟨hl, .inr ⟨g,0,n,cs,rfl,rfl,Nat.le_refl _,hn,by omega,by rw [dZe,List.take_of_length_le (by omega)]⟩⟩
theorem SlO.room(g:Nat)(e:TypeId)(sz cap:Nat)(cur:List Value)(hl:cur.length=cap*sz)(hn:cap≤maxLen):SlO [⟨g,e,cur⟩] e sz (.slice (some ⟨g,0,none⟩) 0 cap) 0 []:=
 ⟨by simp, .inr ⟨g,0,cap,cur,rfl,rfl,by omega,hn,by omega,by simp⟩⟩
theorem SlO.form(h:SlO M e sz v n cs):∃p c,v= .slice p n c:=by
 rcases h.2 with ⟨h1,rfl,_⟩|⟨g,o,cap,cur,h1,_⟩<;>exact⟨_,_,h1⟩
theorem SlO.cells(h:SlO M e sz v n cs)(hm:Own w0 w (M++R)):∃(p:Option Addr)(c:Nat),v= .slice p n c∧n≤c∧c≤maxLen∧(0<n→p.isSome=true)∧∀(j:Nat)(u:Value),cs[j]? =some u→∃a,p=some a∧w.cell? (a.add j)=some u:=by
 obtain⟨hl,h⟩:=h
 rcases h with ⟨rfl,rfl,rfl⟩|⟨g,o,cap,cur,rfl,rfl,h1,h2,h3,h4⟩
 · have:cs=[]:=List.eq_nil_of_length_eq_zero (by simpa using hl)
   subst this
   exact⟨none,0,rfl,Nat.le_refl _,by simp,by simp,by simp⟩
 · refine⟨_,cap,rfl,h1,h2,fun _=>rfl,fun j u hj=>⟨_,rfl, ?_⟩⟩
   have hr:Row w g e cur:=hm.row (.hd)
   show w.cell? ((⟨g,o,none⟩:Addr).add j)=_
   rw [Addr.add_mid,row_cell hr]
   rw [←h4,List.getElem?_take]at hj
   split at hj
   · rwa [List.getElem?_drop]at hj
   · cases hj
end
theorem ownsRow_sl {w0 w w':World}{R:List Blk}{e:TypeId}{sz n:Nat}{v:Value}{cs:List Value}(hm:Own w0 w R)(hx:Ext w w')(h:w'.ownsRow w.heap.size e sz v n cs):∃M,Own w0 w' (M++R)∧SlO M e sz v n cs:=by
 obtain⟨h1,h2⟩:=h
 rcases h2 with ⟨rfl,h0⟩|⟨g,cap,cur,rfl,hg,hh,hn,hc,hs,ht⟩
 · exact⟨[],hm.ext hx,h1, .inl ⟨rfl,h0,rfl⟩⟩
 · have hr:Row w' g e cur.toList:=hh
   refine⟨[⟨g,e,cur.toList⟩],hm.push hx hg hr,h1, .inr ⟨g,0,cap,cur.toList,rfl,rfl,hn,hc,by simp;omega,by rw [dZe,ht]⟩⟩
theorem run_append_none {P:Program}{w:World}{t ty e:TypeId}{i:TypeInfo}(ht:P.underlying t=some (.slice e))(hi:P.info? e=some i)(q:Option Addr)(n cap c:Nat)(hnc:n≤cap):(Builtin.append_ #[t,t] ty #[.slice q n cap, .slice none 0 c]).run P w= .ok (.slice q n cap) w:=by
 cases q<;>simp [Builtin.append_,run_underlying ht,sizeOf,typeInfo,hi,Builtin.lenOf,Builtin.firstCells,hnc,storeCells]
theorem wplO_app {P:Program}{ops:Array Oper}{Q:Exit→Act→World→Prop}{rest:List Oper}{o:Oper}{a:Act}{w0 w:World}{M R:List Blk}{s x:Operand}{p:Option Addr}{c n m sz by_:Nat}{T e:TypeId}{v:Value}{cs ds:List Value}
   (hm:Own w0 w (M++R)) (hsl:SlO M e sz v n cs) (hgd:o.guard=none) (ho:o.op= .call {callee:= .builtin .append,args:= #[s,x],argTypes:= #[T,T]}) (hs:a.eval s=v) (hx:a.eval x= .slice p m c) (hT:P.underlying T=some (.slice e)) [hE:Elem P e sz by_]
   (hl:ds.length=m*sz) (hr:∀(j:Nat)(u:Value),ds[j]? =some u→∃a,p=some a∧w.cell? (a.add j)=some u) (h1:∀u∈ds,u.oneCell'=true) (hlen:(n+m)*(by_+1)≤140737488355328)
   (h:∀v' w' M',Own w0 w' (M'++R)→SlO M' e sz v' (n+m) (cs++ds)→wpList P ops Q rest (a.put o.dst v') w'):wpList P ops Q (o::rest) a w:=by
 obtain⟨i,z,hi,hz,hsz,hb,hzz,h0⟩:=hE.out
 have hlen1:n+m≤maxLen:=by
   have:n+m≤(n+m)*(by_+1):=Nat.le_mul_of_pos_right _ (by omega)
   unfold maxLen;omega
 have hlen2:(n+m)*by_≤140737488355328:=Nat.le_trans (Nat.mul_le_mul_left _ (by omega)) hlen
 cases p with
 | none=>
   have hd:ds=[]:=by
     cases ds with
     |nil=>rfl
     |cons u ds=>obtain⟨_,ha,_⟩:=hr 0 u rfl;cases ha
   subst hd
   have hm0:m=0:=by
     rcases Nat.eq_zero_or_pos m with h|h
     · exact h
     · have:=Nat.mul_pos h h0;rw [←hl]at this;simp at this
   subst hm0
   obtain⟨q,k,rfl,hnk,_⟩:=hsl.cells hm
   refine wpList_plain hgd fun K hK=> ?_
   unfold Oper.wp
   simp [execOp,ho,resolve,invoke,builtin,hs,hx,run_append_none hT hi _ _ _ _ hnk,Result.andThen]
   exact hK _ _ (h _ w M hm (by simpa using hsl))
 | some ad =>
   have hr':∀(j:Nat)(u:Value),ds[j]? =some u→w.cell? (ad.add j)=some u:=fun j u hj=>by
     obtain⟨a',ha,hc⟩:=hr j u hj
     cases ha;exact hc
   obtain⟨hcl,hsl'⟩:=id hsl
   rcases hsl' with ⟨rfl,rfl,rfl⟩|⟨g,off,cap,cur,rfl,rfl,k1,k2,k3,k4⟩
   · have hcs:cs=[]:=List.eq_nil_of_length_eq_zero (by simpa using hcl)
     subst hcs
     refine wpList_append_own w hgd s x T ho w.heap.size e i z sz by_ hT hi hz hsz hb hzz h0 _ 0 [] hs (World.ownsRow_nil w _ e sz) ad m c ds hx hl hr' h1 hlen1 hlen2 (Nat.le_refl _) ?_
     intro v' w' r1 r2 _
     have hx:Ext w w':=(Below.refl w.heap.size w).grown r2 (Nat.le_refl _) fun k hk=>by cases hk
     obtain⟨M',m1,m2⟩:=ownsRow_sl hm hx r1
     exact h v' w' M' m1 m2
   · have hrow:Row w g e cur:=hm.row (.hd)
     have hcells:∀(j:Nat)(u:Value),cs[j]? =some u→w.cell? ((⟨g,off,none⟩:Addr).add j)=some u:=fun j u hj=>by
       rw [Addr.add_mid,row_cell hrow]
       rw [←k4,List.getElem?_take]at hj
       split at hj
       · rwa [List.getElem?_drop]at hj
       · cases hj
     by_cases hfit:n+m≤cap
     · have hin:off+n*sz+ds.length≤cur.length:=by
         have:(n+m)*sz≤cap*sz:=Nat.mul_le_mul_right _ hfit
         rw [Nat.add_mul]at this;omega
       have hrun:=run_append_room_cells (P:=P) w T o.type e i hT hi g off n cap ad m c ds (by rw [hsz];exact hl) hr' h1 hfit
         (fun j hj=>by rw [row_cell hrow,hsz,List.getElem?_eq_getElem (by omega)];rfl) (fun j hj=>row_free hrow _)
       rw [hsz]at hrun
       have hm2:Own w0 (w.setCells g (off+n*sz) ds) (⟨g,e,ovr cur (off+n*sz) ds⟩::R):=Own.setCells ds hm .hd
       refine wpList_plain hgd fun K hK=> ?_
       unfold Oper.wp
       simp [execOp,ho,resolve,invoke,builtin,hs,hx,hrun,Result.andThen]
       refine hK _ _ (h _ _ [⟨g,e,ovr cur (off+n*sz) ds⟩] hm2 ⟨by rw [List.length_append,hcl,hl,Nat.add_mul], .inr ⟨g,off,cap,_,rfl,rfl,hfit,k2,by rw [ovr_length];exact k3, ?_⟩⟩)
       apply List.ext_getElem?
       intro j
       rw [List.getElem?_take,Nat.add_mul,←hl]
       by_cases hj:j<n*sz
       · rw [if_pos (by omega),List.getElem?_drop,ovr_at _ _ _ _ hin,if_neg (by omega),List.getElem?_append_left (by omega),←k4,List.getElem?_take,if_pos hj,List.getElem?_drop]
       · by_cases hj2:j<n*sz+ds.length
         · rw [if_pos hj2,List.getElem?_drop,ovr_at _ _ _ _ hin,if_pos (by omega),List.getElem?_append_right (by omega),hcl]
           congr 1;omega
         · rw [if_neg hj2,List.getElem?_eq_none (by rw [List.length_append];omega)]
     · refine wpList_append_grows w hgd s x T ho e i z sz by_ hT hi hz hsz hb hzz h0 (some ⟨g,off,none⟩) n cap cs hs (by simp) hcl (fun b hb=>by cases hb;exact hcells) ad m c ds hx hl hr' h1 (by omega) hlen1 hlen2 ?_
       intro v' w' r1 r2
       have hx:Ext w w':=(Below.refl w.heap.size w).grown r2 (Nat.le_refl _) fun k hk=>by cases hk
       obtain⟨M',m1,m2⟩:=ownsRow_sl (hm.drop) hx r1
       exact h v' w' M' m1 m2
theorem SlO.behind {M:List Blk}{e:TypeId}{sz n k:Nat}{g o cap:Nat}{cs:List Value}(h:SlO M e sz (.slice (some ⟨g,o,none⟩) n cap) n cs)(hk:k≤n):SlO M e sz (.slice (some ⟨g,o+k*sz,none⟩) (n-k) (cap-k)) (n-k) (cs.drop (k*sz)):=by
 obtain⟨hl,h⟩:=h
 rcases h with ⟨h,_⟩|⟨g',o',cap',cur,he,rfl,k1,k2,k3,k4⟩
 · cases h
 · cases he
   have hks:k*sz≤n*sz:=Nat.mul_le_mul_right _ hk
   have hkc:k*sz≤cap*sz:=Nat.mul_le_mul_right _ (by omega)
   refine⟨by rw [List.length_drop,hl,Nat.sub_mul], .inr ⟨g,_,_,cur,rfl,rfl,by omega,by omega,by rw [Nat.sub_mul];omega, ?_⟩⟩
   rw [←k4,List.drop_take,List.drop_drop,Nat.sub_mul]
instance:One1 Tryz.prog 3:=⟨by kernel_rfl,by kernel_rfl⟩
instance:ZeroOf Tryz.prog 3 [.int .i64 0]:=⟨by kernel_rfl⟩
instance:One1 Tryz.prog 4:=⟨by kernel_rfl,by kernel_rfl⟩
instance:ZeroOf Tryz.prog 4 [.bool false]:=⟨by kernel_rfl⟩
instance:One1 Tryz.prog 5:=⟨by kernel_rfl,by kernel_rfl⟩
instance:ZeroOf Tryz.prog 5 [v8 0#8]:=⟨by kernel_rfl⟩
instance:One1 Tryz.prog 9:=⟨by kernel_rfl,by kernel_rfl⟩
instance:ZeroOf Tryz.prog 9 [.string ⟨#[]⟩]:=⟨by kernel_rfl⟩
instance:One1 Tryz.prog 22:=⟨by kernel_rfl,by kernel_rfl⟩
instance:ZeroOf Tryz.prog 22 [.slice none 0 0]:=⟨by kernel_rfl⟩
instance:Many Tryz.prog 24 2:=⟨by kernel_rfl,by kernel_rfl⟩
instance:ZeroOf Tryz.prog 24 ([.int .i64 0, .slice none 0 0]):=⟨by kernel_rfl⟩
instance:One1 Tryz.prog 25:=⟨by kernel_rfl,by kernel_rfl⟩
instance:ZeroOf Tryz.prog 25 [v64 0#64]:=⟨by kernel_rfl⟩
instance:Many Tryz.prog 27 5:=⟨by kernel_rfl,by kernel_rfl⟩
instance:ZeroOf Tryz.prog 27 ([.int .i64 0, .slice none 0 0, .int .i64 0,v64 0#64, .string ⟨#[]⟩]):=⟨by kernel_rfl⟩
instance:One1 Tryz.prog 31:=⟨by kernel_rfl,by kernel_rfl⟩
instance:ZeroOf Tryz.prog 31 [.pointer none]:=⟨by kernel_rfl⟩
instance:One1 Tryz.prog 34:=⟨by kernel_rfl,by kernel_rfl⟩
instance:ZeroOf Tryz.prog 34 [.pointer none]:=⟨by kernel_rfl⟩
instance:One1 Tryz.prog 35:=⟨by kernel_rfl,by kernel_rfl⟩
instance:ZeroOf Tryz.prog 35 [.int .i64 0]:=⟨by kernel_rfl⟩
instance:Many Tryz.prog 40 8:=⟨by kernel_rfl,by kernel_rfl⟩
instance:ZeroOf Tryz.prog 40 ((zer (n:=8) 8).map v8):=⟨by kernel_rfl⟩
instance:One1 Tryz.prog 44:=⟨by kernel_rfl,by kernel_rfl⟩
instance:One1 Tryz.prog 48:=⟨by kernel_rfl,by kernel_rfl⟩
instance:ZeroOf Tryz.prog 48 [.slice none 0 0]:=⟨by kernel_rfl⟩
instance:Many Tryz.prog 50 3:=⟨by kernel_rfl,by kernel_rfl⟩
instance:ZeroOf Tryz.prog 50 ([.int .i64 0, .slice none 0 0, .slice none 0 0]):=⟨by kernel_rfl⟩
instance:Many Tryz.prog 52 11:=⟨by kernel_rfl,by kernel_rfl⟩
instance:ZeroOf Tryz.prog 52 ([.int .i64 0, .slice none 0 0, .int .i64 0, .slice none 0 0, .int .i64 0, .slice none 0 0, .slice none 0 0, .int .i64 0, .slice none 0 0, .slice none 0 0, .slice none 0 0]):=⟨by kernel_rfl⟩
instance:One1 Tryz.prog 58:=⟨by kernel_rfl,by kernel_rfl⟩
instance:ZeroOf Tryz.prog 58 [.pointer none]:=⟨by kernel_rfl⟩
instance:Many Tryz.prog 62 2:=⟨by kernel_rfl,by kernel_rfl⟩
instance:ZeroOf Tryz.prog 62 ([.pointer none, .int .i64 0]):=⟨by kernel_rfl⟩
instance:One1 Tryz.prog 66:=⟨by kernel_rfl,by kernel_rfl⟩
instance:ZeroOf Tryz.prog 66 [v64 0#64]:=⟨by kernel_rfl⟩
instance:One1 Tryz.prog 70:=⟨by kernel_rfl,by kernel_rfl⟩
instance:ZeroOf Tryz.prog 70 [v32 0#32]:=⟨by kernel_rfl⟩
instance:One1 Tryz.prog 75:=⟨by kernel_rfl,by kernel_rfl⟩
instance:ZeroOf Tryz.prog 75 [.nilIface]:=⟨by kernel_rfl⟩
instance:Many Tryz.prog 79 2:=⟨by kernel_rfl,by kernel_rfl⟩
instance:ZeroOf Tryz.prog 79 ([.int .i64 0, .nilIface]):=⟨by kernel_rfl⟩
instance:One1 Tryz.prog 81:=⟨by kernel_rfl,by kernel_rfl⟩
instance:ZeroOf Tryz.prog 81 [.pointer none]:=⟨by kernel_rfl⟩
instance:Many Tryz.prog 85 256:=⟨by kernel_rfl,by kernel_rfl⟩
instance:ZeroOf Tryz.prog 85 ((zer (n:=32) 256).map v32):=⟨by kernel_rfl⟩
instance:Many Tryz.prog 86 1024:=⟨by kernel_rfl,by kernel_rfl⟩
instance:ZeroOf Tryz.prog 86 ((zer (n:=32) 1024).map v32):=⟨by kernel_rfl⟩
instance:Many Tryz.prog 88 2049:=⟨by kernel_rfl,by kernel_rfl⟩
instance:ZeroOf Tryz.prog 88 ([.pointer none]++((zer (n:=32) 2048).map v32)):=⟨by kernel_rfl⟩
instance:One1 Tryz.prog 89:=⟨by kernel_rfl,by kernel_rfl⟩
instance:One1 Tryz.prog 90:=⟨by kernel_rfl,by kernel_rfl⟩
instance:Many Tryz.prog 92 3:=⟨by kernel_rfl,by kernel_rfl⟩
instance:ZeroOf Tryz.prog 92 ([.nilFunc, .nilFunc, .nilFunc]):=⟨by kernel_rfl⟩
instance:One1 Tryz.prog 97:=⟨by kernel_rfl,by kernel_rfl⟩
instance:ZeroOf Tryz.prog 97 [.pointer none]:=⟨by kernel_rfl⟩
instance:One1 Tryz.prog 100:=⟨by kernel_rfl,by kernel_rfl⟩
instance:ZeroOf Tryz.prog 100 [.pointer none]:=⟨by kernel_rfl⟩
instance:One1 Tryz.prog 103:=⟨by kernel_rfl,by kernel_rfl⟩
instance:ZeroOf Tryz.prog 103 [.pointer none]:=⟨by kernel_rfl⟩
instance:Many Tryz.prog 107 1:=⟨by kernel_rfl,by kernel_rfl⟩
instance:ZeroOf Tryz.prog 107 ([.pointer none]):=⟨by kernel_rfl⟩
instance:Many Tryz.prog 109 4:=⟨by kernel_rfl,by kernel_rfl⟩
instance:ZeroOf Tryz.prog 109 ((zer (n:=8) 4).map v8):=⟨by kernel_rfl⟩
instance:Many Tryz.prog 110 255:=⟨by kernel_rfl,by kernel_rfl⟩
instance:ZeroOf Tryz.prog 110 ((zer (n:=8) 255).map v8):=⟨by kernel_rfl⟩
instance:Many Tryz.prog 111 256:=⟨by kernel_rfl,by kernel_rfl⟩
instance:ZeroOf Tryz.prog 111 ((zer (n:=8) 256).map v8):=⟨by kernel_rfl⟩
instance:Many Tryz.prog 113 512:=⟨by kernel_rfl,by kernel_rfl⟩
instance:ZeroOf Tryz.prog 113 ((zer (n:=8) 512).map v8):=⟨by kernel_rfl⟩
instance:Many Tryz.prog 121 32:=⟨by kernel_rfl,by kernel_rfl⟩
instance:ZeroOf Tryz.prog 121 ((zer (n:=8) 32).map v8):=⟨by kernel_rfl⟩
instance:One1 Tryz.prog 122:=⟨by kernel_rfl,by kernel_rfl⟩
instance:ZeroOf Tryz.prog 122 [.pointer none]:=⟨by kernel_rfl⟩
instance:One1 Tryz.prog 123:=⟨by kernel_rfl,by kernel_rfl⟩
instance:ZeroOf Tryz.prog 123 [.pointer none]:=⟨by kernel_rfl⟩
instance:Many Tryz.prog 125 34:=⟨by kernel_rfl,by kernel_rfl⟩
instance:ZeroOf Tryz.prog 125 (((zer (n:=8) 32).map v8)++[.pointer none, .pointer none]):=⟨by kernel_rfl⟩
instance:Many Tryz.prog 127 24:=⟨by kernel_rfl,by kernel_rfl⟩
instance:ZeroOf Tryz.prog 127 ((zer (n:=8) 24).map v8):=⟨by kernel_rfl⟩
instance:Many Tryz.prog 132 16:=⟨by kernel_rfl,by kernel_rfl⟩
instance:ZeroOf Tryz.prog 132 ((zer (n:=8) 16).map v8):=⟨by kernel_rfl⟩
instance:Many Tryz.prog 134 33:=⟨by kernel_rfl,by kernel_rfl⟩
instance:ZeroOf Tryz.prog 134 ([.pointer none]++((zer (n:=8) 32).map v8)):=⟨by kernel_rfl⟩
instance:One1 Tryz.prog 135:=⟨by kernel_rfl,by kernel_rfl⟩
instance:Many Tryz.prog 139 49:=⟨by kernel_rfl,by kernel_rfl⟩
instance:ZeroOf Tryz.prog 139 ([.pointer none]++((zer (n:=8) 48).map v8)):=⟨by kernel_rfl⟩
instance:Many Tryz.prog 149 64:=⟨by kernel_rfl,by kernel_rfl⟩
instance:ZeroOf Tryz.prog 149 ((zer (n:=8) 64).map v8):=⟨by kernel_rfl⟩
instance:One1 Tryz.prog 155:=⟨by kernel_rfl,by kernel_rfl⟩
instance:ZeroOf Tryz.prog 155 [.slice none 0 0]:=⟨by kernel_rfl⟩
instance:Many Tryz.prog 156 4:=⟨by kernel_rfl,by kernel_rfl⟩
instance:ZeroOf Tryz.prog 156 ((zer (n:=8) 4).map v8):=⟨by kernel_rfl⟩
instance:One1 Tryz.prog 161:=⟨by kernel_rfl,by kernel_rfl⟩
instance:ZeroOf Tryz.prog 161 [.slice none 0 0]:=⟨by kernel_rfl⟩
instance:Many Tryz.prog 163 2:=⟨by kernel_rfl,by kernel_rfl⟩
instance:ZeroOf Tryz.prog 163 ([.pointer none, .slice none 0 0]):=⟨by kernel_rfl⟩
instance:One1 Tryz.prog 165:=⟨by kernel_rfl,by kernel_rfl⟩
instance:ZeroOf Tryz.prog 165 [.slice none 0 0]:=⟨by kernel_rfl⟩
instance:Many Tryz.prog 169 33:=⟨by kernel_rfl,by kernel_rfl⟩
instance:ZeroOf Tryz.prog 169 (((zer (n:=8) 32).map v8)++[.slice none 0 0]):=⟨by kernel_rfl⟩
instance:One1 Tryz.prog 172:=⟨by kernel_rfl,by kernel_rfl⟩
instance:ZeroOf Tryz.prog 172 [.pointer none]:=⟨by kernel_rfl⟩
instance:One1 Tryz.prog 175:=⟨by kernel_rfl,by kernel_rfl⟩
instance:Many Tryz.prog 182 16:=⟨by kernel_rfl,by kernel_rfl⟩
instance:ZeroOf Tryz.prog 182 ((zer (n:=32) 16).map v32):=⟨by kernel_rfl⟩
instance:One1 Tryz.prog 187:=⟨by kernel_rfl,by kernel_rfl⟩
instance:Many Tryz.prog 189 8:=⟨by kernel_rfl,by kernel_rfl⟩
instance:ZeroOf Tryz.prog 189 ((zer (n:=64) 8).map v64):=⟨by kernel_rfl⟩
instance:Many Tryz.prog 191 2:=⟨by kernel_rfl,by kernel_rfl⟩
instance:ZeroOf Tryz.prog 191 ([v64 0#64,v64 0#64]):=⟨by kernel_rfl⟩
instance:Many Tryz.prog 193 12:=⟨by kernel_rfl,by kernel_rfl⟩
instance:ZeroOf Tryz.prog 193 (((zer (n:=64) 10).map v64)++[.slice none 0 0, .int .i64 0]):=⟨by kernel_rfl⟩
instance:Many Tryz.prog 197 2:=⟨by kernel_rfl,by kernel_rfl⟩
instance:ZeroOf Tryz.prog 197 ([.slice none 0 0, .slice none 0 0]):=⟨by kernel_rfl⟩
instance:One1 Tryz.prog 200:=⟨by kernel_rfl,by kernel_rfl⟩
instance:ZeroOf Tryz.prog 200 [.slice none 0 0]:=⟨by kernel_rfl⟩
instance:Many Tryz.prog 202 35:=⟨by kernel_rfl,by kernel_rfl⟩
instance:ZeroOf Tryz.prog 202 ([.slice none 0 0, .slice none 0 0, .slice none 0 0]++((zer (n:=8) 32).map v8)):=⟨by kernel_rfl⟩
instance:One1 Tryz.prog 208:=⟨by kernel_rfl,by kernel_rfl⟩
instance:Many Tryz.prog 215 128:=⟨by kernel_rfl,by kernel_rfl⟩
instance:ZeroOf Tryz.prog 215 ((zer (n:=8) 128).map v8):=⟨by kernel_rfl⟩
instance:Many Tryz.prog 223 32:=⟨by kernel_rfl,by kernel_rfl⟩
instance:ZeroOf Tryz.prog 223 ((zer (n:=8) 32).map v8):=⟨by kernel_rfl⟩
instance:One1 Tryz.prog 225:=⟨by kernel_rfl,by kernel_rfl⟩
instance:One1 Tryz.prog 228:=⟨by kernel_rfl,by kernel_rfl⟩
instance:ZeroOf Tryz.prog 228 [.pointer none]:=⟨by kernel_rfl⟩
instance:Many Tryz.prog 233 16:=⟨by kernel_rfl,by kernel_rfl⟩
instance:ZeroOf Tryz.prog 233 ((zer (n:=64) 16).map v64):=⟨by kernel_rfl⟩
instance:Many Tryz.prog 235 160:=⟨by kernel_rfl,by kernel_rfl⟩
instance:ZeroOf Tryz.prog 235 ((zer (n:=8) 160).map v8):=⟨by kernel_rfl⟩
instance:One1 Tryz.prog 237:=⟨by kernel_rfl,by kernel_rfl⟩
instance:ZeroOf Tryz.prog 237 [.pointer none]:=⟨by kernel_rfl⟩
instance:One1 Tryz.prog 270:=⟨by kernel_rfl,by kernel_rfl⟩
instance:ZeroOf Tryz.prog 270 [.pointer none]:=⟨by kernel_rfl⟩
instance:Many Tryz.prog 276 5:=⟨by kernel_rfl,by kernel_rfl⟩
instance:ZeroOf Tryz.prog 276 ((zer (n:=32) 5).map v32):=⟨by kernel_rfl⟩
instance:Many Tryz.prog 279 27:=⟨by kernel_rfl,by kernel_rfl⟩
instance:ZeroOf Tryz.prog 279 (((zer (n:=32) 10).map v32)++((zer (n:=8) 16).map v8)++[.int .i64 0]):=⟨by kernel_rfl⟩
instance:Many Tryz.prog 281 4:=⟨by kernel_rfl,by kernel_rfl⟩
instance:ZeroOf Tryz.prog 281 ((zer (n:=64) 4).map v64):=⟨by kernel_rfl⟩
instance:Many Tryz.prog 282 4:=⟨by kernel_rfl,by kernel_rfl⟩
instance:ZeroOf Tryz.prog 282 ((zer (n:=32) 4).map v32):=⟨by kernel_rfl⟩
instance:Many Tryz.prog 285 5:=⟨by kernel_rfl,by kernel_rfl⟩
instance:ZeroOf Tryz.prog 285 ((zer (n:=64) 5).map v64):=⟨by kernel_rfl⟩
instance:One1 Tryz.prog 295:=⟨by kernel_rfl,by kernel_rfl⟩
instance:ZeroOf Tryz.prog 295 [.pointer none]:=⟨by kernel_rfl⟩
instance:One1 Tryz.prog 298:=⟨by kernel_rfl,by kernel_rfl⟩
instance:ZeroOf Tryz.prog 298 [.pointer none]:=⟨by kernel_rfl⟩
instance:Many Tryz.prog 301 17:=⟨by kernel_rfl,by kernel_rfl⟩
instance:ZeroOf Tryz.prog 301 ([.pointer none]++((zer (n:=8) 16).map v8)):=⟨by kernel_rfl⟩
instance:Many Tryz.prog 302 32:=⟨by kernel_rfl,by kernel_rfl⟩
instance:ZeroOf Tryz.prog 302 ((zer (n:=64) 32).map v64):=⟨by kernel_rfl⟩
instance:Many Tryz.prog 304 32:=⟨by kernel_rfl,by kernel_rfl⟩
instance:ZeroOf Tryz.prog 304 ((zer (n:=64) 32).map v64):=⟨by kernel_rfl⟩
instance:Many Tryz.prog 307 2:=⟨by kernel_rfl,by kernel_rfl⟩
instance:ZeroOf Tryz.prog 307 ([v8 0#8,v8 0#8]):=⟨by kernel_rfl⟩
@[go_sem] theorem cv3_5 (n : Int) (w : World) : (convert 3 5 (.int .i64 n)).run Tryz.prog w = .ok (v8 (BitVec.ofInt 8 n)) w := conv_int8 n _ _ _ _ w rfl rfl
@[go_sem] theorem cv3_25 (n : Int) (w : World) : (convert 3 25 (.int .i64 n)).run Tryz.prog w = .ok (v64 (BitVec.ofInt 64 n)) w := conv_int64 n _ _ _ _ w rfl rfl
@[go_sem] theorem cv3_66 (n : Int) (w : World) : (convert 3 66 (.int .i64 n)).run Tryz.prog w = .ok (v64 (BitVec.ofInt 64 n)) w := conv_int64 n _ _ _ _ w rfl rfl
@[go_sem] theorem cv5_25 (x : BitVec 8) (w : World) : (convert 5 25 (v8 x)).run Tryz.prog w = .ok (v64 (x.setWidth 64)) w := conv8_64 x _ _ _ w rfl rfl
@[go_sem] theorem cv5_70 (x : BitVec 8) (w : World) : (convert 5 70 (v8 x)).run Tryz.prog w = .ok (v32 (x.setWidth 32)) w := conv8_32 x _ _ _ w rfl rfl
@[go_sem] theorem cv25_5 (x : BitVec 64) (w : World) : (convert 25 5 (v64 x)).run Tryz.prog w = .ok (v8 (x.setWidth 8)) w := conv64_8 x _ _ _ w rfl rfl
@[go_sem] theorem cv25_70 (x : BitVec 64) (w : World) : (convert 25 70 (v64 x)).run Tryz.prog w = .ok (v32 (x.setWidth 32)) w := conv64_32 x _ _ _ w rfl rfl
@[go_sem] theorem cv70_5 (x : BitVec 32) (w : World) : (convert 70 5 (v32 x)).run Tryz.prog w = .ok (v8 (x.setWidth 8)) w := conv32_8 x _ _ _ w rfl rfl
@[go_sem] theorem cv70_25 (x : BitVec 32) (w : World) : (convert 70 25 (v32 x)).run Tryz.prog w = .ok (v64 (x.setWidth 64)) w := conv32_64 x _ _ _ w rfl rfl
open Go
def rotr(x:BitVec 64)(k:Nat):BitVec 64:=(x<<<(64-k))|||(x>>>k)
def half1(v:List (BitVec 64))(a b:Nat)(x:BitVec 64):List (BitVec 64):=setN v a (nth v a+(nth v b+x))
def half2(v:List (BitVec 64))(a d m:Nat):List (BitVec 64):=setN v d (rotr (nth v d^^^nth v a) m)
def half3(v:List (BitVec 64))(c d:Nat):List (BitVec 64):=setN v c (nth v c+nth v d)
def halfL(v:List (BitVec 64))(a b c d:Nat)(x:BitVec 64)(m n:Nat):List (BitVec 64):=half2 (half3 (half2 (half1 v a b x) a d m) c d) c b n
theorem halfL_length(v:List (BitVec 64))(a b c d:Nat)(x:BitVec 64)(m n:Nat):(halfL v a b c d x m n).length=v.length:=by simp [halfL,half1,half2,half3]
def stirL(v:List (BitVec 64))(i by_:Nat)(x y:BitVec 64):List (BitVec 64):=
 halfL (halfL v i (4+(i+by_)%4) (8+(i+2*by_)%4) (12+(i+3*by_)%4) x 32 24) i (4+(i+by_)%4) (8+(i+2*by_)%4) (12+(i+3*by_)%4) y 16 63
theorem stirL_length(v:List (BitVec 64))(i by_:Nat)(x y:BitVec 64):(stirL v i by_ x y).length=v.length:=by rw [stirL,halfL_length,halfL_length]
def firstL:List (BitVec 64):=[0x6a09e667f3bcc908#64,0xbb67ae8584caa73b#64,0x3c6ef372fe94f82b#64,0xa54ff53a5f1d36f1#64,0x510e527fade682d1#64,0x9b05688c2b3e6c1f#64,0x1f83d9abfb41bd6b#64,0x5be0cd19137e2179#64]
theorem firstL_length:firstL.length=8:=rfl
def rowsL:List (List Byte):=[
 [0#8,1#8,2#8,3#8,4#8,5#8,6#8,7#8,8#8,9#8,10#8,11#8,12#8,13#8,14#8,15#8],
 [14#8,10#8,4#8,8#8,9#8,15#8,13#8,6#8,1#8,12#8,0#8,2#8,11#8,7#8,5#8,3#8],
 [11#8,8#8,12#8,0#8,5#8,2#8,15#8,13#8,10#8,14#8,3#8,6#8,7#8,1#8,9#8,4#8],
 [7#8,9#8,3#8,1#8,13#8,12#8,11#8,14#8,2#8,6#8,5#8,10#8,4#8,0#8,15#8,8#8],
 [9#8,0#8,5#8,7#8,2#8,4#8,10#8,15#8,14#8,1#8,11#8,12#8,6#8,8#8,3#8,13#8],
 [2#8,12#8,6#8,10#8,0#8,11#8,8#8,3#8,4#8,13#8,7#8,5#8,15#8,14#8,1#8,9#8],
 [12#8,5#8,1#8,15#8,14#8,13#8,4#8,10#8,0#8,7#8,6#8,3#8,9#8,2#8,8#8,11#8],
 [13#8,11#8,7#8,14#8,12#8,1#8,3#8,9#8,5#8,0#8,15#8,4#8,8#8,6#8,2#8,10#8],
 [6#8,15#8,14#8,9#8,11#8,3#8,0#8,8#8,12#8,2#8,13#8,7#8,1#8,4#8,10#8,5#8],
 [10#8,2#8,8#8,4#8,7#8,6#8,1#8,5#8,15#8,11#8,9#8,14#8,3#8,12#8,13#8,0#8]]
theorem rowsL_length:rowsL.length=10:=rfl
theorem rowsL_each:∀k∈rowsL,k.length=16:=by decide
theorem rowsL_lt:∀k∈rowsL,∀x∈k,x.toNat<16:=by decide
def rowL(r:Nat):List Byte:=rowsL.getD (r%10) []
theorem rowL_length(r:Nat):(rowL r).length=16:=by
 have h:r%10<rowsL.length:=Nat.mod_lt _ (by decide)
 rw [rowL,List.getD_eq_getElem?_getD,List.getElem?_eq_getElem h];exact rowsL_each _ (List.getElem_mem h)
theorem rowL_lt(r i:Nat):(nth (rowL r) i).toNat<16:=by
 have h:r%10<rowsL.length:=Nat.mod_lt _ (by decide)
 by_cases hi:i<(rowL r).length
 · rw [nth_get hi]
   refine rowsL_lt (rowL r) ?_ _ (List.getElem_mem hi)
   rw [rowL,List.getD_eq_getElem?_getD,List.getElem?_eq_getElem h];exact List.getElem_mem h
 · rw [nth_ge (by omega)];decide
def stepF(m:List (BitVec 64))(row:List Byte)(v:List (BitVec 64)):Nat→List (BitVec 64)
 |0=>v
 |i+1=>stirL (stepF m row v i) (i%4) (i/4) (nth m (nth row (2*i)).toNat) (nth m (nth row (2*i+1)).toNat)
theorem stepF_length(m:List (BitVec 64))(row:List Byte)(v:List (BitVec 64))(i:Nat):(stepF m row v i).length=v.length:=by
 induction i with
 |zero=>rfl
 |succ i ih=>rw [stepF,stirL_length,ih]
def roundF(m v:List (BitVec 64)):Nat→List (BitVec 64)
 |0=>v
 |r+1=>stepF m (rowL r) (roundF m v r) 8
theorem roundF_length(m v:List (BitVec 64))(r:Nat):(roundF m v r).length=v.length:=by
 induction r with
 |zero=>rfl
 |succ r ih=>rw [roundF,stepF_length,ih]
def startF(h:List (BitVec 64)):Nat→List (BitVec 64)
 |0=>zer 16
 |k+1=>setN (setN (startF h k) k (nth h k)) (k+8) (nth firstL k)
theorem startF_length(h:List (BitVec 64))(k:Nat):(startF h k).length=16:=by
 induction k with
 |zero=>exact zer_length
 |succ k ih=>rw [startF,setN_length,setN_length,ih]
def xorN(v:List (BitVec 64))(i:Nat)(x:BitVec 64):List (BitVec 64):=setN v i (nth v i^^^x)
def notN(v:List (BitVec 64))(i:Nat):List (BitVec 64):=setN v i (~~~ (nth v i))
def initL(h:List (BitVec 64))(lo hi:BitVec 64)(last:Bool):List (BitVec 64):=
 let v:=xorN (xorN (startF h 8) 12 lo) 13 hi
 if last then notN v 14 else v
theorem initL_length(h:List (BitVec 64))(lo hi:BitVec 64)(last:Bool):(initL h lo hi last).length=16:=by
 unfold initL;cases last<;>simp [xorN,notN,startF_length]
def compL(h m:List (BitVec 64))(lo hi:BitVec 64)(last:Bool):List (BitVec 64):=
 tab 8 fun i=>nth h i^^^(nth (roundF m (initL h lo hi last) 12) i^^^nth (roundF m (initL h lo hi last) 12) (i+8))
theorem compL_length(h m:List (BitVec 64))(lo hi:BitVec 64)(last:Bool):(compL h m lo hi last).length=8:=tab_length
theorem neg_mask(n:Nat)(h0:0<n)(h1:n≤63):bits BinOp.and IntKind.u64 (IntKind.u64.wrap (-(n:Int))) 63=((64-n:Nat):Int)∧IntKind.u64.wrap (64-((64-n:Nat):Int))=(n:Int):=by
 have:∀k:Fin 64,0<k.val→bits BinOp.and IntKind.u64 (IntKind.u64.wrap (-(k.val:Int))) 63=((64-k.val:Nat):Int)∧IntKind.u64.wrap (64-((64-k.val:Nat):Int))=(k.val:Int):=by decide+kernel
 exact this ⟨n,by omega⟩ h0
theorem rot64_any(x:BitVec 64)(n:Nat)(h0:0<n)(h1:n≤63)(w:World):Calls Tryz.prog 155 #[v64 x, .int .i64 (-(n:Int))] w fun e w'=>e= .returned (v64 (rotr x n))∧w=w':=by
 obtain⟨hb,hw⟩:=neg_mask n h0 h1
 obtain⟨q,hq⟩:∃q:Nat,64-n=q:=⟨_,rfl⟩
 rw [hq]at hb hw
 have E:=hid (show rotr x n=(x<<<q)|||(x>>>n)by rw [rotr,hq])
 clear hq
 go_enter Tryz.func155,Tryz.ntmps155
 go_wp2
 go_ret
 exact⟨by rw [E.out];rfl,rfl⟩
theorem rot64_G(x:BitVec 64)(n:Nat)(h0:0<n)(h1:n≤63)(w:World):Gives Tryz.prog 155 #[v64 x, .int .i64 (-(n:Int))] w (v64 (rotr x n)):= .of_same (rot64_any x n h0 h1 w)
theorem half_any(g:Nat)(l:List (BitVec 64))(a b c d:Nat)(x:BitVec 64)(m n:Nat)(hl:l.length=16)(ha:a<16)(hb:b<16)(hc:c<16)(hd:d<16)(hm0:0<m)(hm1:m≤63)(hn0:0<n)(hn1:n≤63)(w0 w:World)(L L':List Blk)(hm:Own w0 w L)(hs:Swap L ⟨g,233,l.map v64⟩ ⟨g,233,(halfL l a b c d x m n).map v64⟩ L'):
   Calls Tryz.prog 152 #[.pointer (some ⟨g,0,none⟩), .int .i64 a, .int .i64 b, .int .i64 c, .int .i64 d,v64 x, .int .i64 m, .int .i64 n] w fun e w'=>e= .returned (.tuple #[])∧Own w0 w' L':=by
 obtain⟨R,p1,p2⟩:=hs.front
 replace hm:=hm.perm p1
 have P2:=hid p2.symm
 have HE:=hid (show halfL l a b c d x m n=half2 (half3 (half2 (half1 l a b x) a d m) c d) c b n from rfl)
 have hl1:l.length=16:=hl
 have l1:(half1 l a b x).length=16:=by simp [half1,hl]
 have l2:(half2 (half1 l a b x) a d m).length=16:=by simp [half1,half2,hl]
 have l3:(half3 (half2 (half1 l a b x) a d m) c d).length=16:=by simp [half1,half2,half3,hl]
 have ai:(a:Int)<16:=by omega
 have bi:(b:Int)<16:=by omega
 have ci:(c:Int)<16:=by omega
 have di:(d:Int)<16:=by omega
 have D1:=hid fun y wx=>rot64_G y m hm0 hm1 wx
 have D2:=hid fun y wx=>rot64_G y n hn0 hn1 wx
 have hmi:(m:Int)≤63:=by omega
 have hni:(n:Int)≤63:=by omega
 clear hs p1 p2 hl
 go_enter Tryz.func152,Tryz.ntmps152
 go_wp2_with fail
 refine rgE 15 80 ?_
 simp only [tSC,tZe,dSC,dZe,mCo,mNi]
 repeat (first
     | (apply walk_is rfl rfl rfl
        · (intro wx hwx;first|((with_reducible show qGl);first|(exact zJ (hm.ext hwx)))|(go_simp;(try go_bits);first|exact gives_same|exact gives_skip))
        · (simp only [Act.put,sIB,sCS,sCZ];rfl))
     | (apply walk_not rfl rfl rfl
        · (simp only [Act.put,sIB,sCS,sCZ];rfl)))
 intro wz hwz
 simp only [zCC,zNR]
 repeat (first|rw [fin_is]|(rw [fin_cons];intro _ _))
 rw [fin_nil]
 try (replace hm:=hm.ext hwz)
 simp only [Act.put,sIB,sCS,sCZ]
 go_wp2_with (first|((((with_reducible show qSt);first|(refine zD hm ?_)));clear hm;intro w hm))
 replace hm:Own w0 w (⟨g,233,(half1 l a b x).map v64⟩::R):=hm
 generalize half1 l a b x=v1 at*
 refine rgE 18 80 ?_
 simp only [tSC,tZe,dSC,dZe,mCo,mNi]
 repeat (first
     | (apply walk_is rfl rfl rfl
        · (intro wx hwx;first|((with_reducible show qGl);first|(exact zJ (hm.ext hwx)))|(go_simp;(try go_bits);first|exact gives_same|exact gives_skip|with_reducible exact gives_call (D1.out _ wx)))
        · (simp only [Act.put,sIB,sCS,sCZ];rfl))
     | (apply walk_not rfl rfl rfl
        · (simp only [Act.put,sIB,sCS,sCZ];rfl)))
 intro wz hwz
 simp only [zCC,zNR]
 repeat (first|rw [fin_is]|(rw [fin_cons];intro _ _))
 rw [fin_nil]
 try (replace hm:=hm.ext hwz)
 simp only [Act.put,sIB,sCS,sCZ]
 go_wp2_with (first|((((with_reducible show qSt);first|(refine zD hm ?_)));clear hm;intro w hm))
 replace hm:Own w0 w (⟨g,233,(half2 v1 a d m).map v64⟩::R):=hm
 generalize half2 v1 a d m=v2 at*
 refine rgE 13 80 ?_
 simp only [tSC,tZe,dSC,dZe,mCo,mNi]
 repeat (first
     | (apply walk_is rfl rfl rfl
        · (intro wx hwx;first|((with_reducible show qGl);first|(exact zJ (hm.ext hwx)))|(go_simp;(try go_bits);first|exact gives_same|exact gives_skip))
        · (simp only [Act.put,sIB,sCS,sCZ];rfl))
     | (apply walk_not rfl rfl rfl
        · (simp only [Act.put,sIB,sCS,sCZ];rfl)))
 intro wz hwz
 simp only [zCC,zNR]
 repeat (first|rw [fin_is]|(rw [fin_cons];intro _ _))
 rw [fin_nil]
 try (replace hm:=hm.ext hwz)
 simp only [Act.put,sIB,sCS,sCZ]
 go_wp2_with (first|((((with_reducible show qSt);first|(refine zD hm ?_)));clear hm;intro w hm))
 replace hm:Own w0 w (⟨g,233,(half3 v2 c d).map v64⟩::R):=hm
 generalize half3 v2 c d=v3 at*
 refine rgE 18 80 ?_
 simp only [tSC,tZe,dSC,dZe,mCo,mNi]
 repeat (first
     | (apply walk_is rfl rfl rfl
        · (intro wx hwx;first|((with_reducible show qGl);first|(exact zJ (hm.ext hwx)))|(go_simp;(try go_bits);first|exact gives_same|exact gives_skip|with_reducible exact gives_call (D2.out _ wx)))
        · (simp only [Act.put,sIB,sCS,sCZ];rfl))
     | (apply walk_not rfl rfl rfl
        · (simp only [Act.put,sIB,sCS,sCZ];rfl)))
 intro wz hwz
 simp only [zCC,zNR]
 repeat (first|rw [fin_is]|(rw [fin_cons];intro _ _))
 rw [fin_nil]
 try (replace hm:=hm.ext hwz)
 simp only [Act.put,sIB,sCS,sCZ]
 go_wp2_with (first|((((with_reducible show qSt);first|(refine zD hm ?_)));clear hm;intro w hm))
 go_end0
 refine⟨rfl, ?_⟩
 rw [HE.out]at P2
 exact hm.perm P2.out
theorem stir_any(g:Nat)(l:List (BitVec 64))(i by_:Nat)(x y:BitVec 64)(hl:l.length=16)(hi:i<4)(hb:by_<2)(w0 w:World)(L L':List Blk)(hm:Own w0 w L)(hs:Swap L ⟨g,233,l.map v64⟩ ⟨g,233,(stirL l i by_ x y).map v64⟩ L'):
   Calls Tryz.prog 147 #[.pointer (some ⟨g,0,none⟩), .int .i64 i, .int .i64 by_,v64 x,v64 y] w fun e w'=>e= .returned (.tuple #[])∧Own w0 w' L':=by
 obtain⟨q1,h1,h14⟩:∃q:Nat,(i+by_)%4=q∧q<4:=⟨_,rfl,Nat.mod_lt _ (by omega)⟩
 obtain⟨q2,h2,h24⟩:∃q:Nat,(i+2*by_)%4=q∧q<4:=⟨_,rfl,Nat.mod_lt _ (by omega)⟩
 obtain⟨q3,h3,h34⟩:∃q:Nat,(i+3*by_)%4=q∧q<4:=⟨_,rfl,Nat.mod_lt _ (by omega)⟩
 have a1:((i:Int)+(by_:Int))%4=(q1:Int):=by omega
 have a2:((i:Int)+(by_:Int)).tmod 4=(q1:Int):=by rw [Int.tmod_eq_emod_of_nonneg (by omega)];exact a1
 have a3:((i:Int)+2*(by_:Int))%4=(q2:Int):=by omega
 have a4:((i:Int)+2*(by_:Int)).tmod 4=(q2:Int):=by rw [Int.tmod_eq_emod_of_nonneg (by omega)];exact a3
 have a5:((i:Int)+3*(by_:Int))%4=(q3:Int):=by omega
 have a6:((i:Int)+3*(by_:Int)).tmod 4=(q3:Int):=by rw [Int.tmod_eq_emod_of_nonneg (by omega)];exact a5
 obtain⟨M,m1,m2⟩:=hs.split ⟨g,233,(halfL l i (4+q1) (8+q2) (12+q3) x 32 24).map v64⟩
 have e:stirL l i by_ x y=halfL (halfL l i (4+q1) (8+q2) (12+q3) x 32 24) i (4+q1) (8+q2) (12+q3) y 16 63:=by rw [stirL,h1,h2,h3]
 rw [e]at m2
 have C1:=fun wa hma=>half_any g l i (4+q1) (8+q2) (12+q3) x 32 24 hl (by omega) (by omega) (by omega) (by omega) (by omega) (by omega) (by omega) (by omega) w0 wa L M hma m1
 have C2:=fun wa hma=>half_any g _ i (4+q1) (8+q2) (12+q3) y 16 63 (by rw [halfL_length,hl]) (by omega) (by omega) (by omega) (by omega) (by omega) (by omega) (by omega) (by omega) w0 wa M L' hma m2
 push_cast at C1 C2
 have D1:=hid C1
 have D2:=hid C2
 clear C1 C2 hs m1 m2 e h1 h2 h3
 go_enter Tryz.func147,Tryz.ntmps147
 go_wp2_with fail
 refine(D1.out _ hm).mono ?_
 rintro e w1 ⟨rfl,hm1⟩
 go_wp2_with fail
 refine(D2.out _ hm1).mono ?_
 rintro e w2 ⟨rfl,hm2⟩
 go_wp2
 go_end0
 exact⟨rfl,hm2⟩
abbrev A64(l:List (BitVec 64)):Value:= .agg (l.map v64).toArray
def CoefB(w:World):Prop:=(∀i,i<8→w.cell? ⟨3,i,none⟩=some (v64 (nth firstL i)))∧RdK w (some ⟨4,0,none⟩) 16 rowsL
theorem CoefB.ext {w w':World}(h:CoefB w)(hx:Ext w w'):CoefB w':=⟨fun i hi=>hx.cell (h.1 i hi),h.2.ext hx⟩
theorem CoefB.row {w:World}(h:CoefB w)(q:Nat)(hq:q<10):RdB w (some ⟨4,q*16,none⟩) (rowL q):=by
 have:=(h.2.at (by omega) q (by rw [rowsL_length];exact hq)).1
 have e:((some (⟨4,0,none⟩:Addr)).getD default).add (q*16)=⟨4,q*16,none⟩:=by simp [Addr.add];omega
 rw [e]at this
 rwa [rowL,Nat.mod_eq_of_lt hq]
theorem long_G(b:List Byte)(p:Option Addr)(c n:Nat)(i:Int)(w:World)(hb:b.length=n)(hn:n≤140737488355328)(h0: -9223372036854775808≤i)(h1:i≤9223372036854775807)(hr:RdB w p b):Gives Tryz.prog 146 #[.slice p n c, .int .i64 i] w (v64 (num b i 8)):=by
 subst hb;exact long_any b p c i w hr hn h0 h1
theorem Own.turn64 {w0 w:World}{L L':List Blk}{g k:Nat}{t:TypeId}{l:List (BitVec 64)}{b:BitVec 64}(h:Own w0 w L)(hs:Swap L ⟨g,t,l.map v64⟩ ⟨g,t,(setN l k b).map v64⟩ L'):Own w0 (w.setCell ⟨g,k,none⟩ (v64 b)) L':=by
 rw [←mapv_set]at hs;exact h.turnC hs
def mF(b:List Byte)(i:Nat):BitVec 64:=num b (8*(i:Int)) 8
def mL(b:List Byte):List (BitVec 64):=tab 16 (mF b)
attribute [local simp] compL_length
theorem compress_any (h : List (BitVec 64))(b:List Byte)(lo hi:BitVec 64)(last:Bool)(hh:h.length=8)(hb:b.length=128)(w0:World)(hc:CoefB w0):
   Gives Tryz.prog 133 #[A64 h,A8 b, .agg #[v64 lo,v64 hi], .bool last] w0 (A64 (compL h (mL b) lo hi last)):=by
 unfold Gives
 have hm:=Own.start w0
 have HC:=hid hc
 have HB:=hid hb
 have HH:=hid hh
 have hb1:=Nat.le_of_eq hb
 have hb2:=Nat.le_of_eq hb.symm
 have hh1:=Nat.le_of_eq hh
 have hh2:=Nat.le_of_eq hh.symm
 obtain⟨V,hV⟩:∃V,initL h lo hi last=V:=⟨_,rfl⟩
 have HV:=hid hV
 have HI:=hid (hV ▸ initL_length h lo hi last)
 have EC:=hid (show compL h (mL b) lo hi last=tab 8 fun i=>nth h i^^^(nth (roundF (mL b) V 12) i^^^nth (roundF (mL b) V 12) (i+8))by rw [compL,hV])
 have lC:(compL h (mL b) lo hi last).length=8:=compL_length _ _ _ _ _
 generalize compL h (mL b) lo hi last=CL at*
 clear hc hb hh hV
 go_enter Tryz.func133,Tryz.ntmps133
 go_wp2_with (first|((first|((with_reducible show qAl);first|(refine zG hm ?_))|((with_reducible show qBx);first|(refine zH hm ?_)));clear hm;(first|(have hx_:=g1;clear hx_;(first|(have hx_:=g2;clear hx_;(first|(have hx_:=g3;clear hx_;(first|(have hx_:=g4;clear hx_;(first|(have hx_:=g5;clear hx_;(first|(have hx_:=g6;clear hx_;(first|(have hx_:=g7;clear hx_;intro gx_)|intro g7))|intro g6))|intro g5))|intro g4))|intro g3))|intro g2))|intro g1);intro w hm))
 go_loopw [17] (fun i wr=>∃k:Nat,k≤16∧i= .int .i64 k∧Own w0 wr [⟨g6,233,(zer (n:=64) 16).map v64⟩,⟨g5,233,(part 16 k (mF b) fun _=>0).map v64⟩,⟨g4,189,(zer (n:=64) 8).map v64⟩,⟨g3,191,[v64 lo,v64 hi]⟩,⟨g2,215,b.map v8⟩,⟨g1,189,h.map v64⟩]) (fun i _=>16-(intOf i).toNat)
 case atStart=>exact⟨0,by omega,rfl,by rw [←zer_start];exact hm⟩
 case round =>
   obtain⟨k,hk,rfl,hm⟩:=hrel
   by_cases hlt:k<16
   · go_wp2_with (first|(go_at_call 146;(with_reducible refine(long_G b _ _ _ _ _ HB.out (by omega) (by omega) (by omega) (hm.rdB (by repeat (first|exact Has.hd|assumption|apply Has.tl)))).mono ?_);rintro e_ w ⟨rfl,hx_⟩;replace hm:=hm.ext hx_;clear hx_)|((((with_reducible show qSt);first|(refine zD hm ?_)));clear hm;intro w hm))
     go_roundw
     case rel=>
       rw [part_set' (f:=mF b) (x:=num b (8*(k:Int)) 8) hlt rfl]at hm
       exact⟨k+1,by omega,by go_num,hm⟩
     case measure=>simp [intOf]<;>omega
   · obtain rfl : k = 16 :=by omega
     rw [part_all]at hm
     go_wp2_with fail
     go_loopw [27] (fun i wr=>∃k:Nat,k≤8∧i= .int .i64 k∧Own w0 wr [⟨g6,233,(startF h k).map v64⟩,⟨g5,233,(mL b).map v64⟩,⟨g4,189,(zer (n:=64) 8).map v64⟩,⟨g3,191,[v64 lo,v64 hi]⟩,⟨g2,215,b.map v8⟩,⟨g1,189,h.map v64⟩]) (fun i _=>8-(intOf i).toNat)
     case atStart=>exact⟨0,by omega,rfl,hm⟩
     case round =>
       obtain⟨k,hk,rfl,hm⟩:=hrel
       by_cases hlt:k<8
       · have hd:decide ((k:Int)<8)=true:=by simp;omega
         go_wp2_with fail
         have sl:=startF_length h k
         have o1:=hm.turn64 (g:=g6) (k:=k) (b:=nth h k) (by repeat (first|exact Swap.hd|assumption|apply Swap.tl))
         have o2:=o1.turn64 (g:=g6) (k:=k+8) (b:=nth firstL k) (by repeat (first|exact Swap.hd|assumption|apply Swap.tl))
         have r6:=hm.row (g:=g6) (by repeat (first|exact Has.hd|assumption|apply Has.tl))
         have hcH:wr.cell? ⟨g1,k,none⟩=some (v64 (nth h k)):=by rw [row_cell (hm.row (g:=g1) (by repeat (first|exact Has.hd|assumption|apply Has.tl))),map64_at h (by omega)]
         have hcF:=(HC.out.ext hm.x).1 k hlt
         have hcV:wr.cell? ⟨g6,k,none⟩=some (v64 (nth (startF h k) k)):=by rw [row_cell r6,map64_at _ (by omega)]
         have hcW:wr.cell? ⟨g6,k+8,none⟩=some (v64 (nth (startF h k) (k+8))):=by rw [row_cell r6,map64_at _ (by omega)]
         have hf1:=row_free r6 k
         have hf2:=row_free r6 (k+8)
         have hne:¬k=k+8:=by omega
         have hk8:(k:Int)<8:=by omega
         have O2:=hid o2
         clear o1 o2 r6 hm
         go_region
         all_goals
           go_wp2_with fail
           go_roundw
           case rel=>exact⟨k+1,by omega,by go_num,O2.out.drew⟩
           case measure=>simp [intOf]<;>omega
       · obtain rfl : k = 8:=by omega
         have hs:=startF_length h 8
         have hmb:(mL b).length=16:=tab_length
         have hi0:=HI.out
         have REST:=hid (show roundF (mL b) V 0=V from rfl)
         have e2:∀v0,startF h 8=v0→V=if last then notN (xorN (xorN v0 12 lo) 13 hi) 14 else xorN (xorN v0 12 lo) 13 hi:=by rintro v0 rfl;rw [←HV.out];rfl
         obtain⟨v0,hv0⟩:∃v0,startF h 8=v0:=⟨_,rfl⟩
         have e3:=e2 v0 hv0
         rw [hv0]at hm hs
         clear e2 hv0
         cases last
         all_goals
           simp only [Bool.false_eq_true,if_true,if_false]at e3
           have E3:=hid e3
           clear e3
           go_wp2_with (first|((with_reducible show qLd);first|(refine zA hm ?_)|(refine zC hm ?_))|((((with_reducible show qSt);first|(refine zD hm ?_)));clear hm;intro w hm))
           first
             | (replace hm:Own w0 w [⟨g6,233,(xorN (xorN v0 12 lo) 13 hi).map v64⟩,⟨g5,233,(mL b).map v64⟩,⟨g4,189,(zer (n:=64) 8).map v64⟩,⟨g3,191,[v64 lo,v64 hi]⟩,⟨g2,215,b.map v8⟩,⟨g1,189,h.map v64⟩]:=hm
                rw [←E3.out]at hm)
             | (replace hm:Own w0 w [⟨g6,233,(notN (xorN (xorN v0 12 lo) 13 hi) 14).map v64⟩,⟨g5,233,(mL b).map v64⟩,⟨g4,189,(zer (n:=64) 8).map v64⟩,⟨g3,191,[v64 lo,v64 hi]⟩,⟨g2,215,b.map v8⟩,⟨g1,189,h.map v64⟩]:=hm
                rw [←E3.out]at hm)
           rw [←REST.out]at hm
           clear REST E3
           generalize mL b=M at*
           have hm1:=Nat.le_of_eq hmb
           have hm2:=Nat.le_of_eq hmb.symm
           go_wp2_with fail
           go_loopw [59] (fun i wr=>∃r:Nat,r≤12∧i= .int .i64 r∧Own w0 wr [⟨g6,233,(roundF M V r).map v64⟩,⟨g5,233,(M).map v64⟩,⟨g4,189,(zer (n:=64) 8).map v64⟩,⟨g3,191,[v64 lo,v64 hi]⟩,⟨g2,215,b.map v8⟩,⟨g1,189,h.map v64⟩]) (fun i _=>12-(intOf i).toNat)
           case atStart=>exact⟨0,by omega,rfl,hm⟩
           case round =>
             obtain⟨r,hr,rfl,hm⟩:=hrel
             by_cases hlt:r<12
             · have hd : decide ((r:Int)<12)=true:=by simp;omega
               obtain⟨q,hq,hq4⟩:∃q:Nat,r%10=q∧q<10:=⟨_,rfl,Nat.mod_lt _ (by omega)⟩
               have a1:(r:Int)%10=(q:Int):=by omega
               have a2:(r:Int).tmod 10=(q:Int):=by rw [Int.tmod_eq_emod_of_nonneg (by omega)];exact a1
               have hq10:(q:Int)<10:=by omega
               have e1:roundF M V (r+1)=stepF M (rowL q) (roundF M V r) 8:=by rw [roundF,←hq];simp only [rowL,Nat.mod_mod]
               have lR:(rowL q).length=16:=rowL_length q
               have ltR:=rowL_lt q
               have RQ:=hid (HC.out.row q hq4)
               have lv:(roundF M V r).length=16:=by rw [roundF_length,hi0]
               generalize roundF M V r=W0 at*
               generalize rowL q=RW at*
               have E1:=hid e1
               have LTR:=hid ltR
               clear e1 ltR hq
               go_wp2_with (first|((with_reducible apply wq_rdW (RQ.out.ext (hm.x)));exact rfl;infer_instance;exact rfl;exact lR)|((((with_reducible show qSt);first|(refine zE hm ?_)));clear hm;intro w hm)|((first|((with_reducible show qAl);first|(refine zG hm ?_)));clear hm;(first|(have hx_:=g1;clear hx_;(first|(have hx_:=g2;clear hx_;(first|(have hx_:=g3;clear hx_;(first|(have hx_:=g4;clear hx_;(first|(have hx_:=g5;clear hx_;(first|(have hx_:=g6;clear hx_;(first|(have hx_:=g7;clear hx_;intro gx_)|intro g7))|intro g6))|intro g5))|intro g4))|intro g3))|intro g2))|intro g1);intro w hm))
               go_loopw [66] (fun i wr=>∃k:Nat,k≤8∧i= .int .i64 k∧Own w0 wr [⟨g7,132,RW.map v8⟩,⟨g6,233,(stepF M RW W0 k).map v64⟩,⟨g5,233,M.map v64⟩,⟨g4,189,(zer (n:=64) 8).map v64⟩,⟨g3,191,[v64 lo,v64 hi]⟩,⟨g2,215,b.map v8⟩,⟨g1,189,h.map v64⟩]) (fun i _=>8-(intOf i).toNat)
               case atStart=>exact⟨0,by omega,rfl,hm⟩
               case round =>
                 obtain⟨k,hk,rfl,hm⟩:=hrel
                 by_cases hlt:k<8
                 · have hd:decide ((k:Int)<8)=true:=by simp;omega
                   obtain⟨qi,hqi,hqi4⟩:∃q:Nat,k%4=q∧q<4:=⟨_,rfl,Nat.mod_lt _ (by omega)⟩
                   obtain⟨di,hdi,hdi4⟩:∃q:Nat,k/4=q∧q<2:=⟨_,rfl,by omega⟩
                   have a1:(k:Int)%4=(qi:Int):=by omega
                   have a2:(k:Int).tmod 4=(qi:Int):=by rw [Int.tmod_eq_emod_of_nonneg (by omega)];exact a1
                   have a3:(k:Int)/4=(di:Int):=by omega
                   have a4:(k:Int).tdiv 4=(di:Int):=by rw [Int.tdiv_eq_ediv_of_nonneg (by omega)];exact a3
                   have b1:2*(k:Int)<16:=by omega
                   have b2:0≤2*(k:Int):=by omega
                   have b3:(2*(k:Int)).toNat=2*k:=by omega
                   have b4:2*(k:Int)+1<16:=by omega
                   have b5:0≤2*(k:Int)+1:=by omega
                   have b6:(2*(k:Int)+1).toNat=2*k+1:=by omega
                   have c1:=LTR.out (2*k)
                   have c2:=LTR.out (2*k+1)
                   have c3:((nth RW (2*k)).toNat:Int)<16:=by omega
                   have c4:((nth RW (2*k+1)).toNat:Int)<16:=by omega
                   have e2:stepF M RW W0 (k+1)=stirL (stepF M RW W0 k) qi di (nth M (nth RW (2*k)).toNat) (nth M (nth RW (2*k+1)).toNat):=by rw [stepF,hqi,hdi]
                   have E2:=hid e2
                   have lsF:(stepF M RW W0 k).length=16:=by rw [stepF_length,lv]
                   clear e2 hqi hdi
                   go_wp2_with fail
                   refine rgE 17 107 ?_
                   simp only [tSC,tZe,dSC,dZe,mCo,mNi]
                   repeat (first
                       | (apply walk_is rfl rfl rfl
                          · (intro wx hwx;first|((with_reducible show qGl);first|(exact zJ (hm.ext hwx)))|(go_simp;(try go_bits);first|exact gives_same|exact gives_skip))
                          · (simp only [Act.put,sIB,sCS,sCZ];rfl))
                       | (apply walk_not rfl rfl rfl
                          · (simp only [Act.put,sIB,sCS,sCZ];rfl)))
                   intro wz hwz
                   simp only [zCC,zNR]
                   repeat (first|rw [fin_is]|(rw [fin_cons];intro _ _))
                   rw [fin_nil]
                   try (replace hm:=hm.ext hwz)
                   simp only [Act.put,sIB,sCS,sCZ]
                   go_wp2_with fail
                   refine(stir_any g6 (stepF M RW W0 k) qi di _ _ lsF hqi4 hdi4 w0 _ _ _ hm (by repeat (first|exact Swap.hd|assumption|apply Swap.tl))).mono ?_
                   rintro e w ⟨rfl,hm⟩
                   rw [←E2.out]at hm
                   go_wp2
                   go_roundw
                   case rel=>exact⟨k+1,by omega,by go_num,hm⟩
                   case measure=>simp [intOf]<;>omega
                 · obtain rfl:k=8:=by omega
                   rw [←E1.out]at hm
                   go_wp2_with fail
                   go_roundw
                   case rel=>exact⟨r+1,by omega,by go_num,hm.drop⟩
                   case measure=>simp [intOf]<;>omega
             · obtain rfl :r=12:=by omega
               rw [show((12:Nat):Int)=12 from rfl]
               have lv:(roundF M V 12).length=16:=by rw [roundF_length,hi0]
               generalize roundF M V 12=Z at*
               rw [part_start (f:=fun i=>nth h i^^^(nth Z i^^^nth Z (i+8))) HH.out]at hm
               go_wp2_with fail
               go_loopw [89] (fun i wr=>∃k:Nat,k≤8∧i= .int .i64 k∧Own w0 wr [⟨g6,233,Z.map v64⟩,⟨g5,233,M.map v64⟩,⟨g4,189,(zer (n:=64) 8).map v64⟩,⟨g3,191,[v64 lo,v64 hi]⟩,⟨g2,215,b.map v8⟩,⟨g1,189,(part 8 k (fun i=>nth h i^^^(nth Z i^^^nth Z (i+8))) (nth h)).map v64⟩]) (fun i _=>8-(intOf i).toNat)
               case atStart=>exact⟨0,by omega,rfl,hm⟩
               case round =>
                 obtain⟨k,hk,rfl,hm⟩:=hrel
                 by_cases hlt:k<8
                 · have e1:nth (part 8 k (fun i=>nth h i^^^(nth Z i^^^nth Z (i+8))) (nth h)) k=nth h k:=nth_part_ge hlt (Nat.le_refl _)
                   have hd:decide ((k:Int)<8)=true:=by simp;omega
                   have b1:(k:Int)<8:=by omega
                   have b2:(k:Int)<16:=by omega
                   have b3:(k:Int)+8<16:=by omega
                   have b4:0≤(k:Int)+8:=by omega
                   have b5:((k:Int)+8).toNat=k+8:=by omega
                   go_wp2_with fail
                   refine rgE 13 107 ?_
                   simp only [tSC,tZe,dSC,dZe,mCo,mNi]
                   repeat (first
                       | (apply walk_is rfl rfl rfl
                          · (intro wx hwx;first|((with_reducible show qGl);first|(exact zJ (hm.ext hwx)))|(go_simp;(try go_bits);first|exact gives_same|exact gives_skip))
                          · (simp only [Act.put,sIB,sCS,sCZ];rfl))
                       | (apply walk_not rfl rfl rfl
                          · (simp only [Act.put,sIB,sCS,sCZ];rfl)))
                   intro wz hwz
                   simp only [zCC,zNR]
                   repeat (first|rw [fin_is]|(rw [fin_cons];intro _ _))
                   rw [fin_nil]
                   try (replace hm:=hm.ext hwz)
                   simp only [Act.put,sIB,sCS,sCZ]
                   go_wp2_with (first|((((with_reducible show qSt);first|(refine zD hm ?_)));clear hm;intro w hm))
                   go_roundw
                   case rel=>
                     rw [part_set' hlt rfl]at hm
                     exact⟨k+1,by omega,by go_num,hm⟩
                   case measure=>simp [intOf]<;>omega
                 · obtain rfl:k=8:=by omega
                   rw [part_all,←EC.out]at hm
                   go_wp2_with (first|((with_reducible show qLd);first|(refine zB hm ?_))|((((with_reducible show qSt);first|(refine zE hm ?_)));clear hm;intro w hm))
                   refine ret_own hm rfl rfl (by infer_instance) (by repeat (first|exact Has.hd|assumption|apply Has.tl)) (by first|rfl|omega|(simp only [zeros_length,zer_length,tab_length,part_length,setN_length,List.length_map,List.length_cons,List.length_nil,List.length_append,List.length_take,List.length_drop,List.length_replicate,blk_length,putL_length]<;>omega)) rfl ⟨rfl,hm.x⟩
end Go.Proofs.YtneacgpmjlocjaaGreatDoor
