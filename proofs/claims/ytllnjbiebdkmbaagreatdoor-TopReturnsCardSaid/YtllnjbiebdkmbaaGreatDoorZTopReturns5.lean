/-
  Texts of the program, walked, and plain ones. Conditions: those written in each theorem.
-/
import Derived.Test.YtllnjbiebdkmbaaGreatDoorZTopReturns0
import Derived.Test.YtllnjbiebdkmbaaGreatDoorZTopReturns3
import Derived.Test.YtllnjbiebdkmbaaGreatDoorZTopReturns4
import Derived.WalkKit
import Derived.ProofKit
import Derived.OpenShut
import Derived.ShutString
import Derived.ChangeOld
import Derived.Below
import Derived.Deep.Slices
import Derived.RegionTactic
import Derived.ChangeAlike
import Derived.ArgAppend
set_option linter.unusedSimpArgs false
set_option linter.unusedVariables false
set_option maxHeartbeats 16000000
namespace Go.Proofs.YtllnjbiebdkmbaaGreatDoor
open Go
def dbl(a:Byte):Byte:=(a<<<1)^^^((a>>>7)*27#8)
def tmsG:Nat→Byte→Byte→Byte
 |0,_,_=>0#8
 |n+1,a,b=>(a*(b&&&1#8))^^^tmsG n (dbl a) (b>>>1)
def tms(a b:Byte):Byte:=tmsG 8 a b
theorem bit_cases(b:Byte):b&&&1#8=0#8∨b&&&1#8=1#8:=by revert b;decide+kernel
theorem bit_mul(a x y:Byte):a*((x^^^y)&&&1#8)=(a*(x&&&1#8))^^^(a*(y&&&1#8)):=by
 have e:(x^^^y)&&&1#8=(x&&&1#8)^^^(y&&&1#8):=by
   apply BitVec.eq_of_getLsbD_eq;intro i hi;simp only [BitVec.getLsbD_and,BitVec.getLsbD_xor];cases x.getLsbD i<;>cases y.getLsbD i<;>simp
 rw [e]
 rcases bit_cases x with h|h<;>rcases bit_cases y with k|k<;>rw [h,k]<;>simp
theorem xor4(a b c d:Byte):(a^^^b)^^^(c^^^d)=(a^^^c)^^^(b^^^d):=by
 ac_rfl
theorem tmsG_xb(n:Nat):∀a x y:Byte,tmsG n a (x^^^y)=tmsG n a x^^^tmsG n a y:=by
 induction n with
 |zero=>intros;simp [tmsG]
 |succ n ih=>intro a x y;rw [tmsG,tmsG,tmsG,BitVec.ushiftRight_xor_distrib,ih,bit_mul,xor4]
theorem tmsG_zero(n:Nat):∀a:Byte,tmsG n a 0#8=0#8:=by
 induction n with
 |zero=>intros;rfl
 |succ n ih=>intro a;rw [tmsG];simp [ih]
theorem tms_xb(a x y:Byte):tms a (x^^^y)=tms a x^^^tms a y:=tmsG_xb 8 a x y
def tmsF:Nat→Byte→Byte→Byte→Byte
 |0,_,_,s=>s
 |n+1,a,b,s=>tmsF n (dbl a) (b>>>1) (s^^^(a*(b&&&1#8)))
theorem tmsF_tmsG(n:Nat):∀a b s:Byte,tmsF n a b s=s^^^tmsG n a b:=by
 induction n with
 |zero=>intros;simp [tmsF,tmsG]
 |succ n ih=>intro a b s;rw [tmsF,ih,tmsG,BitVec.xor_assoc]
theorem tmsF_tms(a b:Byte):tmsF 8 a b 0#8=tms a b:=by rw [tmsF_tmsG];simp [tms]
theorem tmsF_end(n:Nat)(a s:Byte):tmsF n a 0#8 s=s:=by rw [tmsF_tmsG,tmsG_zero];simp
theorem xor_zero {x y:Byte}(h:x^^^y=0#8):x=y:=BitVec.xor_eq_zero_iff.1 h
/-! ### Powers -/
def gpow(a:Byte):Nat→Byte
 |0=>1#8
 |n+1=>tms (gpow a n) a
def pwS:Nat→Byte→Byte→Nat→Byte
 |0,out,_,_=>out
 |f+1,out,a,n=>pwS f (if n%2=1 then tms out a else out) (tms a a) (n/2)
def inv(a:Byte):Byte:=pwS 8 1#8 a 254
/-! ### The reference's product: polynomials, and their rest -/
def sel(c:Bool)(x:BitVec 16):BitVec 16:=if c then x else 0#16
def rp(a b:Byte):Nat→BitVec 16
 |0=>0#16
 |k+1=>rp a b k^^^sel (b.getLsbD k) (a.setWidth 16<<<k)
def rr(p:BitVec 16):Nat→BitVec 16
 |0=>p
 |j+1=>rr p j^^^sel ((rr p j).getLsbD (14-j)) (283#16<<<(6-j))
def rtms(a b:Byte):Byte:=(rr (rp a b 8) 7).setWidth 8
/-! ### Boxes -/
def rotl8(x:Byte)(k:Nat):Byte:=(x<<<k)|||(x>>>(8-k))
def boxF(i:Byte):Nat→Byte
 |0=>99#8
 |k+1=>boxF i k^^^rotl8 i k
def sbox(a:Byte):Byte:=boxF (inv a) 5
def pws:Nat→Byte
 |0=>1#8
 |k+1=>pws k^^^dbl (pws k)
def putT(l:List Byte)(a b:Byte):List Byte:=setN (setN l a.toNat b) (256+b.toNat) a
def tabT:Nat→List Byte
 |0=>putT (zer 512) 0#8 (boxF 0#8 5)
 |k+1=>putT (tabT k) (pws k) (boxF (pws ((255-k)%255)) 5)
theorem putT_length(l:List Byte)(a b:Byte):(putT l a b).length=l.length:=by simp [putT]
theorem tabT_length(k:Nat):(tabT k).length=512:=by
 induction k with
 |zero=>simp [tabT,putT_length]
 |succ k ih=>rw [tabT,putT_length,ih]
def tabs:List Byte:=tabT 255
theorem tabs_length:tabs.length=512:=tabT_length 255
def bxTo(a:Byte):Byte:=nth tabs a.toNat
def bxBack(a:Byte):Byte:=nth tabs (256+a.toNat)
/-! ### The table, written out -/
def tabsL:List Byte:=[
 99#8,124#8,119#8,123#8,242#8,107#8,111#8,197#8,48#8,1#8,103#8,43#8,254#8,215#8,171#8,118#8,202#8,130#8,201#8,125#8,250#8,89#8,71#8,240#8,173#8,212#8,162#8,175#8,156#8,164#8,114#8,192#8,
 183#8,253#8,147#8,38#8,54#8,63#8,247#8,204#8,52#8,165#8,229#8,241#8,113#8,216#8,49#8,21#8,4#8,199#8,35#8,195#8,24#8,150#8,5#8,154#8,7#8,18#8,128#8,226#8,235#8,39#8,178#8,117#8,
 9#8,131#8,44#8,26#8,27#8,110#8,90#8,160#8,82#8,59#8,214#8,179#8,41#8,227#8,47#8,132#8,83#8,209#8,0#8,237#8,32#8,252#8,177#8,91#8,106#8,203#8,190#8,57#8,74#8,76#8,88#8,207#8,
 208#8,239#8,170#8,251#8,67#8,77#8,51#8,133#8,69#8,249#8,2#8,127#8,80#8,60#8,159#8,168#8,81#8,163#8,64#8,143#8,146#8,157#8,56#8,245#8,188#8,182#8,218#8,33#8,16#8,255#8,243#8,210#8,
 205#8,12#8,19#8,236#8,95#8,151#8,68#8,23#8,196#8,167#8,126#8,61#8,100#8,93#8,25#8,115#8,96#8,129#8,79#8,220#8,34#8,42#8,144#8,136#8,70#8,238#8,184#8,20#8,222#8,94#8,11#8,219#8,
 224#8,50#8,58#8,10#8,73#8,6#8,36#8,92#8,194#8,211#8,172#8,98#8,145#8,149#8,228#8,121#8,231#8,200#8,55#8,109#8,141#8,213#8,78#8,169#8,108#8,86#8,244#8,234#8,101#8,122#8,174#8,8#8,
 186#8,120#8,37#8,46#8,28#8,166#8,180#8,198#8,232#8,221#8,116#8,31#8,75#8,189#8,139#8,138#8,112#8,62#8,181#8,102#8,72#8,3#8,246#8,14#8,97#8,53#8,87#8,185#8,134#8,193#8,29#8,158#8,
 225#8,248#8,152#8,17#8,105#8,217#8,142#8,148#8,155#8,30#8,135#8,233#8,206#8,85#8,40#8,223#8,140#8,161#8,137#8,13#8,191#8,230#8,66#8,104#8,65#8,153#8,45#8,15#8,176#8,84#8,187#8,22#8,
 82#8,9#8,106#8,213#8,48#8,54#8,165#8,56#8,191#8,64#8,163#8,158#8,129#8,243#8,215#8,251#8,124#8,227#8,57#8,130#8,155#8,47#8,255#8,135#8,52#8,142#8,67#8,68#8,196#8,222#8,233#8,203#8,
 84#8,123#8,148#8,50#8,166#8,194#8,35#8,61#8,238#8,76#8,149#8,11#8,66#8,250#8,195#8,78#8,8#8,46#8,161#8,102#8,40#8,217#8,36#8,178#8,118#8,91#8,162#8,73#8,109#8,139#8,209#8,37#8,
 114#8,248#8,246#8,100#8,134#8,104#8,152#8,22#8,212#8,164#8,92#8,204#8,93#8,101#8,182#8,146#8,108#8,112#8,72#8,80#8,253#8,237#8,185#8,218#8,94#8,21#8,70#8,87#8,167#8,141#8,157#8,132#8,
 144#8,216#8,171#8,0#8,140#8,188#8,211#8,10#8,247#8,228#8,88#8,5#8,184#8,179#8,69#8,6#8,208#8,44#8,30#8,143#8,202#8,63#8,15#8,2#8,193#8,175#8,189#8,3#8,1#8,19#8,138#8,107#8,
 58#8,145#8,17#8,65#8,79#8,103#8,220#8,234#8,151#8,242#8,207#8,206#8,240#8,180#8,230#8,115#8,150#8,172#8,116#8,34#8,231#8,173#8,53#8,133#8,226#8,249#8,55#8,232#8,28#8,117#8,223#8,110#8,
 71#8,241#8,26#8,113#8,29#8,41#8,197#8,137#8,111#8,183#8,98#8,14#8,170#8,24#8,190#8,27#8,252#8,86#8,62#8,75#8,198#8,210#8,121#8,32#8,154#8,219#8,192#8,254#8,120#8,205#8,90#8,244#8,
 31#8,221#8,168#8,51#8,136#8,7#8,199#8,49#8,177#8,18#8,16#8,89#8,39#8,128#8,236#8,95#8,96#8,81#8,127#8,169#8,25#8,181#8,74#8,13#8,45#8,229#8,122#8,159#8,147#8,201#8,156#8,239#8,
 160#8,224#8,59#8,77#8,174#8,42#8,245#8,176#8,200#8,235#8,187#8,60#8,131#8,83#8,153#8,97#8,23#8,43#8,4#8,126#8,186#8,119#8,214#8,38#8,225#8,105#8,20#8,99#8,85#8,33#8,12#8,125#8]
theorem tabs_lit:tabs=tabsL:=by decide+kernel
theorem bxTo_lit(a:Byte):bxTo a=nth tabsL a.toNat:=by rw [bxTo,tabs_lit]
theorem bxBack_lit(a:Byte):bxBack a=nth tabsL (256+a.toNat):=by rw [bxBack,tabs_lit]
theorem back_to(a:Byte):bxBack (bxTo a)=a:=by rw [bxBack_lit,bxTo_lit];revert a;decide+kernel
def rbit(a:Byte)(k:Nat):Byte:=a>>>(k%8)%2#8
def rbx(i:Byte):Nat→Byte
 |0=>0#8
 |k+1=>rbx i k|||((rbit i k^^^rbit i (k+7)^^^rbit i (k+6)^^^rbit i (k+5)^^^rbit i (k+4)^^^rbit 99#8 k)<<<k)
open Go Go.RowKit Go.ChangeShapes Go.WideShapes Go.ChangeAt Go.Deep
set_option maxRecDepth 100000
def Trd {H:Type}(enc:TypeId×Value→H)(P:Program)(w:World)(T:TypeId)(cs:List Value):Prop:=∃fuel x,DataW.trod enc P w 0 (fun _=>true) true fuel T cs=some x
section
variable {H:Type} {enc:TypeId×Value→H} {P:Program} {w:World} {T e:TypeId} {cs:List Value}
theorem Trd.of {v:Value}{d:DataW H}{p:List MemPlace}(h:DataW.Trod enc P w 0 (fun _=>true) true T v d p):Trd enc P w T v.cells.toList:=by
 obtain⟨f,hf⟩:=h;exact⟨f,_,hf⟩
theorem Trd.cells {v:Value}{cs:List Value}(h:Trd enc P w T v.cells.toList)(he:v.cells.toList=cs):Trd enc P w T cs:=he ▸ h
theorem okWide_agg {r:Reach}{base:Nat}{v:Value}(hT:((P.underlying T).map fun d=>d.isRow)=some true)(h:Value.okWide P w r base T v):∃cs:List Value,v= .agg cs.toArray:=by
 obtain⟨d,hu,hd⟩:=Option.map_eq_some_iff.1 hT
 simp only [Value.okWide,hu]at h
 cases d<;>simp [TypeDesc.isRow]at hd
 all_goals
   obtain⟨cs,h1,_⟩:=h
   exact⟨cs.toList,by rw [h1]⟩
theorem Trd.int {k:IntKind}(ht:P.underlying T=some (.int k))(h:Trd enc P w T cs):∃n,cs=[.int k n]∧(Lit.int k n).wf=true:=by
 obtain⟨f,x,hf⟩:=h
 obtain⟨n,h1,_,h2⟩:=DataW.trod_int ht hf
 exact⟨n,h1,h2⟩
theorem Trd.u8(ht:P.underlying T=some (.int .u8))(h:Trd enc P w T cs):∃x:BitVec 8,cs=[v8 x]:=by
 obtain⟨n,rfl,hw⟩:=h.int ht;exact⟨_,by rw [int_v8 _ hw]⟩
theorem Trd.u16(ht:P.underlying T=some (.int .u16))(h:Trd enc P w T cs):∃x:BitVec 16,cs=[v16 x]:=by
 obtain⟨n,rfl,hw⟩:=h.int ht;exact⟨_,by rw [int_v16 _ hw]⟩
theorem Trd.u32(ht:P.underlying T=some (.int .u32))(h:Trd enc P w T cs):∃x:BitVec 32,cs=[v32 x]:=by
 obtain⟨n,rfl,hw⟩:=h.int ht;exact⟨_,by rw [int_v32 _ hw]⟩
theorem Trd.u64(ht:P.underlying T=some (.int .u64))(h:Trd enc P w T cs):∃x:BitVec 64,cs=[v64 x]:=by
 obtain⟨n,rfl,hw⟩:=h.int ht;exact⟨_,by rw [int_v64 _ hw]⟩
theorem Trd.i64(ht:P.underlying T=some (.int .i64))(h:Trd enc P w T cs):∃n:Int,cs=[.int .i64 n]∧-9223372036854775808≤n∧n≤9223372036854775807:=by
 obtain⟨n,rfl,hw⟩:=h.int ht;exact⟨n,rfl,int_i64 n hw⟩
theorem Trd.bool(ht:P.underlying T=some .bool)(h:Trd enc P w T cs):∃b:Bool,cs=[.bool b]:=by
 obtain⟨f,x,hf⟩:=h
 obtain⟨b,h1,_⟩:=DataW.trod_bool ht hf
 exact⟨b,h1⟩
theorem Trd.arr {n s m:Nat}(ht:P.underlying T=some (.array n e))(hc:P.cellsOf e=s)(hm:P.cellsOf T=m)(h:Trd enc P w T cs):cs.length=m∧∀i,i<n→Trd enc P w e ((cs.drop (i*s)).take s):=by
 obtain⟨f,x,hf⟩:=h
 obtain⟨xs,m',rfl,rfl,h1,h2,h3⟩:=DataW.trod_array ht hf
 subst hc hm
 exact⟨h1,fun i hi=>⟨m',xs[i]'(by omega),by rw [h3 i hi];exact List.getElem?_eq_getElem (by omega)⟩⟩
theorem Trd.struct {fs:Array Field}{m:Nat}(ht:P.underlying T=some (.struct fs))(hm:P.cellsOf T=m)(h:Trd enc P w T cs):cs.length=m∧∀(i:Nat)(f:Field),fs[i]? =some f→Trd enc P w f.type ((cs.drop f.offset).take (P.cellsOf f.type)):=by
 obtain⟨f,x,hf⟩:=h
 obtain⟨xs,m',rfl,rfl,h1,h2,h3⟩:=DataW.trod_struct ht hf
 subst hm
 refine⟨h1,fun i f hi=> ?_⟩
 have hlt:i<xs.length:=by rw [h2];exact(Array.getElem?_eq_some_iff.1 hi).1
 exact⟨m',xs[i],by rw [h3 i f hi];exact List.getElem?_eq_getElem hlt⟩
theorem Trd.field {fs:Array Field}{i off n:Nat}{ft:TypeId}(h:∀(i:Nat)(f:Field),fs[i]? =some f→Trd enc P w f.type ((cs.drop f.offset).take (P.cellsOf f.type)))(hf:(fs[i]?).map (fun f=>(f.type,f.offset))=some (ft,off))(hn:P.cellsOf ft=n):Trd enc P w ft ((cs.drop off).take n):=by
 obtain⟨f,hf1,hf2⟩:=Option.map_eq_some_iff.1 hf
 simp only [Prod.mk.injEq]at hf2
 obtain⟨rfl,rfl⟩:=hf2
 subst hn
 exact h i f hf1
theorem glue(cs:List Value)(off n:Nat):cs.drop off=(cs.drop off).take n++cs.drop (off+n):=by
 rw [←List.drop_drop,List.take_append_drop]
theorem arr_cells {α :Type}(f: α →Value)(n:Nat)(cs:List Value)(hl:cs.length=n)(h:∀i,i<n→∃x,(cs.drop i).take 1=[f x]):∃l:List α,l.length=n∧cs=l.map f:=by
 induction n generalizing cs with
 |zero=>exact⟨[],rfl,by simpa using hl⟩
 | succ n ih=>
   cases cs with
   |nil=>simp at hl
   | cons c cs=>
     obtain⟨x,hx⟩:=h 0 (by omega)
     simp at hx
     obtain⟨l,h1,h2⟩:=ih cs (by simpa using hl) (fun i hi=>by have:=h (i+1) (by omega);simpa using this)
     exact⟨x::l,by simp [h1],by simp [hx,h2]⟩
theorem Trd.arr8 {n:Nat}(ht:P.underlying T=some (.array n e))(he:P.underlying e=some (.int .u8))(hc:P.cellsOf e=1)(hm:P.cellsOf T=n)(h:Trd enc P w T cs):∃l:List (BitVec 8),l.length=n∧cs=l.map v8:=by
 obtain⟨h1,h2⟩:=h.arr ht hc hm
 exact arr_cells v8 n cs h1 fun i hi=>by have:=(h2 i hi).u8 he;simpa using this
theorem Trd.bytes(ht:P.underlying T=some (.slice e))(he:P.underlying e=some (.int .u8))(hc:P.cellsOf e=1)(h:Trd enc P w T cs):∃(p:Option Addr)(l:List Byte)(c:Nat),cs=[.slice p l.length c]∧RdB w p l∧l.length≤c∧l.length≤maxLen:=by
 obtain⟨f,x,hf⟩:=h
 rcases open_ints ht he hc hf with ⟨rfl,_⟩|⟨a,len,cap,zs,rfl,_,hl,hm,hz,_,hcell,hwz⟩
 · exact⟨none,[],0,rfl,RdB.nil _ _,Nat.le_refl _,by simp⟩
 · obtain⟨l,h1,h2,h3,h4⟩:=rdB_of (w:=w) (a:=some a) (len:=len) (cap:=cap) (zs:=zs) (.inr ⟨a,rfl,hl,hm,by simpa using hz,hcell,hwz⟩)
   exact⟨some a,l,cap,by rw [h1],h2,h3,h4⟩
def RdR(w:World)(p:Option Addr)(ls:List (List Byte)):Prop:=
 (0<ls.length→p.isSome=true)∧∀i,i<ls.length→∃(q:Option Addr)(c:Nat),w.cell? ((p.getD default).add i)=some (.slice q (ls.getD i []).length c)∧RdB w q (ls.getD i [])∧(ls.getD i []).length≤c∧(ls.getD i []).length≤maxLen
theorem RdR.ext {w w':World}{p:Option Addr}{ls:List (List Byte)}(h:RdR w p ls)(hx:Ext w w'):RdR w' p ls:=
 ⟨h.1,fun i hi=>by obtain⟨q,c,h1,h2,h3⟩:=h.2 i hi;exact⟨q,c,hx.cell h1,h2.ext hx,h3⟩⟩
theorem Trd.rows {q:TypeId}(ht:P.underlying T=some (.slice e))(he:P.underlying e=some (.slice q))(hq:P.underlying q=some (.int .u8))(hc:P.cellsOf e=1)(hcq:P.cellsOf q=1)(h:Trd enc P w T cs):
   ∃(p:Option Addr)(ls:List (List Byte))(c:Nat),cs=[.slice p ls.length c]∧RdR w p ls∧ls.length≤c∧ls.length≤maxLen:=by
 obtain⟨f,x,hf⟩:=h
 rcases open_slice1 ht hc hf with ⟨rfl,_⟩|⟨a,len,cap,m,n,V,D,Pl,rfl,_,hl,hm,hmm,_,hel⟩
 · exact⟨none,[],0,rfl,⟨by simp,by simp⟩,Nat.le_refl _,by simp⟩
 · simp only [if_true]at hmm
   have each:∀i,i<len→∃l:List Byte,∃(q':Option Addr)(c:Nat),V i= .slice q' l.length c∧RdB w q' l∧l.length≤c∧l.length≤maxLen:=fun i hi=>by
     obtain⟨p',l,c',h1,h2,h3,h4⟩:=Trd.bytes (cs:=[V i]) he hq hcq ⟨n,_,(hel i (by omega)).2⟩
     exact⟨l,p',c',by simpa using h1,h2,h3,h4⟩
   have : ∃ ls:List (List Byte),ls.length=len∧∀i,i<len→∃(q':Option Addr)(c:Nat),V i= .slice q' (ls.getD i []).length c∧RdB w q' (ls.getD i [])∧(ls.getD i []).length≤c∧(ls.getD i []).length≤maxLen:=by
     have key:∀k,k≤len→∃ls:List (List Byte),ls.length=k∧∀i,i<k→∃(q':Option Addr)(c:Nat),V i= .slice q' (ls.getD i []).length c∧RdB w q' (ls.getD i [])∧(ls.getD i []).length≤c∧(ls.getD i []).length≤maxLen:=by
       intro k
       induction k with
       |zero=>intro _;exact⟨[],rfl,by intros;omega⟩
       | succ k ih=>
         intro hk
         obtain⟨ls,h1,h2⟩:=ih (by omega)
         obtain⟨l,hl'⟩:=each k (by omega)
         refine⟨ls++[l],by simp [h1],fun i hi=> ?_⟩
         by_cases hik:i<k
         · have:(ls++[l]).getD i []=ls.getD i []:=by simp [List.getElem?_append_left (show i<ls.length by omega)]
           rw [this];exact h2 i hik
         · have:(ls++[l]).getD i []=l:=by
             have:i=ls.length:=by omega
             subst this;simp
           rw [this]
           have:i=k:=by omega
           subst this;exact hl'
     exact key len (Nat.le_refl _)
   obtain⟨ls,h1,h2⟩:=this
   subst h1
   refine⟨some a,ls,cap,rfl,⟨fun _=>rfl,fun i hi=> ?_⟩,hl,by omega⟩
   obtain⟨q',c,h3,h4⟩:=h2 i hi
   refine⟨q',c, ?_,h4⟩
   rw [←h3]
   exact(hel i (by omega)).1
def RdK(w:World)(p:Option Addr)(n:Nat)(ks:List (List Byte)):Prop:=(∀k∈ks,k.length=n)∧RdB w p ks.flatten
theorem RdK.ext {w w':World}{p:Option Addr}{n:Nat}{ks:List (List Byte)}(h:RdK w p n ks)(hx:Ext w w'):RdK w' p n ks:=⟨h.1,h.2.ext hx⟩
theorem flatten_length(n:Nat):∀(ks:List (List Byte)),(∀k∈ks,k.length=n)→ks.flatten.length=ks.length*n
 |[],_=>by simp
 | k::ks,h=>by
   simp only [List.flatten_cons,List.length_append,flatten_length n ks (fun x hx=>h x (by simp [hx])),h k (by simp),List.length_cons,Nat.succ_mul];omega
theorem flatten_getD(n:Nat):∀(ks:List (List Byte))(i j:Nat),(∀k∈ks,k.length=n)→i<ks.length→j<n→ks.flatten.getD (i*n+j) 0=(ks.getD i []).getD j 0
 |[],_,_,_,h,_=>by simp at h
 | k::ks,0,j,h,_,hj=>by
   have:=h k (by simp)
   simp [List.getElem?_append_left (show j<k.length by omega)]
 | k::ks,i+1,j,h,hi,hj=>by
   have hk:=h k (by simp)
   have:=flatten_getD n ks i j (fun x hx=>h x (by simp [hx])) (by simpa using hi) hj
   simp only [List.flatten_cons,List.getD_eq_getElem?_getD,List.getD_cons_succ]at this⊢
   rw [List.getElem?_append_right (by rw [hk,Nat.succ_mul];omega),hk,show(i+1)*n+j-n=i*n+j from by rw [Nat.succ_mul];omega]
   exact this
/-! ### An argument's value -/
section
variable {r:Reach} {b0:Nat} {v:Value} {d:DataW H} {ps:List MemPlace}
theorem val_agg(hT:((P.underlying T).map fun d=>d.isRow)=some true)(hval:Value.okWide P w r b0 T v)(h:DataW.Trod enc P w 0 (fun _=>true) true T v d ps):∃cs:List Value,v= .agg cs.toArray∧Trd enc P w T cs:=by
 obtain⟨cs,rfl⟩:=okWide_agg hT hval
 exact⟨cs,rfl,(Trd.of h).cells rfl⟩
theorem val_rows {q:TypeId}(ht:P.underlying T=some (.slice e))(he:P.underlying e=some (.slice q))(hq:P.underlying q=some (.int .u8))(hc:P.cellsOf e=1)(hcq:P.cellsOf q=1)(hval:Value.okWide P w r b0 T v)(h:DataW.Trod enc P w 0 (fun _=>true) true T v d ps):
   ∃(p:Option Addr)(ls:List (List Byte))(c:Nat),v= .slice p ls.length c∧RdR w p ls∧ls.length≤c∧ls.length≤maxLen:=by
 obtain⟨a,n,c,rfl⟩:=okWide_slice ht hval
 obtain⟨p,l,c',e,h1⟩:=((Trd.of h).cells (cs:=[.slice a n c]) rfl).rows ht he hq hc hcq
 exact⟨p,l,c',(List.cons.inj e).1,h1⟩
end
end
open Go Go.RowKit
class Elem (P:Program) (e:TypeId) (sz by_:outParam Nat):Prop where
 out:∃i z,P.info? e=some i∧i.zero=some z∧i.size=sz∧i.bytes=by_∧z.cells.size=sz∧0<sz
theorem Elem.of {P:Program}{e:TypeId}{sz by_:Nat}(h:(P.info? e).map (fun i=>(i.zero.map fun z=>z.cells.size,i.size,i.bytes))=some (some sz,sz,by_))(h0:0<sz):Elem P e sz by_:=⟨by
 obtain⟨i,hi,h⟩:=Option.map_eq_some_iff.1 h
 simp only [Prod.mk.injEq]at h
 obtain⟨h1,h2,h3⟩:=h
 obtain⟨z,hz,h4⟩:=Option.map_eq_some_iff.1 h1
 exact⟨i,z,hi,hz,h2,h3,h4,h0⟩⟩
def OwnC(w:World)(B:Nat)(e:TypeId)(sz:Nat)(v:Value)(n:Nat)(cs:List Value):Prop:=w.ownsRow B e sz v n cs
section
variable {w w':World} {B n sz:Nat} {e:TypeId} {v:Value} {cs:List Value}
theorem OwnC.nil(w:World)(B:Nat)(e:TypeId)(sz:Nat):OwnC w B e sz (.slice none 0 0) 0 []:=World.ownsRow_nil w B _ _
theorem OwnC.alloc(h:OwnC w B e sz v n cs)(o:Obj):OwnC (w.alloc o) B e sz v n cs:=World.ownsRow.alloc h o
theorem OwnC.ext(h:OwnC w B e sz v n cs)(hx:Ext w w'):OwnC w' B e sz v n cs:=
 World.ownsRow.kept h (row:=none) ⟨hx.os,hx.tape,hx.output,hx.size,fun k hk _=>Below.block hx k hk⟩ (by cases hv:v.ownBlock<;>simp)
theorem OwnC.lt(h:OwnC w B e sz v n cs):∀k,v.ownBlock=some k→B≤k∧k<w.heap.size:=World.ownsRow.lt h
theorem OwnC.len(h:OwnC w B e sz v n cs):cs.length=n*sz:=h.1
theorem OwnC.slice(h:OwnC w B e sz v n cs):∃(p:Option Addr)(c:Nat),v= .slice p n c∧n≤c∧c≤maxLen∧(0<n→p.isSome=true)∧∀(j:Nat)(u:Value),cs[j]? =some u→w.cell? ((p.getD default).add j)=some u:=by
 obtain⟨h1,h2⟩:=h
 rcases h2 with ⟨rfl,h0⟩|⟨g,cap,cur,rfl,hg,hh,hn,hc,hs,ht⟩
 · subst h0
   have:cs=[]:=List.eq_nil_of_length_eq_zero (by simpa using h1)
   subst this
   exact⟨none,0,rfl,Nat.le_refl _,by simp [maxLen],by simp,by simp⟩
 · refine⟨some ⟨g,0,none⟩,cap,rfl,hn,hc,fun _=>rfl,fun j u hj=> ?_⟩
   have e':(⟨g,0,none⟩:Addr).add j=⟨g,j,none⟩:=by simp [Addr.add];omega
   show w.cell? ((⟨g,0,none⟩:Addr).add j)=_
   rw [e',cell_of_row w g j cur _ _ hh]
   rw [←ht,List.getElem?_take]at hj
   split at hj
   · rw [←Array.getElem?_toList];exact hj
   · cases hj
def catV(ks:List (List Byte)):List Value:=ks.flatten.map v8
theorem catV_append(ks ls:List (List Byte)):catV (ks++ls)=catV ks++catV ls:=by simp [catV]
theorem catV_length(n:Nat)(ks:List (List Byte))(h:∀k∈ks,k.length=n):(catV ks).length=ks.length*n:=by rw [catV,List.length_map,flatten_length n ks h]
theorem catV_one(ks:List (List Byte)):∀u∈catV ks,u.oneCell'=true:=one_map _
theorem RdK.cells {w:World}{p:Option Addr}{n:Nat}{ks:List (List Byte)}(h:RdK w p n ks):∀(j:Nat)(u:Value),(catV ks)[j]? =some u→∃a,p=some a∧w.cell? (a.add j)=some u:=by
 intro j u hj
 rw [catV,List.getElem?_map]at hj
 obtain⟨x,hx,rfl⟩:=Option.map_eq_some_iff.1 hj
 obtain⟨hlt,hx'⟩:=List.getElem?_eq_some_iff.1 hx
 obtain⟨a,rfl⟩:=Option.isSome_iff_exists.1 (h.2.1 (by omega))
 refine⟨a,rfl, ?_⟩
 have:=h.2.2 j hlt
 simp only [Option.getD_some]at this
 rw [this,List.getD_eq_getElem?_getD,hx];rfl
theorem OwnC.reads {m:Nat}{ks:List (List Byte)}(h:OwnC w B e m v ks.length (catV ks))(hk:∀k∈ks,k.length=m):∃p c,v= .slice p ks.length c∧ks.length≤c∧RdK w p m ks:=by
 obtain⟨p,c,rfl,h1,_,h3,h4⟩:=h.slice
 refine⟨p,c,rfl,h1,hk,fun hl=>h3 ?_,fun i hi=> ?_⟩
 · rcases Nat.eq_zero_or_pos ks.length with h0|h0
   · rw [List.eq_nil_of_length_eq_zero h0]at hl;simp at hl
   · exact h0
 · exact h4 i (v8 (ks.flatten.getD i 0)) (by rw [catV,List.getElem?_map,List.getElem?_eq_getElem hi,List.getD_eq_getElem?_getD,List.getElem?_eq_getElem hi];rfl)
end
theorem add_add(a:Addr)(i j:Nat):(a.add i).add j=a.add (i+j):=by unfold Addr.add;split<;>split<;>simp_all<;>omega
theorem RdB.sub {w:World}{p:Option Addr}{l:List Byte}(h:RdB w p l)(o n:Nat)(hn:o+n≤l.length)(h0:0<n):RdB w (some ((p.getD default).add o)) ((l.drop o).take n):=
 ⟨fun _=>rfl,fun i hi=>by
   simp only [List.length_take,List.length_drop]at hi
   simp only [Option.getD_some]
   rw [add_add,h.2 (o+i) (by omega)]
   simp [List.getElem?_take,List.getElem?_drop,show i<n by omega]⟩
theorem flatten_seg(n:Nat):∀(ks:List (List Byte))(i:Nat),(∀k∈ks,k.length=n)→i<ks.length→(ks.flatten.drop (i*n)).take n=ks.getD i []
 |[],_,_,h=>by simp at h
 | k::ks,0,h,_=>by
   have:=h k (by simp)
   simp [List.take_append_of_le_length (Nat.le_of_eq this.symm),List.take_of_length_le (Nat.le_of_eq this)]
 | k::ks,i+1,h,hi=>by
   have hk:=h k (by simp)
   have:=flatten_seg n ks i (fun x hx=>h x (by simp [hx])) (by simpa using hi)
   rw [List.flatten_cons,show(i+1)*n=k.length+i*n from by rw [hk,Nat.succ_mul];omega,List.drop_append,List.drop_eq_nil_of_le (by omega),List.nil_append,show k.length+i*n-k.length=i*n from by omega,this]
   simp
theorem RdK.at {w:World}{p:Option Addr}{n:Nat}{ks:List (List Byte)}(h:RdK w p n ks)(hn:0<n)(i:Nat)(hi:i<ks.length):RdB w (some ((p.getD default).add (i*n))) (ks.getD i [])∧(ks.getD i []).length=n:=by
 have hl:=flatten_length n ks h.1
 have hle:(i+1)*n≤ks.length*n:=Nat.mul_le_mul_right n hi
 rw [Nat.succ_mul]at hle
 have:=h.2.sub (i*n) n (by rw [hl];omega) hn
 rw [flatten_seg n ks i h.1 hi]at this
 refine⟨this,h.1 _ ?_⟩
 rw [List.getD_eq_getElem?_getD,List.getElem?_eq_getElem hi]
 exact List.getElem_mem hi
theorem RdK.addr {w:World}{p:Option Addr}{n:Nat}{ks:List (List Byte)}(h:RdK w p n ks)(hn:0<n)(hk:0<ks.length):∃a,p=some a:=by
 have hl:=flatten_length n ks h.1
 exact Option.isSome_iff_exists.1 (h.2.1 (by rw [hl];exact Nat.mul_pos hk hn))
theorem Swap.split {L L':List Blk}{b b':Blk}(c:Blk)(h:Swap L b b' L'):∃M,Swap L b c M∧Swap M c b' L':=by
 induction h with
 |hd=>exact⟨_, .hd, .hd⟩
 |tl _ ih=>obtain⟨M,h1,h2⟩:=ih;exact⟨_, .tl h1, .tl h2⟩
theorem Own.turnC {w0 w:World}{L L':List Blk}{g k:Nat}{t:TypeId}{cs:List Value}{v:Value}(h:Own w0 w L)(hs:Swap L ⟨g,t,cs⟩ ⟨g,t,cs.set k v⟩ L'):Own w0 (w.setCell ⟨g,k,none⟩ v) L':=by
 have hr:Row w g t cs:=h.row hs.has
 have hb:w0.heap.size≤g:=h.base hs.has
 refine⟨ext_setCell h.1 _ _ hb,by rw [hs.keys rfl];exact h.2.1,fun c hc=> ?_⟩
 rcases hs.cases rfl h.2.1 hc with rfl|⟨h1,h2⟩
 · exact⟨hb,row_set hr k v⟩
 · exact⟨(h.2.2 c h1).1,row_other (h.2.2 c h1).2 _ _ h2⟩
theorem Own.turn8 {w0 w:World}{L L':List Blk}{g k:Nat}{t:TypeId}{l:List Byte}{b:Byte}(h:Own w0 w L)(hs:Swap L ⟨g,t,l.map v8⟩ ⟨g,t,(setN l k b).map v8⟩ L'):Own w0 (w.setCell ⟨g,k,none⟩ (v8 b)) L':=by
 rw [←mapv_set]at hs;exact h.turnC hs
theorem Own.perm {w0 w:World}{L M:List Blk}(h:Own w0 w L)(p:L.Perm M):Own w0 w M:=
 ⟨h.1,(p.map Blk.g).nodup_iff.1 h.2.1,fun b hb=>h.2.2 b (p.mem_iff.2 hb)⟩
theorem Has.perm {L:List Blk}{b:Blk}(h:Has L b):∃R,L.Perm (b::R):=by
 induction h with
 |hd=>exact⟨_,List.Perm.refl _⟩
 | @tl b c L _ ih=>obtain⟨R,p⟩:=ih;exact⟨c::R,(p.cons c).trans (List.Perm.swap b c R)⟩
theorem Swap.front {L L':List Blk}{b b':Blk}(h:Swap L b b' L'):∃R,L.Perm (b::R)∧L'.Perm (b'::R):=by
 induction h with
 |hd=>exact⟨_,List.Perm.refl _,List.Perm.refl _⟩
 | @tl b b' c L L' _ ih=>obtain⟨R,p,q⟩:=ih;exact⟨c::R,(p.cons c).trans (List.Perm.swap b c R),(q.cons c).trans (List.Perm.swap b' c R)⟩
theorem Own.dropN {w0 w:World}{M L:List Blk}(h:Own w0 w (M++L)):Own w0 w L:=
 ⟨h.1,by have:=h.2.1;rw [List.map_append]at this;exact(List.nodup_append.1 this).2.1,fun b hb=>h.2.2 b (by simp [hb])⟩
theorem Has.app {M L:List Blk}{b:Blk}(h:Has L b):Has (M++L) b:=by
 induction M with
 |nil=>exact h
 |cons c M ih=>exact .tl ih
theorem Swap.app {M L L':List Blk}{b b':Blk}(h:Swap L b b' L'):Swap (M++L) b b' (M++L'):=by
 induction M with
 |nil=>exact h
 |cons c M ih=>exact .tl ih
theorem Has.front {M L:List Blk}{b:Blk}(h:Has M b):Has (M++L) b:=by
 induction h with
 |hd=>exact .hd
 |tl _ ih=>exact .tl ih
def ovr:List Value→Nat→List Value→List Value
 |cs,_,[]=>cs
 |cs,o,v::vs=>ovr (cs.set o v) (o+1) vs
theorem ovr_length(vs:List Value):∀(cs:List Value)(o:Nat),(ovr cs o vs).length=cs.length:=by
 induction vs with
 |nil=>intro cs o;rfl
 |cons v vs ih=>intro cs o;rw [ovr,ih];simp
theorem ovr_at(vs:List Value):∀(cs:List Value)(o j:Nat),o+vs.length≤cs.length→(ovr cs o vs)[j]? =if o≤j∧j<o+vs.length then vs[j-o]? else cs[j]? :=by
 induction vs with
 |nil=>intro cs o j _;rw [ovr,if_neg (by simp)]
 | cons v vs ih=>
   intro cs o j hl
   simp only [List.length_cons]at hl
   rw [ovr,ih _ _ _ (by simp;omega)]
   by_cases h1:j=o
   · subst h1
     rw [if_neg (by omega),if_pos (by simp),List.getElem?_set]
     simp;omega
   · by_cases h2:o+1≤j∧j<o+1+vs.length
     · rw [if_pos h2,if_pos (by simp;omega),show j-o=(j-(o+1))+1 from by omega,List.getElem?_cons_succ]
     · rw [if_neg h2,if_neg (by simp;omega),List.getElem?_set_ne (by omega)]
theorem Own.setCells {w0:World}{g:Nat}{t:TypeId}(vs:List Value):∀{w:World} {L L':List Blk} {cs:List Value} {o:Nat},Own w0 w L→Swap L ⟨g,t,cs⟩ ⟨g,t,ovr cs o vs⟩ L'→Own w0 (w.setCells g o vs) L':=by
 induction vs with
 | nil=>
   intro w L L' cs o h hs
   have:=h.turn hs
   have hr:Row w g t cs:=h.row hs.has
   rw [show ovr cs o []=cs from rfl,setRow_self w g _ t (0,0) hr]at this
   exact this
 | cons v vs ih=>
   intro w L L' cs o h hs
   obtain⟨M,h1,h2⟩:=hs.split ⟨g,t,cs.set o v⟩
   exact ih (h.turnC h1) h2
def SlO(M:List Blk)(e:TypeId)(sz:Nat)(v:Value)(n:Nat)(cs:List Value):Prop:=
 cs.length=n*sz∧((v= .slice none 0 0∧n=0∧M=[])∨∃g o cap cur,v= .slice (some ⟨g,o,none⟩) n cap∧M=[⟨g,e,cur⟩]∧n≤cap∧cap≤maxLen∧o+cap*sz≤cur.length∧(cur.drop o).take (n*sz)=cs)
section
variable {w0 w:World} {M R:List Blk} {e:TypeId} {sz n:Nat} {v:Value} {cs:List Value}
theorem SlO.nil(e:TypeId)(sz:Nat):SlO [] e sz (.slice none 0 0) 0 []:=⟨by simp, .inl ⟨rfl,rfl,rfl⟩⟩
theorem SlO.whole(g:Nat)(e:TypeId)(sz n:Nat)(cs:List Value)(hl:cs.length=n*sz)(hn:n≤maxLen):SlO [⟨g,e,cs⟩] e sz (.slice (some ⟨g,0,none⟩) n n) n cs:=
 ⟨hl, .inr ⟨g,0,n,cs,rfl,rfl,Nat.le_refl _,hn,by omega,by rw [List.drop_zero,List.take_of_length_le (by omega)]⟩⟩
theorem SlO.room(g:Nat)(e:TypeId)(sz cap:Nat)(cur:List Value)(hl:cur.length=cap*sz)(hn:cap≤maxLen):SlO [⟨g,e,cur⟩] e sz (.slice (some ⟨g,0,none⟩) 0 cap) 0 []:=
 ⟨by simp, .inr ⟨g,0,cap,cur,rfl,rfl,by omega,hn,by omega,by simp⟩⟩
theorem SlO.form(h:SlO M e sz v n cs):∃p c,v= .slice p n c:=by
 rcases h.2 with ⟨h1,rfl,_⟩|⟨g,o,cap,cur,h1,_⟩<;>exact⟨_,_,h1⟩
theorem SlO.cells(h:SlO M e sz v n cs)(hm:Own w0 w (M++R)):∃(p:Option Addr)(c:Nat),v= .slice p n c∧n≤c∧c≤maxLen∧(0<n→p.isSome=true)∧∀(j:Nat)(u:Value),cs[j]? =some u→∃a,p=some a∧w.cell? (a.add j)=some u:=by
 obtain⟨hl,h⟩:=h
 rcases h with ⟨rfl,rfl,rfl⟩|⟨g,o,cap,cur,rfl,rfl,h1,h2,h3,h4⟩
 · have:cs=[]:=List.eq_nil_of_length_eq_zero (by simpa using hl)
   subst this
   exact⟨none,0,rfl,Nat.le_refl _,by simp,by simp,by simp⟩
 · refine⟨_,cap,rfl,h1,h2,fun _=>rfl,fun j u hj=>⟨_,rfl, ?_⟩⟩
   have hr:Row w g e cur:=hm.row (.hd)
   show w.cell? ((⟨g,o,none⟩:Addr).add j)=_
   rw [Addr.add_mid,row_cell hr]
   rw [←h4,List.getElem?_take]at hj
   split at hj
   · rwa [List.getElem?_drop]at hj
   · cases hj
end
theorem ownsRow_sl {w0 w w':World}{R:List Blk}{e:TypeId}{sz n:Nat}{v:Value}{cs:List Value}(hm:Own w0 w R)(hx:Ext w w')(h:w'.ownsRow w.heap.size e sz v n cs):∃M,Own w0 w' (M++R)∧SlO M e sz v n cs:=by
 obtain⟨h1,h2⟩:=h
 rcases h2 with ⟨rfl,h0⟩|⟨g,cap,cur,rfl,hg,hh,hn,hc,hs,ht⟩
 · exact⟨[],hm.ext hx,h1, .inl ⟨rfl,h0,rfl⟩⟩
 · have hr:Row w' g e cur.toList:=hh
   refine⟨[⟨g,e,cur.toList⟩],hm.push hx hg hr,h1, .inr ⟨g,0,cap,cur.toList,rfl,rfl,hn,hc,by simp;omega,by rw [List.drop_zero,ht]⟩⟩
theorem run_append_none {P:Program}{w:World}{t ty e:TypeId}{i:TypeInfo}(ht:P.underlying t=some (.slice e))(hi:P.info? e=some i)(q:Option Addr)(n cap c:Nat)(hnc:n≤cap):(Builtin.append_ #[t,t] ty #[.slice q n cap, .slice none 0 c]).run P w= .ok (.slice q n cap) w:=by
 cases q<;>simp [Builtin.append_,run_underlying ht,sizeOf,typeInfo,hi,Builtin.lenOf,Builtin.firstCells,hnc,storeCells]
theorem wplO_app {P:Program}{ops:Array Oper}{Q:Exit→Act→World→Prop}{rest:List Oper}{o:Oper}{a:Act}{w0 w:World}{M R:List Blk}{s x:Operand}{p:Option Addr}{c n m sz by_:Nat}{T e:TypeId}{v:Value}{cs ds:List Value}
   (hm:Own w0 w (M++R)) (hsl:SlO M e sz v n cs) (hgd:o.guard=none) (ho:o.op= .call {callee:= .builtin .append,args:= #[s,x],argTypes:= #[T,T]}) (hs:a.eval s=v) (hx:a.eval x= .slice p m c) (hT:P.underlying T=some (.slice e)) [hE:Elem P e sz by_]
   (hl:ds.length=m*sz) (hr:∀(j:Nat)(u:Value),ds[j]? =some u→∃a,p=some a∧w.cell? (a.add j)=some u) (h1:∀u∈ds,u.oneCell'=true) (hlen:(n+m)*(by_+1)≤140737488355328)
   (h:∀v' w' M',Own w0 w' (M'++R)→SlO M' e sz v' (n+m) (cs++ds)→wpList P ops Q rest (a.put o.dst v') w'):wpList P ops Q (o::rest) a w:=by
 obtain⟨i,z,hi,hz,hsz,hb,hzz,h0⟩:=hE.out
 have hlen1:n+m≤maxLen:=by
   have:n+m≤(n+m)*(by_+1):=Nat.le_mul_of_pos_right _ (by omega)
   unfold maxLen;omega
 have hlen2:(n+m)*by_≤140737488355328:=Nat.le_trans (Nat.mul_le_mul_left _ (by omega)) hlen
 cases p with
 | none=>
   have hd:ds=[]:=by
     cases ds with
     |nil=>rfl
     |cons u ds=>obtain⟨_,ha,_⟩:=hr 0 u rfl;cases ha
   subst hd
   have hm0:m=0:=by
     rcases Nat.eq_zero_or_pos m with h|h
     · exact h
     · have:=Nat.mul_pos h h0;rw [←hl]at this;simp at this
   subst hm0
   obtain⟨q,k,rfl,hnk,_⟩:=hsl.cells hm
   refine wpList_plain hgd fun K hK=> ?_
   unfold Oper.wp
   simp [execOp,ho,resolve,invoke,builtin,hs,hx,run_append_none hT hi _ _ _ _ hnk,Result.andThen]
   exact hK _ _ (h _ w M hm (by simpa using hsl))
 | some ad =>
   have hr':∀(j:Nat)(u:Value),ds[j]? =some u→w.cell? (ad.add j)=some u:=fun j u hj=>by
     obtain⟨a',ha,hc⟩:=hr j u hj
     cases ha;exact hc
   obtain⟨hcl,hsl'⟩:=id hsl
   rcases hsl' with ⟨rfl,rfl,rfl⟩|⟨g,off,cap,cur,rfl,rfl,k1,k2,k3,k4⟩
   · have hcs:cs=[]:=List.eq_nil_of_length_eq_zero (by simpa using hcl)
     subst hcs
     refine wpList_append_own w hgd s x T ho w.heap.size e i z sz by_ hT hi hz hsz hb hzz h0 _ 0 [] hs (World.ownsRow_nil w _ e sz) ad m c ds hx hl hr' h1 hlen1 hlen2 (Nat.le_refl _) ?_
     intro v' w' r1 r2 _
     have hx:Ext w w':=(Below.refl w.heap.size w).grown r2 (Nat.le_refl _) fun k hk=>by cases hk
     obtain⟨M',m1,m2⟩:=ownsRow_sl hm hx r1
     exact h v' w' M' m1 m2
   · have hrow:Row w g e cur:=hm.row (.hd)
     have hcells:∀(j:Nat)(u:Value),cs[j]? =some u→w.cell? ((⟨g,off,none⟩:Addr).add j)=some u:=fun j u hj=>by
       rw [Addr.add_mid,row_cell hrow]
       rw [←k4,List.getElem?_take]at hj
       split at hj
       · rwa [List.getElem?_drop]at hj
       · cases hj
     by_cases hfit:n+m≤cap
     · have hin:off+n*sz+ds.length≤cur.length:=by
         have:(n+m)*sz≤cap*sz:=Nat.mul_le_mul_right _ hfit
         rw [Nat.add_mul]at this;omega
       have hrun:=run_append_room_cells (P:=P) w T o.type e i hT hi g off n cap ad m c ds (by rw [hsz];exact hl) hr' h1 hfit
         (fun j hj=>by rw [row_cell hrow,hsz,List.getElem?_eq_getElem (by omega)];rfl) (fun j hj=>row_free hrow _)
       rw [hsz]at hrun
       have hm2:Own w0 (w.setCells g (off+n*sz) ds) (⟨g,e,ovr cur (off+n*sz) ds⟩::R):=Own.setCells ds hm .hd
       refine wpList_plain hgd fun K hK=> ?_
       unfold Oper.wp
       simp [execOp,ho,resolve,invoke,builtin,hs,hx,hrun,Result.andThen]
       refine hK _ _ (h _ _ [⟨g,e,ovr cur (off+n*sz) ds⟩] hm2 ⟨by rw [List.length_append,hcl,hl,Nat.add_mul], .inr ⟨g,off,cap,_,rfl,rfl,hfit,k2,by rw [ovr_length];exact k3, ?_⟩⟩)
       apply List.ext_getElem?
       intro j
       rw [List.getElem?_take,Nat.add_mul,←hl]
       by_cases hj:j<n*sz
       · rw [if_pos (by omega),List.getElem?_drop,ovr_at _ _ _ _ hin,if_neg (by omega),List.getElem?_append_left (by omega),←k4,List.getElem?_take,if_pos hj,List.getElem?_drop]
       · by_cases hj2:j<n*sz+ds.length
         · rw [if_pos hj2,List.getElem?_drop,ovr_at _ _ _ _ hin,if_pos (by omega),List.getElem?_append_right (by omega),hcl]
           congr 1;omega
         · rw [if_neg hj2,List.getElem?_eq_none (by rw [List.length_append];omega)]
     · refine wpList_append_grows w hgd s x T ho e i z sz by_ hT hi hz hsz hb hzz h0 (some ⟨g,off,none⟩) n cap cs hs (by simp) hcl (fun b hb=>by cases hb;exact hcells) ad m c ds hx hl hr' h1 (by omega) hlen1 hlen2 ?_
       intro v' w' r1 r2
       have hx:Ext w w':=(Below.refl w.heap.size w).grown r2 (Nat.le_refl _) fun k hk=>by cases hk
       obtain⟨M',m1,m2⟩:=ownsRow_sl (hm.drop) hx r1
       exact h v' w' M' m1 m2
theorem SlO.behind {M:List Blk}{e:TypeId}{sz n k:Nat}{g o cap:Nat}{cs:List Value}(h:SlO M e sz (.slice (some ⟨g,o,none⟩) n cap) n cs)(hk:k≤n):SlO M e sz (.slice (some ⟨g,o+k*sz,none⟩) (n-k) (cap-k)) (n-k) (cs.drop (k*sz)):=by
 obtain⟨hl,h⟩:=h
 rcases h with ⟨h,_⟩|⟨g',o',cap',cur,he,rfl,k1,k2,k3,k4⟩
 · cases h
 · cases he
   have hks:k*sz≤n*sz:=Nat.mul_le_mul_right _ hk
   have hkc:k*sz≤cap*sz:=Nat.mul_le_mul_right _ (by omega)
   refine⟨by rw [List.length_drop,hl,Nat.sub_mul], .inr ⟨g,_,_,cur,rfl,rfl,by omega,by omega,by rw [Nat.sub_mul];omega, ?_⟩⟩
   rw [←k4,List.drop_take,List.drop_drop,Nat.sub_mul]
theorem double_any(a:Byte)(w:World):Calls Tryz.prog 39 #[v8 a] w fun e w'=>e= .returned (v8 (dbl a))∧w=w':=by
 go_enter Tryz.func39,Tryz.ntmps39
 go_wp2
 go_ret
 exact⟨rfl,rfl⟩
theorem shr_lt(b:Byte)(h:b≠0#8):(b>>>1).toNat<b.toNat:=by
 have:b.toNat≠0:=fun e=>h (BitVec.eq_of_toNat_eq e)
 simp only [BitVec.toNat_ushiftRight,Nat.shiftRight_eq_div_pow];omega
theorem shr_fit(b:Byte)(n:Nat)(h:b.toNat<2^(n+1)):(b>>>1).toNat<2^n:=by
 simp only [BitVec.toNat_ushiftRight,Nat.shiftRight_eq_div_pow];rw [Nat.pow_succ]at h;omega
theorem times_any(a0 b0:Byte)(w:World):Calls Tryz.prog 47 #[v8 a0,v8 b0] w fun e w'=>e= .returned (v8 (tms a0 b0))∧w=w':=by
 have h0:=tmsF_tms a0 b0
 have hb0:b0.toNat<2^8:=b0.isLt
 generalize tms a0 b0=R at*
 have H0:=Lib.hid h0
 have Hb0:=Lib.hid hb0
 clear h0 hb0
 go_enter Tryz.func47,Tryz.ntmps47
 go_wp2
 refine wp_scope_goto 0 (fun a_ w_=>∃(a b s:Byte)(n:Nat)(u2 u3 u6 u7 u8 u9 u10 u11 u12 u13 u14 u15 u16 u17 u18:Value),a_={tmps:= #[v8 a,v8 b,u2,u3,(.int .u8 0),v8 s,u6,u7,u8,u9,u10,u11,u12,u13,u14,u15,u16,u17,u18],defers:=[]}∧b.toNat<2^n∧tmsF n a b s=R∧w=w_) (fun a_ _=>(intOf (a_.tmps.getD 1 undef)).toNat) rfl ?_ ?_
 · rintro a' w' ⟨a,b,s,n,u2,u3,u6,u7,u8,u9,u10,u11,u12,u13,u14,u15,u16,u17,u18,rfl,⟨hn,hR,rfl⟩⟩
   have Hn:=Lib.hid hn
   have HR:=Lib.hid hR
   clear hn hR
   by_cases hb:b=0#8
   · subst hb
     have hr:=HR.out
     rw [tmsF_end]at hr
     have Hr:=Lib.hid hr
     clear hr
     go_wp2
     simp only [Exit.jump]
     go_ret
     exact⟨by rw [Hr.out];rfl,rfl⟩
   · have hb2:(b==0#8)=false:=by simpa using hb
     have hlt:=shr_lt b hb
     have Hlt:=Lib.hid hlt
     have Hb:=Lib.hid hb
     clear hb hlt
     go_wp2_with (go_at_call 39;(with_reducible refine(double_any _ _).mono ?_);rintro e w' ⟨rfl,rfl⟩)
     go_step3
     cases n with
     |zero=>exact absurd Hn.out (by have:=Hb.out;intro h;exact this (BitVec.eq_of_toNat_eq (by simp at h⊢;omega)))
     |succ n=>exact⟨rfl,⟨_,_,_,_,_,_,_,_,_,_,_,_,_,_,_,_,_,_,_,rfl,⟨shr_fit b n Hn.out,HR.out,rfl⟩⟩,Hlt.out⟩
 · intro hp
   go_wp2
   go_step3
   rename_i hK
   exact hK _ _ (hp _ _ ⟨_,_,_,_,_,_,_,_,_,_,_,_,_,_,_,_,_,_,_,rfl,⟨Hb0.out,H0.out,rfl⟩⟩)
theorem rotl_any(x:Byte)(k:Nat)(w:World)(hk:k<8):Calls Tryz.prog 48 #[v8 x, .int .i64 k] w fun e w'=>e= .returned (v8 (rotl8 x k))∧w=w':=by
 have hb:bits .and .u64 (k:Int) 7=k:=by
   have:∀k:Nat,k<8→bits .and .u64 (k:Int) 7=k:=by decide
   exact this k hk
 have h8:((8:Int)-(k:Int)).toNat=8-k:=by omega
 go_enter Tryz.func48,Tryz.ntmps48
 go_wp2
 go_ret
 exact⟨rfl,rfl⟩
theorem box_any(i:Byte)(w:World):Calls Tryz.prog 41 #[v8 i] w fun e w'=>e= .returned (v8 (boxF i 5))∧w=w':=by
 go_enter Tryz.func41,Tryz.ntmps41
 go_wp2
 go_loop [3,5] (fun o k=>∃n:Nat,n≤5∧k= .int .i64 n∧o=v8 (boxF i n)) (fun _ k=>5-(intOf k).toNat)
 case atStart=>exact⟨0,by omega,rfl,rfl⟩
 case round=>
   obtain⟨n,hn,rfl,rfl⟩:=hrel
   by_cases hlt:n<5
   · go_wp2_with (go_at_call 48;(with_reducible refine(rotl_any _ n _ (by omega)).mono ?_);rintro e w' ⟨rfl,rfl⟩)
     go_round
     case rel=>exact⟨n+1,by omega,by go_num,rfl⟩
     case measure=>simp [intOf]<;>omega
   · obtain rfl:n=5:=by omega
     go_wp2
     go_ret
     exact⟨rfl,rfl⟩
theorem bput_any(g:Nat)(t:TypeId)(l:List Byte)(hl:l.length=512)(a b:Byte)(w0 w:World)(L L':List Blk)(hm:Own w0 w L)(hs:Swap L ⟨g,t,l.map v8⟩ ⟨g,t,(putT l a b).map v8⟩ L'):
   Calls Tryz.prog 40 #[.pointer (some ⟨g,0,none⟩),v8 a,v8 b] w fun e w'=>e= .returned (.tuple #[])∧Own w0 w' L':=by
 obtain⟨M,h1,h2⟩:=hs.split ⟨g,t,(setN l a.toNat b).map v8⟩
 have o1:=hm.turn8 h1
 have o2:=o1.turn8 h2
 have ha:a.toNat<256:=a.isLt
 have hb:b.toNat<256:=b.isLt
 have ha2:(a.toNat:Int)<256:=by omega
 have hb2:(b.toNat:Int)<256:=by omega
 have r0:=hm.row h1.has
 have hc1:=row_v8 r0 a.toNat (by omega)
 have hc2:=row_v8 r0 (256+b.toNat) (by omega)
 have hf1:=row_free r0 a.toNat
 have hf2:=row_free r0 (256+b.toNat)
 have hne:¬a.toNat=256+b.toNat:=by omega
 have O2:=Lib.hid o2
 clear o1 o2 h1 h2 hs hm r0 hl
 go_enter Tryz.func40,Tryz.ntmps40
 go_wp2
 go_region
 all_goals
   go_wp2
   go_end0
   exact⟨rfl,O2.out.drew⟩
def BoxesS:Slot:=fun v w=>∃g,v= .pointer (some ⟨g,0,none⟩)∧Row w g 91 (tabs.map v8)
theorem BoxesS.stable:Stable BoxesS:=fun _ _ _ ⟨g,h1,h2⟩ hx=>⟨g,h1,row_ext h2 hx⟩
theorem build_boxes(w:World):(Instr.build 91 #[]).run Tryz.prog w= .ok (.agg ((zer (n:=8) 512).map v8).toArray) w:=by kernel_rfl
theorem box_anyG(i:Byte)(w:World):Gives Tryz.prog 41 #[v8 i] w (v8 (boxF i 5)):= .of_same (box_any i w)
theorem box0_any(w:World):Calls Tryz.prog 41 #[.int .u8 0] w fun e w'=>e= .returned (v8 (boxF 0#8 5))∧w=w':=box_any 0#8 w
theorem pow_mod(k:Nat)(h:k<255):((255:Int)-(k:Int)).tmod 255=(((255-k)%255:Nat):Int):=by
 rw [Int.tmod_eq_emod_of_nonneg (by omega)];omega
theorem make_new(w0:World):Calls Tryz.prog 28 #[] w0 fun e w'=>∃g,e= .returned (.pointer (some ⟨g,0,none⟩))∧w0.heap.size≤g∧Row w' g 91 (tabs.map v8)∧Ext w0 w':=by
 have hm:=Own.start w0
 go_enter Tryz.func28,Tryz.ntmps28
 go_wp2_with (first|((first|((with_reducible show qAl);first|((with_reducible apply wq_new hm);exact rfl;infer_instance)));clear hm;(first|(have hx_:=g1;clear hx_;(first|(have hx_:=g2;clear hx_;intro gx_)|intro g2))|intro g1);intro w hm))
 go_loopw [2,6] (fun e i wr=>∃k:Nat,k≤255∧i= .int .i64 k∧e=v8 (pws k)∧Own w0 wr [⟨g1,88,(part 255 k pws fun _=>0).map v8⟩]) (fun _ i _=>255-(intOf i).toNat)
 case atStart=>exact⟨0,by omega,rfl,rfl,by rw [←zer_start];exact hm⟩
 case round =>
   obtain⟨k,hk,rfl,rfl,hm⟩:=hrel
   by_cases hlt:k<255
   · go_wp2_with (first|(go_at_call 39;(with_reducible refine(double_any _ _).mono ?_);rintro e w' ⟨rfl,rfl⟩)|((((with_reducible show qSt);first|((with_reducible apply wq_stv hm);exact rfl;infer_instance;exact rfl;(focus (repeat first|exact .hd|assumption|apply Swap.tl);done);infer_instance;exact rfl;(focus (first|omega|(simp;omega)|(refine ltB ?_;first|omega|(simp;done)|(simp;omega)))))));clear hm;intro w hm))
     go_roundw
     case rel=>
       rw [part_set' hlt rfl]at hm
       exact⟨k+1,by omega,by go_num,rfl,hm⟩
     case measure=>simp [intOf]<;>omega
   · obtain rfl :k=255:=by omega
     rw [part_all]at hm
     go_wp2_with (first|(go_at_call 41;(with_reducible refine(box0_any _).mono ?_);rintro e w' ⟨rfl,rfl⟩)|((with_reducible apply wq_build0 build_boxes);exact rfl)|((first|((with_reducible show qBx);first|((with_reducible apply wq_boxN hm);exact rfl;exact rfl)));clear hm;(first|(have hx_:=g1;clear hx_;(first|(have hx_:=g2;clear hx_;intro gx_)|intro g2))|intro g1);intro w hm))
     refine(bput_any _ _ (zer 512) zer_length 0#8 (boxF 0#8 5) w0 _ _ _ hm (by repeat (first|exact Swap.hd|assumption|apply Swap.tl))).mono ?_
     rintro e w ⟨rfl,hm⟩
     go_wp2_with fail
     go_loopw [22] (fun i wr=>∃k:Nat,k≤255∧i= .int .i64 k∧Own w0 wr [⟨g2,91,(tabT k).map v8⟩,⟨g1,88,(tab 255 pws).map v8⟩]) (fun i _=>255-(intOf i).toNat)
     case atStart=>exact⟨0,by omega,rfl,hm⟩
     case round =>
       obtain⟨k,hk,rfl,hm⟩:=hrel
       by_cases hlt:k<255
       · have hmod:=pow_mod k hlt
         have hq:(255-k)%255<255:=Nat.mod_lt _ (by omega)
         have e1:nth (tab 255 pws) k=pws k:=nth_tab hlt
         have e2:nth (tab 255 pws) ((255-k)%255)=pws ((255-k)%255):=nth_tab hq
         generalize hqq:(255-k)%255=q at*
         have hq2:(q:Int)<255:=by omega
         have hwr:IntKind.i64.wrap (255-(k:Int))=255-(k:Int):=IntWalk.i64_in _ (by omega)
         have Hqq:=Lib.hid hqq
         clear hqq
         go_wp2_with fail
         refine region_at 10 (fun w'=>Ext _ w') 38 (by kernel_rfl) (by kernel_rfl) rfl (fun _ _ h k=>h.trans k) (drew_ext _) ?_
         simp only [tSC,List.take_zero,dSC,List.drop_zero,List.map_cons,List.map_nil]
         repeat (first
             | (apply walk_is rfl rfl rfl
                · (intro wx hwx;first|((with_reducible show gives _ _ _ (Sem.run _ (execOp _ (Oper.mk _ (Op.load _ _) _ _ _ _)) _));first|((with_reducible apply gq_ldv (hm.ext hwx));infer_instance;exact rfl;(focus (repeat first|exact .hd|assumption|apply Has.tl);done);(focus (first|omega|(simp;omega)|(refine ltB ?_;first|omega|(simp;done)|(simp;omega))))))|(go_simp;(try go_bits);first|exact gives_same|exact gives_skip|with_reducible exact gives_call (box_anyG _ wx)))
                · (simp only [Act.put,sIB,sCS,sCZ];rfl))
             | (apply walk_not rfl rfl rfl
                · (simp only [Act.put,sIB,sCS,sCZ];rfl)))
         intro wz hwz
         simp only [zCC,zNR]
         repeat (first|rw [fin_is]|(rw [fin_cons];intro _ _))
         rw [fin_nil]
         try (replace hm:=hm.ext hwz)
         simp only [Act.put,sIB,sCS,sCZ]
         go_wp2_with fail
         refine(bput_any g2 _ (tabT k) (tabT_length k) _ _ w0 _ _ _ hm (by repeat (first|exact Swap.hd|assumption|apply Swap.tl))).mono ?_
         rintro e w ⟨rfl,hm⟩
         have hT:putT (tabT k) (pws k) (boxF (pws q) 5)=tabT (k+1):=by rw [tabT,Hqq.out]
         first|rw [e1,e2,hT]at hm|rw [hT]at hm
         go_wp2
         go_roundw
         case rel=>exact⟨k+1,by omega,by go_num,hm⟩
         case measure=>simp [intOf]<;>omega
       · obtain rfl:k=255:=by omega
         go_wp2_with fail
         go_ret
         exact⟨g2,rfl,hm.base (by repeat (first|exact Has.hd|assumption|apply Has.tl)),hm.row (by repeat (first|exact Has.hd|assumption|apply Has.tl)),hm.x⟩
theorem to_any(g:Nat)(a:Byte)(w:World)(h:Row w g 91 (tabs.map v8)):Calls Tryz.prog 35 #[.pointer (some ⟨g,0,none⟩),v8 a] w fun e w'=>e= .returned (v8 (bxTo a))∧w=w':=by
 have ha:a.toNat<256:=a.isLt
 have ha2:(a.toNat:Int)<256:=by omega
 have hc:w.cell? ⟨g,a.toNat,none⟩=some (v8 (bxTo a)):=by rw [row_v8 h a.toNat (by rw [tabs_length];omega)];rfl
 clear h
 go_enter Tryz.func35,Tryz.ntmps35
 go_wp2
 go_ret
 exact⟨rfl,rfl⟩
theorem back_any(g:Nat)(a:Byte)(w:World)(h:Row w g 91 (tabs.map v8)):Calls Tryz.prog 113 #[.pointer (some ⟨g,0,none⟩),v8 a] w fun e w'=>e= .returned (v8 (bxBack a))∧w=w':=by
 have ha:a.toNat<256:=a.isLt
 have ha2:(a.toNat:Int)<256:=by omega
 have hc:w.cell? ⟨g,256+a.toNat,none⟩=some (v8 (bxBack a)):=by rw [row_v8 h (256+a.toNat) (by rw [tabs_length];omega)];rfl
 clear h
 go_enter Tryz.func113,Tryz.ntmps113
 go_wp2
 go_ret
 exact⟨rfl,rfl⟩
end Go.Proofs.YtllnjbiebdkmbaaGreatDoor
