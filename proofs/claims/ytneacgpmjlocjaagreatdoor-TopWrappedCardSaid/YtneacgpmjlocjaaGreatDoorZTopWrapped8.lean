/-
  Texts of the program, walked, and plain ones. Conditions: those written in each theorem.
-/
import Derived.Test.YtneacgpmjlocjaaGreatDoorZTopWrapped0
import Derived.Test.YtneacgpmjlocjaaGreatDoorZTopWrapped7
import Derived.Test.YtneacgpmjlocjaaGreatDoorZTopWrapped6
import Derived.Test.YtneacgpmjlocjaaGreatDoorZTopWrapped5
import Derived.Test.YtneacgpmjlocjaaGreatDoorZTopWrapped4
import Derived.Test.YtneacgpmjlocjaaGreatDoorZTopWrapped3
set_option linter.unusedSimpArgs false
set_option linter.unusedVariables false
set_option maxHeartbeats 16000000
open Go.Lib (hid)
namespace Go.Proofs.YtneacgpmjlocjaaGreatDoor
open Go Go.RowKit
set_option maxRecDepth 100000
def subL(t b:List Byte):List Byte:=tab 16 fun i=>nth t (nth b i).toNat
def shiftF(b:List Byte)(i:Nat):Byte:=nth b (shp (i%4) (i/4))
def shiftL(b:List Byte):List Byte:=tab 16 (shiftF b)
def mixB(by_ b:List Byte)(i:Nat):Nat→Byte
 |0=>0#8
 |k+1=>mixB by_ b i k^^^tms (nth by_ ((k+4-i%4)%4)) (nth b (4*(i/4)+k))
def mixL(by_ b:List Byte):List Byte:=tab 16 fun i=>mixB by_ b i 4
theorem take256_length:(tabs.take 256).length=256:=by simp [tabs_length]
attribute [local simp] take256_length
theorem gq_build {P:Program}{dst:Option Tmp}{ty:TypeId}{pos:String}{aft:Array Edge}{gd:Option (Nat×Bool)}{a:Act}{w:World}{T:TypeId}{v:Value}{parts:Array (Nat×Operand)}{vs:Array (Nat×Value)}(hb:∀w,(Instr.build T vs).run P w= .ok v w)(hp:parts.map (fun p=>(p.1,a.eval p.2))=vs):gives P w (Is v) ((execOp a.eval (Oper.mk dst (.build T parts) ty pos aft gd)).run P w):=by
 subst hp
 have h:=hb w
 unfold execOp
 simp only [Sem.run_bind,h,Result.andThen_ok,Sem.run_pure]
 exact gives_same
end Go.Proofs.YtneacgpmjlocjaaGreatDoor
namespace Go.Proofs.YtneacgpmjlocjaaGreatDoor
open Go Go.RowKit
set_option maxRecDepth 100000
theorem wq_mkR {ops:Array Oper}{Q:Exit→Act→World→Prop}{rest:List Oper}{dst:Option Tmp}{ty:TypeId}{pos:String}{aft:Array Edge}{gd:Option (Nat×Bool)}{a:Act}{w0 w:World}{L:List Blk}{x y:Operand}{N C:Int}(n m:Nat)
   (hm:Own w0 w L) (hgd:Region.wanted (Oper.mk dst (.makeSlice 22 x y) ty pos aft gd) (yielded ops a.tmps)=true) (hx:a.eval x= .int .i64 N) (hy:a.eval y= .int .i64 C) (hN:N=(n:Int)) (hC:C=(m:Int)) (hnm:n≤m) (hmm:m≤281474976710656)
   (hr:∀g w',Own w0 w' (⟨g,5,(zeros m).map v8⟩::L)→wpList Tryz.prog ops Q rest (a.put dst (.slice (some ⟨g,0,none⟩) n m)) w'):wpList Tryz.prog ops Q ((Oper.mk dst (.makeSlice 22 x y) ty pos aft gd)::rest) a w:=
 wpList_want hgd fun K hK=>by
   subst hN hC
   obtain⟨i,hi,hz,hs,hb⟩:=info_byte
   have h:=run_make (P:=Tryz.prog) w 22 5 i (.int .u8 0) Tryz.underlying22 hi hz .i64 .i64 n m (by omega) (by omega) (by rw [hb];omega) (by omega)
   rw [hs,Nat.mul_one]at h
   simp only [Int.toNat_natCast,Value.cells,madeCells_v8]at h
   unfold Oper.wp execOp
   simp only [hx,hy,Sem.run_bind,h,Result.andThen_ok,Sem.run_pure]
   exact hK _ _ (hr _ _ (hm.alloc 5 ((zeros m).map v8)))
theorem run_index_v {P:Program}{T e:TypeId}{n b:Nat}{f:BitVec b→Value}(hT:P.underlying T=some (.array n e))[hE:One1 P e](l:List (BitVec b))(hl:l.length=n)(k:Nat)(hk:k<n)(w:World):(Instr.index T (.agg (l.map f).toArray) (.int .i64 (k:Int))).run P w= .ok (f (nth l k)) w:=by
 obtain⟨d,hu,hd⟩:=Option.map_eq_some_iff.1 hE.row
 obtain⟨i,hi1,hi2⟩:=Option.map_eq_some_iff.1 hE.size
 have hagg:(isAgg e).run P w= .ok false w:=by
   unfold isAgg
   rw [Sem.run_bind,run_underlying hu w]
   cases d<;>simp_all
 have hc:(l.map f)[k]? =some (f (nth l k)):=mapv_at f l (by omega)
 have hk2:(0:Int)≤(k:Int)∧(k:Int)<(n:Int):=by omega
 simp [Instr.index,asIntOf,Sem.run_bind,run_underlying hT,hk2,sizeOf,typeInfo,hi1,hi2,hk,Go.part,hagg,nth_get (show k<l.length by omega)]
 rw [List.getElem?_eq_getElem (by omega)];rfl
theorem wq_idx {P:Program}{ops:Array Oper}{Q:Exit→Act→World→Prop}{rest:List Oper}{dst:Option Tmp}{ty:TypeId}{pos:String}{aft:Array Edge}{gd:Option (Nat×Bool)}{a:Act}{w:World}{x y:Operand}{T e:TypeId}{n b k:Nat}{f:BitVec b→Value}{l:List (BitVec b)}(hT:P.underlying T=some (.array n e))(hE:One1 P e)(hgd:Region.wanted (Oper.mk dst (.index T x y) ty pos aft gd) (yielded ops a.tmps)=true)(hx:a.eval x= .agg (l.map f).toArray)(hy:a.eval y= .int .i64 (k:Int))(hl:l.length=n)(hk:k<n)
   (hr:wpList P ops Q rest (a.put dst (f (nth l k))) w):wpList P ops Q ((Oper.mk dst (.index T x y) ty pos aft gd)::rest) a w:=
 wpList_want hgd fun K hK=>by
   unfold Oper.wp execOp
   simp only [hx,hy,Sem.run_bind,run_index_v hT l hl k hk w,Result.andThen_ok,Sem.run_pure]
   exact hK _ _ hr
theorem hashC_one {h:List (BitVec 64)}{n:Nat}{v:Value}{sz:Int}(hv:v.oneCell'=true):∀u∈hashC h n v sz,u.oneCell'=true:=by
 intro u hu
 simp only [hashC,List.mem_append,List.mem_cons,List.not_mem_nil,or_false]at hu
 rcases hu with hu|(rfl|rfl)|rfl|rfl
 · exact one_map _ u hu
 · rfl
 · rfl
 · exact hv
 · rfl
theorem outL_take(h:List (BitVec 64))(k:Nat)(hk:k<h.length):outL (h.take (k+1))=outL (h.take k)++putL (nth h k) 8:=by
 rw [List.take_succ_eq_append_getElem hk,outL,outL,List.map_append,List.flatten_append]
 simp [nth_get hk]
theorem hsum_any(g:Nat)(h0:List (BitVec 64))(d:List Byte)(sz:Nat)(hh:h0.length=8)(hsz:sz≤64)(hlen:d.length≤70368744177664)(w0 w:World)(M R:List Blk)(v:Value)(hc:CoefB w0)
   (hm:Own w0 w (⟨g,193,hashK h0 d (nbk d.length) v sz⟩::(M++R))) (hsl:RestO M d (nbk d.length) v):
   Calls Tryz.prog 94 #[.pointer (some ⟨g,0,none⟩)] w fun e w'=>∃x,e= .returned x∧BytesS ((outL (finL h0 d)).take sz) x w'∧Own w0 w' (⟨g,193,hashK h0 d (nbk d.length) v sz⟩::(M++R)):=by
 obtain⟨q,n,cap,rfl⟩:=hsl.slice
 obtain⟨hn,hnc,hcm⟩:=hsl.len
 have hnk:=nbk_rest d.length
 have hkk:=nbk_le d.length
 have HC:=hid hc
 have HH:=hid hh
 have HS:=hid hsl
 have l1:=hashK_length (d:=d) (k:=nbk d.length) (v:= .slice q n cap) (sz:=sz) hh
 have lr:(d.drop (128*nbk d.length)).length=n:=by rw [List.length_drop,hn]
 have CB:=fun g1 wx hx=>hblock_any g1 (chF h0 d (nbk d.length)) (128*nbk d.length) (.slice q n cap) sz (d.drop (128*nbk d.length)) q cap n true (chF_length h0 d hh _) (by omega) (by omega) w0 wx (⟨g,193,hashK h0 d (nbk d.length) (.slice q n cap) sz⟩::(M++R)) (fun w' N h=>by
   rw [List.append_cons]at h;exact HS.out.rdB h) HC.out rfl hx
 rw [lr,show 128*nbk d.length+n=d.length from by omega]at CB
 have lF:(finL h0 d).length=8:=finL_length h0 d
 have CB2:=hid CB
 have EF:Hid (compL (chF h0 d (nbk d.length)) (mL (d.drop (128*nbk d.length))) (BitVec.ofNat 64 d.length) 0#64 true=finL h0 d):=hid rfl
 rw [EF.out]at CB2
 have HF:=hid lF
 have hsz2:(sz:Int)≤64:=by omega
 have E0:=hid (show hashK h0 d (nbk d.length) (.slice q n cap) sz=hashC (chF h0 d (nbk d.length)) (128*nbk d.length) (.slice q n cap) sz from rfl)
 have ONE:=hid (show∀u∈hashK h0 d (nbk d.length) (.slice q n cap) sz,u.oneCell'=true from hashC_one rfl)
 have X10:=hid (show(hashK h0 d (nbk d.length) (.slice q n cap) sz)[10]? =some (.slice q n cap)from hashK_rest hh)
 generalize hX:hashK h0 d (nbk d.length) (.slice q n cap) sz=X at*
 rw [←E0.out]at CB2
 generalize finL h0 d=F at*
 have lX:=l1
 clear CB EF hn hnk hkk hcm hX hsl hc hh lF l1
 go_enter Tryz.func94,Tryz.ntmps94
 go_wp2_with (first|((with_reducible apply wq_stW hm);exact rfl;infer_instance;exact rfl;exact rfl;(focus (repeat first|exact .hd|assumption|apply Swap.tl);done);exact lX;(first|rfl|(simp;done));exact ONE.out;clear hm;intro w hm)|((with_reducible apply wq_ldW hm);exact rfl;infer_instance;exact rfl;(focus (repeat first|exact .hd|assumption|apply Has.tl);done);exact lX)|((with_reducible apply wq_ld1 hm);exact rfl;infer_instance;exact rfl;(focus (repeat first|exact .hd|assumption|apply Has.tl);done);(exact X10.out))|(go_at_call 110;(with_reducible refine(CB2.out _ _ hm).mono ?_);clear hm;rintro e_ w ⟨rfl,hm⟩)|((with_reducible apply wq_mkR 0 64 hm);exact rfl;exact rfl;exact rfl;exact rfl;exact rfl;omega;omega;clear hm;intro g2 w hm)|((with_reducible apply wq_ldN hm);exact rfl;infer_instance;exact rfl;(focus (repeat first|exact .hd|assumption|apply Has.tl);done);(exact hashC_h HF.out);(exact(List.length_map ..).trans HF.out))|(((with_reducible show qAl);refine zG hm ?_);clear hm;(first|(have hx_:=g1;clear hx_;(first|(have hx_:=g2;clear hx_;intro gx_)|intro g2))|intro g1);intro w hm))
 obtain⟨RR,hRR⟩:∃RR,(⟨g1,193,hashC F d.length (.slice q n cap) sz⟩::⟨g,193,X⟩::(M++R):List Blk)=RR:=⟨_,rfl⟩
 have hg1:Has RR ⟨g1,193,hashC F d.length (.slice q n cap) sz⟩:=hRR ▸ .hd
 have hend:∀w,Own w0 w RR→Own w0 w (⟨g,193,X⟩::(M++R)):=fun w h=>by rw [←hRR]at h;exact h.drop
 have HE:=hid hend
 rw [hRR]at hm
 clear hRR hend
 go_loopw [4,22] (fun v i wr=>∃(k:Nat)(Mo:List Blk),k≤8∧i= .int .i64 k∧SlO Mo 5 1 v (8*k) ((outL (F.take k)).map v8)∧Own w0 wr (Mo++RR)) (fun _ i _=>8-(intOf i).toNat)
 case atStart=>exact⟨0,[_],by omega,rfl,SlO.room g2 5 1 64 _ (by simp) (by decide),hm⟩
 case round=>
   obtain⟨k,Mo,hk,rfl,hso,hm⟩:=hrel
   obtain⟨p0,c0,rfl⟩:=hso.form
   have HSO:=hid hso
   clear hso
   by_cases hlt:k<8
   · have hd:decide ((k:Int)<8)=true:=by simp;omega
     have lF:=HF.out
     have lF1:=Nat.le_of_eq HF.out
     have lF2:=Nat.le_of_eq HF.out.symm
     have lp:(putL (nth F k) 8).length=8:=putL_length _ _
     have et:=hid (outL_take F k (by omega))
     have CP:=hid fun wx=>putlong_any' (nth F k) wx
     generalize putL (nth F k) 8=B at*
     go_wp2_with (first|((with_reducible apply wq_idx (l:=F) (k:=k) Tryz.underlying189);infer_instance;exact rfl;exact rfl;exact rfl;exact lF;exact hlt)|(go_at_call 11;(with_reducible refine(CP.out _).mono ?_);rintro e_ w ⟨rfl,hx_⟩;replace hm:=hm.ext hx_;clear hx_)|((with_reducible show wpList _ _ _ (Oper.mk _ (Op.call _) _ _ _ _::_) _ _);refine wplO_app (M:=Mo) (R:=_) (ds:=B.map v8) (hm.perm (List.perm_middle.symm)) HSO.out rfl rfl rfl rfl Tryz.underlying22 (by simpa using lp) (cells_b (hm.rdB (by repeat (first|exact Has.hd|assumption|apply Has.tl)))) (one_map _) (by omega) ?_;clear hm;intro v1 w M1 hm hs1;obtain⟨p_v1,c_v1,rfl⟩:=hs1.form;replace hm:=hm.perm (List.perm_middle))|((with_reducible show qSt);refine zE hm ?_;clear hm;intro w hm)|(((with_reducible show qAl);refine zG hm ?_);clear hm;(first|(have hx_:=g1;clear hx_;(first|(have hx_:=g2;clear hx_;intro gx_)|intro g2))|intro g1);intro w hm))
     go_roundw
     case rel=>exact⟨k+1,M1,by omega,by go_num,by rw [et.out,List.map_append];exact hs1,hm.drop⟩
     case measure=>simp [intOf]<;>omega
   · obtain rfl:k=8:=by omega
     have hso:=HSO.out
     rw [List.take_of_length_le (Nat.le_of_eq HF.out)]at hso
     obtain⟨_,_,hv,hnc0,_,h0,hcell⟩:=hso.cells hm
     cases hv
     have hrd:RdB wr p0 (outL F):=⟨fun hl=>h0 (by omega),fun i hi=>by
       obtain⟨a,rfl,ha⟩:=hcell i (v8 ((outL F).getD i 0)) (by rw [List.getElem?_map,List.getElem?_eq_getElem hi,List.getD_eq_getElem?_getD,List.getElem?_eq_getElem hi];rfl)
       exact ha⟩
     have HRD:=hid hrd
     have lO:(outL F).length=64:=by rw [outL_length,HF.out]
     have hc0:(64:Int)≤(c0:Int):=by omega
     have hsc:(sz:Int)≤(c0:Int):=by omega
     have hg2:=Has.app (M:=Mo) hg1
     clear hrd hcell hso
     go_wp2_with (first|((with_reducible apply wq_ld1 hm);exact rfl;infer_instance;exact rfl;(focus (repeat first|exact .hd|assumption|apply Has.tl);done);(exact hashC_size HF.out)))
     go_ret
     have lt:((outL F).take sz).length=sz:=by rw [List.length_take,lO];omega
     refine⟨_,rfl,⟨p0,c0, ?_,by rw [lt];omega,HRD.out.take sz⟩,HE.out _ hm.dropN⟩
     rw [lt];rfl
section
variable {P:Program} {ops:Array Oper} {Q:Exit→Act→World→Prop} {rest:List Oper} {dst:Option Tmp} {ty:TypeId} {pos:String} {aft:Array Edge} {gd:Option (Nat×Bool)} {a:Act} {w:World} {T:TypeId} {x:Operand} {n:Nat} {cs:List Value} {A:Addr}
theorem run_rdN(h:∀(j:Nat)(v:Value),cs[j]? =some v→w.cell? (A.add j)=some v)[hT:Many P T n](hn:cs.length=n):(Instr.loadAt T (.pointer (some A))).run P w= .ok (.agg cs.toArray) w:=by
 obtain⟨d,hu,hd⟩:=Option.map_eq_some_iff.1 hT.row
 have hl:(loadCells A cs.length).run P w= .ok cs.toArray w:=run_loadCells_list (P:=P) w A cs h
 have hagg:(isAgg T).run P w= .ok true w:=by
   unfold isAgg
   rw [Sem.run_bind,run_underlying hu w]
   cases d<;>simp_all
 obtain⟨i,hi1,hi2⟩:=Option.map_eq_some_iff.1 hT.size
 simp [Instr.loadAt,Instr.sureAddr,loadVar,Sem.run_bind,hagg,sizeOf,typeInfo,hi1,hi2,←hn,hl]
theorem wq_rdN(h:∀(j:Nat)(v:Value),cs[j]? =some v→w.cell? (A.add j)=some v)(hgd:Region.wanted (Oper.mk dst (.load T x) ty pos aft gd) (yielded ops a.tmps)=true)(hT:Many P T n)(hx:a.eval x= .pointer (some A))(hn:cs.length=n)(hr:wpList P ops Q rest (a.put dst (.agg cs.toArray)) w):wpList P ops Q ((Oper.mk dst (.load T x) ty pos aft gd)::rest) a w:=
 wpList_want hgd fun K hK=>by
   unfold Oper.wp execOp
   simp only [hx,Sem.run_bind,run_rdN h hn,Result.andThen_ok,Sem.run_pure]
   exact hK _ _ hr
end
theorem wq_build2 {P:Program}{ops:Array Oper}{Q:Exit→Act→World→Prop}{rest:List Oper}{dst:Option Tmp}{ty:TypeId}{pos:String}{aft:Array Edge}{gd:Option (Nat×Bool)}{a:Act}{w:World}{T:TypeId}{x y:Operand}{v:Value}{i j:Nat}{u u':Value}(hb:∀w,(Instr.build T #[(i,u),(j,u')]).run P w= .ok v w)(hgd:Region.wanted (Oper.mk dst (.build T #[(i,x),(j,y)]) ty pos aft gd) (yielded ops a.tmps)=true)(hx:a.eval x=u)(hy:a.eval y=u')(hr:wpList P ops Q rest (a.put dst v) w):wpList P ops Q ((Oper.mk dst (.build T #[(i,x),(j,y)]) ty pos aft gd)::rest) a w:=
 wq_buildN (fun w=>by simpa [hx,hy]using hb w) hgd hr
theorem CoefB.first {w:World}(h:CoefB w):∀(j:Nat)(v:Value),(firstL.map v64)[j]? =some v→w.cell? ((⟨3,0,none⟩:Addr).add j)=some v:=by
 intro j v hj
 rw [Addr.add_mid,Nat.zero_add]
 have hl:j<8:=by
   have:=(List.getElem?_eq_some_iff.1 hj).1
   simpa [firstL_length]using this
 rw [h.1 j hl,←hj,map64_at firstL (by rw [firstL_length];exact hl)]
theorem build_hash(sz:Int)(w:World):(Instr.build 193 #[(0,A64 firstL),(3, .int .i64 sz)]).run Tryz.prog w= .ok (.agg (hashC firstL 0 (.slice none 0 0) sz).toArray) w:=by kernel_rfl
theorem start_bits(k s:Nat)(hk:k≤64)(hs:s≤64):BitVec.ofInt 64 (bits BinOp.xor IntKind.u64 (bits BinOp.xor IntKind.u64 16842752 ((k:Int)*256)) (s:Int))=((0x01010000#64)^^^(BitVec.ofNat 64 k<<<8))^^^BitVec.ofNat 64 s:=by
 have:∀k s:Fin 65,BitVec.ofInt 64 (bits BinOp.xor IntKind.u64 (bits BinOp.xor IntKind.u64 16842752 ((k.val:Int)*256)) (s.val:Int))=((0x01010000#64)^^^(BitVec.ofNat 64 k.val<<<8))^^^BitVec.ofNat 64 s.val:=by decide+kernel
 exact this ⟨k,by omega⟩ ⟨s,by omega⟩
theorem hashC_set0 {h:List (BitVec 64)}{n:Nat}{v:Value}{sz:Int}{x:BitVec 64}(hh:h.length=8):(hashC h n v sz).set 0 (v64 x)=hashC (setN h 0 x) n v sz:=by
 unfold hashC;rw [List.set_append_left _ _ (by simp [hh]),mapv_set]
theorem new_ok(size:Nat)(key:List Byte)(p:Option Addr)(c:Nat)(h0:1≤size)(h1:size≤64)(hk:key.length≤64)(w0 w:World)(L:List Blk)(hc:CoefB w0)(hr:∀w' M,Own w0 w' (M++L)→RdB w' p key)(hm:Own w0 w L):
   Calls Tryz.prog 92 #[.int .i64 size, .slice p key.length c] w fun e w'=>∃g v M,e= .returned (.tuple #[.pointer (some ⟨g,0,none⟩), .int .i64 0])∧Own w0 w' (⟨g,193,hashK (startL size key.length) (keyL key) (nbk (keyL key).length) v size⟩::(M++L))∧RestO M (keyL key) (nbk (keyL key).length) v:=by
 have a1:decide ((size:Int)<1)=false:=by simp;omega
 have a2:¬(size:Int)<1:=by omega
 have a3:decide ((64:Int)<(size:Int))=false:=by simp;omega
 have a4:¬(64:Int)<(size:Int):=by omega
 have a5:decide ((64:Int)<(key.length:Int))=false:=by simp;omega
 have a6:¬(64:Int)<(key.length:Int):=by omega
 have HC:=hid hc
 have HR:=hid hr
 have lf:=hashC_length (h:=firstL) (n:=0) (v:= .slice none 0 0) (sz:=(size:Int)) firstL_length
 have ES:=hid (show(hashC firstL 0 (.slice none 0 0) (size:Int)).set 0 (v64 (nth firstL 0^^^BitVec.ofInt 64 (bits BinOp.xor IntKind.u64 (bits BinOp.xor IntKind.u64 16842752 ((key.length:Int)*256)) (size:Int))))=hashK (startL size key.length) [] 0 (.slice none 0 0) size by
   rw [hashC_set0 firstL_length,start_bits _ _ hk h1];rfl)
 have f0:=hid (show(hashC firstL 0 (.slice none 0 0) (size:Int))[0]? =some (v64 (nth firstL 0))from rfl)
 clear hc hr
 by_cases hk0:key.length=0
 · have b1:decide ((0:Int)<(key.length:Int))=false:=decide_eq_false (by omega)
   have b2:¬(0:Int)<(key.length:Int):=by omega
   have b3:¬0<key.length:=by omega
   have EK:=hid (show keyL key=[]by rw [keyL,if_pos hk0])
   clear hk0
   go_enter Tryz.func92,Tryz.ntmps92
   go_wp2_with (first|((with_reducible apply wq_rdN (cs:=firstL.map v64) (HC.out.ext hm.x).first);exact rfl;infer_instance;exact rfl;exact rfl)|((with_reducible apply wq_build2 (build_hash (size:Int)));exact rfl;exact rfl;exact rfl)|(((with_reducible show qBx);refine zH hm ?_);clear hm;(first|(have hx_:=g1;clear hx_;intro gx_)|intro g1);intro w hm))
   refine rgE 17 47 ?_
   simp only [zTa]
   repeat (first
       |(apply walk_is rfl rfl rfl;(intro wx hwx;(with_reducible apply gq_ld1 (hm.ext hwx));infer_instance;exact rfl;(focus (repeat first|exact .hd|assumption|apply Has.tl);done);(exact f0.out));(simp only [zPu];rfl))
       | (apply walk_is rfl rfl rfl
          · (intro wx hwx;go_simp;(try go_bits);first|exact gives_same|exact gives_skip)
          · (simp only [zPu];rfl))
       | (apply walk_not rfl rfl rfl
          · (simp only [zPu];rfl)))
   intro wz hwz
   simp only [zZi]
   repeat (first|rw [fin_is]|(rw [fin_cons];intro _ _))
   rw [fin_nil]
   try (replace hm:=hm.ext hwz)
   simp only [zPu]
   go_wp2_with (first|((((with_reducible show qSt);first|((with_reducible apply wq_s1v (f:=v64) hm);exact rfl;infer_instance;exact rfl;exact rfl;infer_instance;(focus (repeat first|exact .hd|assumption|apply Swap.tl);done);(focus (first|omega|(simp;omega)|(refine ltB ?_;first|omega|(simp;done)|(simp;omega)))))));clear hm;intro w hm))
   go_ret2
   rw [ES.out]at hm
   rw [EK.out]
   exact⟨g1, .slice none 0 0,[],rfl,hm,SlO.nil _ _⟩
 · have b1:decide ((0:Int)<(key.length:Int))=true:=decide_eq_true (by omega)
   have b2:(0:Int)<(key.length:Int):=by omega
   have b3:0<key.length:=by omega
   have EK:=hid (show keyL key=pad key 128 by rw [keyL,if_neg hk0])
   have lp:(pad key 128).length≤200:=by
     rw [pad,List.length_append,List.length_replicate]
     have:=roomN_lt key.length 128;omega
   have LP:=hid lp
   clear hk0 lp
   go_enter Tryz.func92,Tryz.ntmps92
   go_wp2_with (first|((with_reducible apply wq_rdN (cs:=firstL.map v64) (HC.out.ext hm.x).first);exact rfl;infer_instance;exact rfl;exact rfl)|((with_reducible apply wq_build2 (build_hash (size:Int)));exact rfl;exact rfl;exact rfl)|(((with_reducible show qBx);refine zH hm ?_);clear hm;(first|(have hx_:=g1;clear hx_;intro gx_)|intro g1);intro w hm))
   refine rgE 17 47 ?_
   simp only [zTa]
   repeat (first
       |(apply walk_is rfl rfl rfl;(intro wx hwx;(with_reducible apply gq_ld1 (hm.ext hwx));infer_instance;exact rfl;(focus (repeat first|exact .hd|assumption|apply Has.tl);done);(exact f0.out));(simp only [zPu];rfl))
       | (apply walk_is rfl rfl rfl
          · (intro wx hwx;go_simp;(try go_bits);first|exact gives_same|exact gives_skip)
          · (simp only [zPu];rfl))
       | (apply walk_not rfl rfl rfl
          · (simp only [zPu];rfl)))
   intro wz hwz
   simp only [zZi]
   repeat (first|rw [fin_is]|(rw [fin_cons];intro _ _))
   rw [fin_nil]
   try (replace hm:=hm.ext hwz)
   simp only [zPu]
   go_wp2_with (first|((((with_reducible show qSt);first|((with_reducible apply wq_s1v (f:=v64) hm);exact rfl;infer_instance;exact rfl;exact rfl;infer_instance;(focus (repeat first|exact .hd|assumption|apply Swap.tl);done);(focus (first|omega|(simp;omega)|(refine ltB ?_;first|omega|(simp;done)|(simp;omega)))))));clear hm;intro w hm))
   refine(padded_any key p c 128 _ (HR.out _ [_] hm) (by omega) (by decide) (by decide)).mono ?_
   rintro e w ⟨v,rfl,⟨pp,cc,rfl,hcc,hrb⟩,hx_⟩
   replace hm:=hm.ext hx_
   rw [ES.out]at hm
   have HRB:=hid hrb
   clear hx_ hrb
   go_wp2_with fail
   refine(write_any g1 (startL size key.length) [] size (pad key 128) pp cc (startL_length _ _) (by have:=LP.out;simp;omega) w0 _ [] L (.slice none 0 0) HC.out HRB.out hm (SlO.nil _ _)).mono ?_
   rintro e w ⟨rfl,v',M',hm,hs⟩
   go_wp2
   go_ret2
   rw [EK.out]
   rw [List.nil_append]at hm hs
   exact⟨g1,v',M',rfl,hm,hs⟩
theorem keyL_length(key:List Byte)(hk:key.length≤64):(keyL key).length≤200:=by
 unfold keyL
 split
 · simp
 · rw [pad,List.length_append,List.length_replicate]
   have:=roomN_lt key.length 128;omega
theorem bsum_ok(size:Nat)(key:List Byte)(p:Option Addr)(c:Nat)(b:List Byte)(q:Option Addr)(d:Nat)(h0:1≤size)(h1:size≤64)(hk:key.length≤64)(hb:b.length≤35184372088832)(w0 w:World)(L:List Blk)(hc:CoefB w0)(hr:∀w' M,Own w0 w' (M++L)→RdB w' p key)(hr2:∀w' M,Own w0 w' (M++L)→RdB w' q b)(hm:Own w0 w L):
   Calls Tryz.prog 68 #[.int .i64 size, .slice p key.length c, .slice q b.length d] w fun e w'=>∃x,e= .returned (.tuple #[x, .int .i64 0])∧BytesS (sumL size key b) x w'∧∃M,Own w0 w' (M++L):=by
 have lk:=keyL_length key hk
 have HC:=hid hc
 have HR:=hid hr
 have HR2:=hid hr2
 clear hc hr hr2
 go_enter Tryz.func68,Tryz.ntmps68
 go_wp2_with fail
 refine(new_ok size key p c h0 h1 hk w0 _ L HC.out HR.out hm).mono ?_
 rintro e w ⟨g,v,M,rfl,hm,hs⟩
 go_wp2_with fail
 refine(write_any g _ (keyL key) size b q d (startL_length _ _) (by omega) w0 _ M L v HC.out (HR2.out _ (⟨g,193,_⟩::M) hm) hm hs).mono ?_
 rintro e w ⟨rfl,v',M',hm,hs⟩
 go_wp2_with fail
 refine(hsum_any g _ (keyL key++b) size (startL_length _ _) h1 (by rw [List.length_append];omega) w0 _ M' L v' HC.out hm hs).mono ?_
 rintro e w ⟨x,rfl,hx,hm⟩
 go_wp2
 go_ret2
 exact⟨x,rfl,hx,⟨g,193,_⟩::M',hm⟩
theorem KeyR.off {w:World}{g:Nat}{K:KeyP}(h:KeyR w g K)(j i:Int)(hj:j≤9223372036854775807)(hi:i≤9223372036854775807):Gives Tryz.prog 126 #[.pointer (some ⟨g,0,none⟩), .int .i64 j, .int .i64 i] w (A8 (offZ K j i)):=by
 by_cases hn:j<0∨i<0
 · rw [offZ,if_pos hn];exact off_neg g j i w hn
 · rw [offZ,if_neg hn]
   have:=off_pos g K j.toNat i.toNat w h (by omega) (by omega)
   rwa [Int.toNat_of_nonneg (by omega),Int.toNat_of_nonneg (by omega)]at this
theorem e_neg(g:Nat)(j i:Int)(x:List Byte)(hx:x.length=16)(w0:World)(h:j< -1∨i<0):Gives Tryz.prog 98 #[.pointer (some ⟨g,0,none⟩), .int .i64 j, .int .i64 i,A8 x] w0 (A8 (zer 16)):=by
 unfold Gives
 have hm:=Own.start w0
 by_cases h1:j< -1
 · have e1:decide (j< -1)=true:=decide_eq_true h1
   go_enter Tryz.func98,Tryz.ntmps98
   go_wp2_with (first|((with_reducible apply wq_build0 build_z16);exact rfl)|((with_reducible show qSt);refine zE hm ?_;clear hm;intro w hm)|((first|((with_reducible show qAl);refine zG hm ?_)|((with_reducible show qBx);refine zH hm ?_));clear hm;intro gx_;intro w hm))
   refine rtO hm rfl rfl ⟨rfl,hm.x⟩
 · have e1:decide (j< -1)=false:=decide_eq_false h1
   have h2:i<0:=by omega
   have e2:decide (i<0)=true:=decide_eq_true h2
   go_enter Tryz.func98,Tryz.ntmps98
   go_wp2_with (first|((with_reducible apply wq_build0 build_z16);exact rfl)|((with_reducible show qSt);refine zE hm ?_;clear hm;intro w hm)|((first|((with_reducible show qAl);refine zG hm ?_)|((with_reducible show qBx);refine zH hm ?_));clear hm;intro gx_;intro w hm))
   refine rtO hm rfl rfl ⟨rfl,hm.x⟩
theorem e_pos(g:Nat)(K:KeyP)(j i:Nat)(x:List Byte)(hx:x.length=16)(w0:World)(hk:KeyR w0 g K)(hj:j≤9223372036854775807)(hi:i≤9223372036854775807):Gives Tryz.prog 98 #[.pointer (some ⟨g,0,none⟩), .int .i64 j, .int .i64 i,A8 x] w0 (A8 (eN K j i x)):=by
 unfold Gives
 have hm:=Own.start w0
 have HI:=hid hk.rdi
 have HJ:=hid hk.rdj
 have HL:=hid hk.rdl
 have li:=hk.1.hi
 have lj:=hk.1.hj
 have ll:=hk.1.hl
 obtain⟨hok,gt,gb,hrk,hrt⟩:=id hk
 have HRK:=hid fun (wx:World)(h:Ext w0 wx)=>row_ext hrk h
 have HRT:=hid fun (wx:World)(h:Ext w0 wx)=>row_ext hrt h
 have PT:Hid ((kcells gt K)[0]? =some (.pointer (some ⟨gt,0,none⟩))):=hid rfl
 have e0:decide ((j:Int)< -1)=false:=decide_eq_false (by omega)
 have e1:¬(j:Int)< -1:=by omega
 have e2:decide ((i:Int)<0)=false:=decide_eq_false (by omega)
 have e3:decide ((0:Int)≤(j:Int))=true:=decide_eq_true (by omega)
 have e4:decide ((j:Int)≥0)=true:=decide_eq_true (by omega)
 have D1:=hid fun (wx:World)(h:Ext w0 wx)=>off_pos g K j i wx (hk.ext h) hj hi
 have lO:=offN_length K j i
 have D2:Hid (∀(wx:World)(p:Option Addr)(c:Nat),1≤c→RdK wx p 16 [offN K j i]→Gives Tryz.prog 125 #[A8 x, .slice p 1 c] wx (A8 (bothL x (offN K j i)))):=hid fun wx p c hc h=>ezplus_any x [offN K j i] p c hx wx h hc (by simp)
 have lX:(bothL x (offN K j i)).length=16:=bothL_length _ _
 have D3:Hid (∀(wx:World)(p:Option Addr)(c:Nat),4≤c→RdK wx p 16 [K.j,K.i,K.l,zer 16]→Row wx gt 88 (tcells gb mixT unmixT)→Gives Tryz.prog 89 #[.pointer (some ⟨gt,0,none⟩),A8 (bothL x (offN K j i)), .slice p 4 c] wx (A8 (eN K j i x))):=hid fun wx p c hc h hr=>trounds_any gt gb (bothL x (offN K j i)) [K.j,K.i,K.l,zer 16] p c lX wx h hc (by simp) hr
 have lE:=eN_length K j i x
 have lz:(zer (n:=8) 16).length=16:=zer_length
 have hk1:Hid (∀k∈[offN K j i],k.length=16):=hid (by simp [lO])
 have hk4:Hid (∀k∈[K.j,K.i,K.l,zer 16],k.length=16):=hid (by simp [li,lj,ll,lz])
 have ha1:=Nat.le_of_eq hx
 have ha2:=Nat.le_of_eq hx.symm
 generalize eN K j i x=Y at*
 generalize bothL x (offN K j i)=X at*
 generalize offN K j i=O at*
 clear hk hok hrk hrt
 go_enter Tryz.func98,Tryz.ntmps98
 go_wp2_with (first|((first|((with_reducible show qAl);refine zG hm ?_)|((with_reducible show qBx);refine zH hm ?_));clear hm;intro gx_;intro w hm))
 have hi1:=fun wx (hwx:Ext w wx)=>HI.out.ext (hm.x.trans hwx)
 have hj1:=fun wx (hwx:Ext w wx)=>HJ.out.ext (hm.x.trans hwx)
 have hl1:=fun wx (hwx:Ext w wx)=>HL.out.ext (hm.x.trans hwx)
 have hr1:=fun wx (hwx:Ext w wx)=>HRK.out wx (hm.x.trans hwx)
 have hx0:=hm.x
 refine rgE 26 77 ?_
 simp only [zTa]
 repeat (first
     | (apply walk_is rfl rfl rfl
        · (intro wx hwx;(with_reducible apply gq_rdW ((hi1) wx hwx));infer_instance;exact rfl;(focus (first|rfl|omega|(simp;done)|(simp;omega))))
        · (simp only [zPu];rfl))
     | (apply walk_is rfl rfl rfl
        · (intro wx hwx;(with_reducible apply gq_rdW ((hj1) wx hwx));infer_instance;exact rfl;(focus (first|rfl|omega|(simp;done)|(simp;omega))))
        · (simp only [zPu];rfl))
     | (apply walk_is rfl rfl rfl
        · (intro wx hwx;(with_reducible apply gq_rdW ((hl1) wx hwx));infer_instance;exact rfl;(focus (first|rfl|omega|(simp;done)|(simp;omega))))
        · (simp only [zPu];rfl))
     | (apply walk_is rfl rfl rfl
        · (intro wx hwx;(with_reducible apply gq_row1 ((hr1) wx hwx));infer_instance;exact rfl;exact PT.out)
        · (simp only [zPu];rfl))
     |(apply walk_some (KeysS ([O])) 33 (KeysS.stable _) rfl rfl rfl rfl;(intro wx hwx;exact gq_bs1 (hk1.out) (bs_run1 O lO wx) rfl))
     |(apply walk_some (KeysS ([K.j,K.i,K.l,zer 16])) 48 (KeysS.stable _) rfl rfl rfl rfl;(intro wx hwx;exact gq_bs4 (hk4.out) (bs_run4 K.j K.i K.l (zer 16) lj li ll lz wx) rfl rfl rfl rfl))
     | (apply walk_from (T:=[(33,KeysS [O])]) rfl rfl
        · (intro wx hwx;simp only [withS];(rintro x_ ⟨p,c,rfl,hlc,hk'⟩);refine⟨rfl, ?_⟩;go_simp;exact gives_call (D2.out wx p c hlc hk'))
        · (simp only [zPu];rfl))
     | (apply walk_from (T:=[(48,KeysS [K.j,K.i,K.l,zer 16])]) rfl rfl
        · (intro wx hwx;simp only [withS];(rintro x_ ⟨p,c,rfl,hlc,hk'⟩);refine⟨rfl, ?_⟩;go_simp;exact gives_call (D3.out wx p c hlc hk' (HRT.out wx (hx0.trans hwx))))
        · (simp only [zPu];rfl))
     |(apply walk_is rfl rfl rfl;(intro wx hwx;(with_reducible apply gq_build build_z16);(first|rfl|simp [Act.eval]|kernel_rfl));(simp only [zPu];rfl))
     | (apply walk_is rfl rfl rfl
        · (intro wx hwx;first|((with_reducible show qGl);exact zK (hm.ext hwx))|(go_simp;(try go_bits);first|exact gives_same|exact gives_skip|with_reducible exact gives_call (D1.out wx (hx0.trans hwx))))
        · (simp only [zPu];rfl))
     | (apply walk_not rfl rfl rfl
        · (simp only [zPu];rfl)))
 intro wz hwz
 simp only [zZi]
 repeat (first|rw [fin_is]|(rw [fin_cons];intro _ _))
 rw [fin_nil]
 try (replace hm:=hm.ext hwz)
 simp only [zPu]
 clear hi1 hj1 hl1 hr1 hx0
 go_wp2_with (first|((with_reducible show qSt);refine zE hm ?_;clear hm;intro w hm))
 refine rtO hm rfl rfl ⟨rfl,hm.x⟩
def tenF(K:KeyP):Nat→List (List Byte)
 |0=>[]
 |k+1=>tenF K k++[K.at ((k%3:Nat):Int)]
theorem tenF_length(K:KeyP):∀k,(tenF K k).length=k
 |0=>rfl
 |k+1=>by rw [tenF,List.length_append,tenF_length K k];rfl
theorem tenF_each {K:KeyP}(h:K.Ok):∀k,∀b∈tenF K k,b.length=16
 |0=>by simp [tenF]
 | k+1=>by
   intro b hb
   rw [tenF,List.mem_append,List.mem_singleton]at hb
   rcases hb with hb|rfl
   · exact tenF_each h k b hb
   · exact KeyP.at_length h _
theorem e_ten(g:Nat)(K:KeyP)(i:Nat)(x:List Byte)(hx:x.length=16)(w0:World)(hk:KeyR w0 g K)(hi:i≤9223372036854775807):Gives Tryz.prog 98 #[.pointer (some ⟨g,0,none⟩), .int .i64 (-1), .int .i64 i,A8 x] w0 (A8 (eT K i x)):=by
 unfold Gives
 have hm:=Own.start w0
 have HL:=hid hk.rdl
 have ll:=hk.1.hl
 obtain⟨hok,gt,gb,hrk,hrt⟩:=id hk
 have HRK:=hid fun (wx:World)(h:Ext w0 wx)=>row_ext hrk h
 have HRT:=hid fun (wx:World)(h:Ext w0 wx)=>row_ext hrt h
 have PT:Hid ((kcells gt K)[0]? =some (.pointer (some ⟨gt,0,none⟩))):=hid rfl
 have HK:=hid fun (wx:World)(h:Ext w0 wx)=>hk.ext h
 have OK:=hid hok
 have e2:decide ((i:Int)<0)=false:=decide_eq_false (by omega)
 have D1:Hid (∀wx,Gives Tryz.prog 128 #[.int .u64 (i:Int),A8 K.l] wx (A8 (mulL (BitVec.ofNat 64 i) K.l))):=hid fun wx=>by rw [natv64 (by omega)];exact ring_mul _ K.l ll wx
 have lO:=mulL_length (BitVec.ofNat 64 i) K.l
 have D2:Hid (∀(wx:World)(p:Option Addr)(c:Nat),1≤c→RdK wx p 16 [mulL (BitVec.ofNat 64 i) K.l]→Gives Tryz.prog 125 #[A8 x, .slice p 1 c] wx (A8 (bothL x (mulL (BitVec.ofNat 64 i) K.l)))):=hid fun wx p c hc h=>ezplus_any x [mulL (BitVec.ofNat 64 i) K.l] p c hx wx h hc (by simp)
 have lX:(bothL x (mulL (BitVec.ofNat 64 i) K.l)).length=16:=bothL_length _ _
 have D3:Hid (∀(wx:World)(p:Option Addr)(c:Nat),10≤c→RdK wx p 16 (tenF K 10)→Row wx gt 88 (tcells gb mixT unmixT)→Gives Tryz.prog 89 #[.pointer (some ⟨gt,0,none⟩),A8 (bothL x (mulL (BitVec.ofNat 64 i) K.l)), .slice p 10 c] wx (A8 (eT K i x))):=hid fun wx p c hc h hr=>trounds_any gt gb (bothL x (mulL (BitVec.ofNat 64 i) K.l)) (tenK K) p c lX wx h hc (by simp [tenK]) hr
 have lE:=eT_length K i x
 have hk1:Hid (∀k∈[mulL (BitVec.ofNat 64 i) K.l],k.length=16):=hid (by simp [lO])
 have ha1:=Nat.le_of_eq hx
 have ha2:=Nat.le_of_eq hx.symm
 have EACH:=hid (tenF_each hok)
 have LEN:=hid (tenF_length K)
 generalize eT K i x=Y at*
 generalize bothL x (mulL (BitVec.ofNat 64 i) K.l)=X at*
 generalize mulL (BitVec.ofNat 64 i) K.l=O at*
 clear hk hok hrk hrt
 go_enter Tryz.func98,Tryz.ntmps98
 go_wp2_with (first|((first|((with_reducible show qAl);refine zG hm ?_)|((with_reducible show qBx);refine zH hm ?_));clear hm;(first|(have hx_:=g1;clear hx_;(first|(have hx_:=g2;clear hx_;intro gx_)|intro g2))|intro g1);intro w hm))
 go_loopw [9,50] (fun v n wr=>∃(k:Nat)(M:List Blk),k≤10∧n= .int .i64 k∧SlO M 132 16 v k (catV (tenF K k))∧Own w0 wr (M++[⟨g2,132,(zer 16).map v8⟩,⟨g1,132,x.map v8⟩])) (fun _ n _=>10-(intOf n).toNat)
 case atStart=>exact⟨0,[],by omega,rfl,SlO.nil _ _,hm⟩
 case round =>
   obtain⟨k,M,hk,rfl,hso,hm⟩:=hrel
   obtain⟨p0,c0,rfl⟩:=hso.form
   have HSO:=hid hso
   clear hso
   by_cases hlt:k<10
   · have hd:decide ((k:Int)<10)=true:=decide_eq_true (by omega)
     obtain⟨r,hr,hr8⟩:∃r:Nat,k%3=r∧r<3:=⟨_,rfl,Nat.mod_lt _ (by omega)⟩
     have a1:(k:Int)%3=(r:Int):=by omega
     have a2:(k:Int).tmod 3=(r:Int):=by rw [Int.tmod_eq_emod_of_nonneg (by omega)];exact a1
     have CP:=hid fun (wx:World)(h:Ext w0 wx)=>part_any g K r wx (HK.out wx h)
     have lP:=KeyP.at_length OK.out (r:Int)
     have EP:Hid (tenF K (k+1)=tenF K k++[K.at (r:Int)]):=hid (by rw [tenF,hr])
     have hkp:Hid (∀b∈[K.at (r:Int)],b.length=16):=hid (by simp [lP])
     generalize K.at (r:Int)=B at*
     clear hr
     have lcat:(catV [B]).length=1*16:=catV_length 16 [B] hkp.out
     go_wp2_with (first|(go_at_call 127;(with_reducible refine(CP.out _ hm.x).mono ?_);rintro e_ w ⟨rfl,hx_⟩;replace hm:=hm.ext hx_;clear hx_)|((with_reducible apply wq_bs1 hm (bs_run1 B lP _));exact rfl;exact rfl;clear hm;intro gk w hm)|((with_reducible show wpList _ _ _ (Oper.mk _ (Op.call _) _ _ _ _::_) _ _);refine wplO_app (M:=M) (R:=_) (ds:=catV [B]) (hm.perm (List.perm_middle.symm)) HSO.out rfl rfl rfl rfl Tryz.underlying161 lcat (RdK.cells ⟨hkp.out,RdB.of_row (hm.row (by repeat (first|exact Has.hd|assumption|apply Has.tl|apply Has.app)))⟩) (catV_one _) (by omega) ?_;clear hm;intro v1 w M1 hm hs1;obtain⟨p_v1,c_v1,rfl⟩:=hs1.form;replace hm:=hm.perm (List.perm_middle)))
     go_roundw
     case rel=>exact⟨k+1,M1,by omega,by go_num,by rw [EP.out,catV_append];exact hs1,hm.drop⟩
     case measure=>simp [intOf]<;>omega
   · obtain rfl:k=10:=by omega
     have hd:decide (((10:Nat):Int)<10)=false:=decide_eq_false (by omega)
     obtain⟨hk10,hn10,hc10⟩:=slo_rdK HSO.out (EACH.out 10) hm
     have HK10:=hid hk10
     clear hk10 hn10
     go_wp2_with fail
     have hl1:=fun wx (hwx:Ext wr wx)=>HL.out.ext (hm.x.trans hwx)
     have hr1:=fun wx (hwx:Ext wr wx)=>HRK.out wx (hm.x.trans hwx)
     have hx0:=hm.x
     refine rgE 16 77 ?_
     simp only [zTa]
     repeat (first
         | (apply walk_is rfl rfl rfl
            · (intro wx hwx;(with_reducible apply gq_rdW ((hl1) wx hwx));infer_instance;exact rfl;(focus (first|rfl|omega|(simp;done)|(simp;omega))))
            · (simp only [zPu];rfl))
         | (apply walk_is rfl rfl rfl
            · (intro wx hwx;(with_reducible apply gq_row1 ((hr1) wx hwx));infer_instance;exact rfl;exact PT.out)
            · (simp only [zPu];rfl))
         |(apply walk_some (KeysS ([O])) 73 (KeysS.stable _) rfl rfl rfl rfl;(intro wx hwx;exact gq_bs1 (hk1.out) (bs_run1 O lO wx) rfl))
         | (apply walk_from (T:=[(73,KeysS [O])]) rfl rfl
            · (intro wx hwx;simp only [withS];(rintro x_ ⟨p,c,rfl,hlc,hk'⟩);refine⟨rfl, ?_⟩;go_simp;exact gives_call (D2.out wx p c hlc hk'))
            · (simp only [zPu];rfl))
         | (apply walk_is rfl rfl rfl
            · (intro wx hwx;first|((with_reducible show qGl);exact zK (hm.ext hwx))|(go_simp;(try go_bits);first|exact gives_same|exact gives_skip|with_reducible exact gives_call (D1.out wx)|exact gives_call (D3.out wx p0 c0 hc10 (HK10.out.ext hwx) (HRT.out wx (hx0.trans hwx)))))
            · (simp only [zPu];rfl))
         | (apply walk_not rfl rfl rfl
            · (simp only [zPu];rfl)))
     intro wz hwz
     simp only [zZi]
     repeat (first|rw [fin_is]|(rw [fin_cons];intro _ _))
     rw [fin_nil]
     try (replace hm:=hm.ext hwz)
     simp only [zPu]
     clear hl1 hr1 hx0
     go_wp2_with (first|((with_reducible show qSt);refine zE hm ?_;clear hm;intro w hm))
     refine rtO hm rfl rfl ⟨rfl,hm.x⟩
theorem KeyR.e {w:World}{g:Nat}{K:KeyP}(h:KeyR w g K)(j i:Int)(x:List Byte)(hx:x.length=16)(hj:j≤9223372036854775807)(hi:i≤9223372036854775807):Gives Tryz.prog 98 #[.pointer (some ⟨g,0,none⟩), .int .i64 j, .int .i64 i,A8 x] w (A8 (eZ K j i x)):=by
 by_cases hn:j< -1∨i<0
 · rw [eZ,if_pos hn];exact e_neg g j i x hx w hn
 · rw [eZ,if_neg hn]
   by_cases h0:j<0
   · rw [if_pos h0]
     obtain rfl:j= -1:=by omega
     have:=e_ten g K i.toNat x hx w h (by omega)
     rwa [Int.toNat_of_nonneg (by omega)]at this
   · rw [if_neg h0]
     have:=e_pos g K j.toNat i.toNat x hx w h (by omega) (by omega)
     rwa [Int.toNat_of_nonneg (by omega),Int.toNat_of_nonneg (by omega)]at this
theorem build_keys(gt:Nat)(a b c:List Byte)(ha:a.length=16)(hb:b.length=16)(hc:c.length=16)(w:World):(Instr.build 139 #[(0, .pointer (some ⟨gt,0,none⟩)),(1,A8 a),(2,A8 b),(3,A8 c)]).run Tryz.prog w= .ok (.agg (kcells gt ⟨a,b,c⟩).toArray) w:=by
 obtain⟨a0,a1,a2,a3,a4,a5,a6,a7,a8,a9,a10,a11,a12,a13,a14,a15,rfl⟩:=len16 a ha
 obtain⟨b0,b1,b2,b3,b4,b5,b6,b7,b8,b9,b10,b11,b12,b13,b14,b15,rfl⟩:=len16 b hb
 obtain⟨c0,c1,c2,c3,c4,c5,c6,c7,c8,c9,c10,c11,c12,c13,c14,c15,rfl⟩:=len16 c hc
 kernel_rfl
theorem RdB.drop {w:World}{a:Addr}{l:List Byte}(h:RdB w (some a) l)(k:Nat):RdB w (some (a.add k)) (l.drop k):=
 ⟨fun _=>rfl,fun i hi=>by
   simp only [List.length_drop]at hi
   have:=h.2 (k+i) (by omega)
   simp only [Option.getD_some]at this⊢
   rw [add_add,this]
   simp [List.getElem?_drop]⟩
theorem ext_ok(gt gb:Nat)(key:List Byte)(p:Option Addr)(c:Nat)(w0:World)(h0:0<key.length)(h1:key.length≤128)(hkc:key.length≤c)(hk:RdB w0 p key)(hc:CoefB w0)(hrt:Row w0 gt 88 (tcells gb mixT unmixT)):
   Calls Tryz.prog 47 #[.pointer (some ⟨gt,0,none⟩), .slice p key.length c] w0 fun e w'=>∃g,e= .returned (.tuple #[.pointer (some ⟨g,0,none⟩), .int .i64 0])∧w0.heap.size≤g∧Row w' g 139 (kcells gt (keyOf key))∧Ext w0 w':=by
 have hm:=Own.start w0
 have HC:=hid hc
 have HK:=hid hk
 have HR:=hid fun (wx:World)(h:Ext w0 wx)=>row_ext hrt h
 have OK:=hid (keyOf_ok key)
 have b1:((key.length:Int)==0)=false:=by rw [beq_eq_false_iff_ne];omega
 have b2:¬(128:Int)<(key.length:Int):=by omega
 have b3:decide ((128:Int)<(key.length:Int))=false:=decide_eq_false b2
 have lb:=keyB_length key
 have D1:=hid fun (wx:World)(a:Addr)(c:Nat)(h:RdB wx (some a) (keyB key))=>show Gives Tryz.prog 69 #[.slice (some a) 48 c] wx (A8 (blk (keyB key)))from lb ▸ oblock_any (keyB key) (some a) c wx h
 have D2:=hid fun (wx:World)(a:Addr)(c:Nat)(h:RdB wx (some a) (keyB key))=>show Gives Tryz.prog 69 #[.slice (some (a.add 16)) 32 c] wx (A8 (blk ((keyB key).drop 16)))from(show((keyB key).drop 16).length=32 by rw [List.length_drop,lb]) ▸ oblock_any ((keyB key).drop 16) (some (a.add 16)) c wx (h.drop 16)
 have D3:=hid fun (wx:World)(a:Addr)(c:Nat)(h:RdB wx (some a) (keyB key))=>show Gives Tryz.prog 69 #[.slice (some (a.add 32)) 16 c] wx (A8 (blk ((keyB key).drop 32)))from(show((keyB key).drop 32).length=16 by rw [List.length_drop,lb]) ▸ oblock_any ((keyB key).drop 32) (some (a.add 32)) c wx (h.drop 32)
 have BK:=hid (build_keys gt (blk (keyB key)) (blk ((keyB key).drop 16)) (blk ((keyB key).drop 32)) (blk_length _) (blk_length _) (blk_length _))
 have EK:Hid (keyOf key=⟨blk (keyB key),blk ((keyB key).drop 16),blk ((keyB key).drop 32)⟩):=hid rfl
 have EB:=hid (show key.length=48→keyB key=key by intro h;rw [keyB,if_pos h])
 have ES:=hid (show¬key.length=48→keyB key=sumL 48 [] key by intro h;rw [keyB,if_neg h])
 have CB:=hid (bsum_ok 48 [] none 0 key p c (by omega) (by omega) (by simp) (by omega) w0 w0 [] hc (fun w' M h=>RdB.nil _ _) (fun w' M h=>hk.ext h.x) (Own.start w0))
 generalize blk ((keyB key).drop 16)=J at*
 generalize blk ((keyB key).drop 32)=L at*
 generalize blk (keyB key)=I at*
 generalize keyB key=B at*
 generalize keyOf key=K at*
 have AD:∀(a:Addr)(n:Nat),0<n→a.add n={block:=a.block,off:=a.off+n}:=fun a n hn=>by unfold Addr.add;split<;>first|rfl|omega|(simp_all;done)
 have d2:=D2.out
 have d3:=D3.out
 simp only [AD _ 16 (by omega)]at d2
 simp only [AD _ 32 (by omega)]at d3
 replace D2:=hid d2
 replace D3:=hid d3
 have LB:=hid lb
 clear hc hk hrt lb d2 d3 AD
 by_cases h48:key.length=48
 · obtain rfl:=EB.out h48
   obtain⟨a,rfl⟩:=Option.isSome_iff_exists.1 (HK.out.1 (by omega))
   have c1:¬c=16:=by omega
   have c2:¬c=32:=by omega
   have c3:¬(c:Int)=16:=by omega
   have c4:¬(c:Int)=32:=by omega
   have c5:(48:Int)≤(c:Int):=by omega
   have c6:48≤c:=by omega
   rw [h48]
   clear h0 h1 hkc b1 b2 b3 h48 CB EB ES
   go_enter Tryz.func47,Tryz.ntmps47
   go_wp2_with fail
   have hr1:=fun wx (hwx:Ext w0 wx)=>HK.out.ext hwx
   refine region_new 11 (fun w'=>Ext _ w') 37 (by kernel_rfl) (by kernel_rfl) rfl (fun _ _ h k=>h.trans k) (drew_ext _) ?_
   simp only [zTa]
   repeat (first
       | (apply walk_some (NewS (w0.heap.size) 139 (kcells gt ⟨I,J,L⟩)) 36 (NewS.stable _ _ _) rfl rfl rfl rfl
          · (intro wx hwx;go_simp;exact gives_new (cs:=kcells gt ⟨I,J,L⟩) hwx.size))
       |(apply walk_is rfl rfl rfl;(intro wx hwx;(with_reducible apply gq_build BK.out);(first|rfl|simp [Act.eval]|kernel_rfl));(simp only [zPu];rfl))
       | (apply walk_is rfl rfl rfl
          · (intro wx hwx;go_simp;(try go_bits);first|exact gives_same|exact gives_skip|with_reducible exact gives_call (D1.out wx a _ (hr1 wx hwx))|with_reducible exact gives_call (D2.out wx a _ (hr1 wx hwx))|with_reducible exact gives_call (D3.out wx a _ (hr1 wx hwx)))
          · (simp only [zPu];rfl))
       | (apply walk_not rfl rfl rfl
          · (simp only [zPu];rfl)))
   intro wz hwz
   simp only [zZi]
   repeat rw [fin_is]
   rw [fin_cons];intro x36 hx36
   repeat rw [fin_is]
   rw [fin_nil];intro hap
   simp only [zPu]at hap⊢
   obtain⟨gk,rfl,hgk,hrk⟩:=hx36
   go_wp2
   go_ret2
   exact⟨gk,rfl,hgk,EK.out ▸ hrk,hwz⟩
 · have EBS:=ES.out h48
   have n48:((key.length:Int) !=48)=true:=by rw [bne_iff_ne];omega
   clear h0 h1 hkc h48 EB ES
   go_enter Tryz.func47,Tryz.ntmps47
   go_wp2_with fail
   refine CB.out.mono ?_
   rintro e w ⟨x,rfl,hbs,M,hmM⟩
   replace hm:=hmM.x
   rw [←EBS]at hbs
   obtain⟨px,cx,rfl,hcx,hrx⟩:=hbs
   rw [LB.out]at hcx⊢
   obtain⟨a,rfl⟩:=Option.isSome_iff_exists.1 (hrx.1 (by rw [LB.out];omega))
   have c1:¬cx=16:=by omega
   have c2:¬cx=32:=by omega
   have c3:¬(cx:Int)=16:=by omega
   have c4:¬(cx:Int)=32:=by omega
   have c5:(48:Int)≤(cx:Int):=by omega
   clear EBS CB hmM
   go_wp2_with fail
   have hr1:=fun wx (hwx:Ext w wx)=>hrx.ext hwx
   refine region_new 11 (fun w'=>Ext _ w') 37 (by kernel_rfl) (by kernel_rfl) rfl (fun _ _ h k=>h.trans k) (drew_ext _) ?_
   simp only [zTa]
   repeat (first
       | (apply walk_some (NewS (w.heap.size) 139 (kcells gt ⟨I,J,L⟩)) 36 (NewS.stable _ _ _) rfl rfl rfl rfl
          · (intro wx hwx;go_simp;exact gives_new (cs:=kcells gt ⟨I,J,L⟩) hwx.size))
       |(apply walk_is rfl rfl rfl;(intro wx hwx;(with_reducible apply gq_build BK.out);(first|rfl|simp [Act.eval]|kernel_rfl));(simp only [zPu];rfl))
       | (apply walk_is rfl rfl rfl
          · (intro wx hwx;go_simp;(try go_bits);first|exact gives_same|exact gives_skip|with_reducible exact gives_call (D1.out wx a _ (hr1 wx hwx))|with_reducible exact gives_call (D2.out wx a _ (hr1 wx hwx))|with_reducible exact gives_call (D3.out wx a _ (hr1 wx hwx)))
          · (simp only [zPu];rfl))
       | (apply walk_not rfl rfl rfl
          · (simp only [zPu];rfl)))
   intro wz hwz
   simp only [zZi]
   repeat rw [fin_is]
   rw [fin_cons];intro x36 hx36
   repeat rw [fin_is]
   rw [fin_nil];intro hap
   simp only [zPu]at hap⊢
   obtain⟨gk,rfl,hgk,hrk⟩:=hx36
   go_wp2
   go_ret2
   exact⟨gk,rfl,Nat.le_trans hm.size hgk,EK.out ▸ hrk,hm.trans hwz⟩
def rightL(key:List Byte):Bool:=decide (0<key.length)&&decide (key.length≤128)
theorem KeyR.own {w0 w:World}{L:List Blk}{g gt gb:Nat}{K:KeyP}(ok:K.Ok)(hm:Own w0 w L)(h1:Has L ⟨g,139,kcells gt K⟩)(h2:Has L ⟨gt,88,tcells gb mixT unmixT⟩):KeyR w g K:=⟨ok,gt,gb,hm.row h1,hm.row h2⟩
theorem blk_xor(a b:List Byte)(ha:a.length=16)(hb:b.length=16):blk (xorL a b)=bothL a b:=by
 have lX:(xorL a b).length=16:=by rw [xorL_length,ha,hb];rfl
 refine nth_ext (by rw [blk_length,bothL_length]) fun i hi=> ?_
 rw [blk_length]at hi
 rw [bothL_nth _ _ _ hi,blk_nth _ _ hi]
 exact xorL_getD a b i (by rw [lX];exact hi)
theorem hplus_any(a b:List Byte)(ha:a.length=16)(hb:b.length=16)(w0:World):Gives Tryz.prog 123 #[A8 a,A8 b] w0 (A8 (bothL a b)):=by
 unfold Gives
 have hm:=Own.start w0
 have C1:=hid fun (w wx:World)(p q:Option Addr)(h1:RdB wx p a)(h2:RdB wx q b)=>by
   have h:=xor_any a b p q 16 16 wx h1 h2 (by omega) (by omega)
   rw [ha,hb]at h;exact h
 have eX:=blk_xor a b ha hb
 have C2:=hid fun (wx:World)(p:Option Addr)(c:Nat)(h:RdB wx p (xorL a b))=>eX ▸ oblock_any (xorL a b) p c wx h
 have lZ:(bothL a b).length=16:=bothL_length _ _
 generalize bothL a b=Z at*
 generalize xorL a b=X at*
 have ha1:=Nat.le_of_eq ha
 have ha2:=Nat.le_of_eq ha.symm
 have hb1:=Nat.le_of_eq hb
 have hb2:=Nat.le_of_eq hb.symm
 clear eX
 go_enter Tryz.func123,Tryz.ntmps123
 go_wp2_with (first|((first|((with_reducible show qAl);refine zG hm ?_)|((with_reducible show qBx);refine zH hm ?_));clear hm;(first|(have hx_:=g1;clear hx_;(first|(have hx_:=g2;clear hx_;intro gx_)|intro g2))|intro g1);intro w hm))
 have c1:=fun wx (hwx:Ext _ wx)=>C1.out wx wx _ _ ((hm.ext hwx).rdB (g:=g1) (l:=a) (by repeat (first|exact Has.hd|assumption|apply Has.tl))) ((hm.ext hwx).rdB (g:=g2) (l:=b) (by repeat (first|exact Has.hd|assumption|apply Has.tl)))
 refine rgE 4 9 ?_
 simp only [zTa]
 repeat (first
     | (apply walk_some (BytesS X) 7 (BytesS.stable _) rfl rfl rfl rfl
        · (intro wx hwx;go_simp;with_reducible exact gives_callR (c1 wx hwx)))
     | (apply walk_from (T:=[(7,BytesS X)]) rfl rfl
        · (intro wx hwx;simp only [withS];(rintro x ⟨p,c,rfl,hlc,hb'⟩);refine⟨rfl, ?_⟩;go_simp;with_reducible exact gives_call (C2.out wx p c hb'))
        · (simp only [zPu];rfl))
     | (apply walk_is rfl rfl rfl
        · (intro wx hwx;go_simp;(try go_bits);first|exact gives_same|exact gives_skip)
        · (simp only [zPu];rfl))
     | (apply walk_not rfl rfl rfl
        · (simp only [zPu];rfl)))
 intro wz hwz
 simp only [zZi]
 repeat (first|rw [fin_is]|(rw [fin_cons];intro _ _))
 rw [fin_nil]
 try (replace hm:=hm.ext hwz)
 simp only [zPu]
 clear c1
 go_wp2_with (first|((with_reducible show qSt);refine zE hm ?_;clear hm;intro w hm))
 refine rtO hm rfl rfl ⟨rfl,hm.x⟩
def slen:Value→Nat
 | .slice _ n _=>n
 |_=>0
theorem hpart_any(kv:Value)(F:Int→List Byte→List Byte)(hF:∀m x,(F m x).length=16)(j:Int)(b:List Byte)(p:Option Addr)(c:Nat)(w0:World)(hb:RdB w0 p b)(hc:b.length≤c)(hl:b.length≤70368744177000)
   (CE:∀wx,Ext w0 wx→∀(m:Int)(x:List Byte),x.length=16→m≤9223372036854775807→Gives Tryz.prog 98 #[kv, .int .i64 j, .int .i64 m,A8 x] wx (A8 (F m x))):
   Gives Tryz.prog 124 #[kv, .int .i64 j, .slice p b.length c] w0 (A8 (partG F b)):=by
 unfold Gives
 have hm:=Own.start w0
 have HB:=hid hb
 have HE:=hid CE
 have HF:=hid hF
 have lG:=partG_length F b
 have E0:=hid (partF_length F b)
 -- the rest, with its mark
 have MK:=hid fun (wx:World)(q:Option Addr)(cq:Nat)(n:Nat)(h:RdB wx q (b.drop (16*n)))=>show GivesR Tryz.prog 139 #[.slice q (b.length-16*n) cq, .int .u8 128, .int .i64 16] wx (BytesS (marked (b.drop (16*n)) 128#8 16))from by
   have:=marked_any (b.drop (16*n)) q cq 128#8 16 wx h (by rw [List.length_drop];omega) (by omega) (by omega)
   rw [List.length_drop]at this;exact this
 by_cases h0:b.length=0
 · have eG:Hid (bothL (zer 16) (F 0 (blk (marked (b.drop (16*0)) 128#8 16)))=partG F b):=hid (by
     have hz:b.length/16=0:=by omega
     rw [partG,if_pos (.inl h0),hz,partF,blk_marked _ (by rw [List.length_drop];omega)])
   have M1:=fun wx q cq h=>MK.out wx q cq 0 h
   rw [h0]at M1
   have B1:=hid fun (wx:World)(q:Option Addr)(cq:Nat)(h:RdB wx q (marked (b.drop (16*0)) 128#8 16))=>oblock_any _ q cq wx h
   have lB:=blk_length (marked (b.drop (16*0)) 128#8 16)
   have B2:=hid fun wx hx=>HE.out wx hx 0 (blk (marked (b.drop (16*0)) 128#8 16)) lB (by omega)
   have l2:=HF.out 0 (blk (marked (b.drop (16*0)) 128#8 16))
   have lz:(zer (n:=8) 16).length=16:=zer_length
   have B3:=hid fun wx=>hplus_any (zer 16) (F 0 (blk (marked (b.drop (16*0)) 128#8 16))) lz l2 wx
   rw [eG.out]at B3
   have M2:=hid M1
   rw [h0]
   generalize F 0 (blk (marked (b.drop (16*0)) 128#8 16))=Y at*
   generalize blk (marked (b.drop (16*0)) 128#8 16)=Z at*
   generalize marked (b.drop (16*0)) 128#8 16=M at*
   generalize partG F b=D at*
   have HB0:Hid (∀wx,Ext w0 wx→RdB wx p (b.drop (16*0))):=hid fun wx h=>HB.out.ext h
   clear M1 h0 hl hc CE hb hF eG
   go_enter Tryz.func124,Tryz.ntmps124
   go_wp2_with (first|(((with_reducible show qAl);refine zG hm ?_);clear hm;(first|(have hx_:=g1;clear hx_;intro gx_)|intro g1);intro w hm))
   refine wp_scope_goto 0 (fun a_ w_=>∃(gb:Nat)(u3 u4 u5 u8 u9 u10 u11 u12 u13 u14 u15 u16 u17 u18 u19 u20 u21 u22 u23 u24 u25 u26 u27 u28 u29 u30 u31 u32 u33 u34 u35 u36 u37 u38:Value),a_={tmps:= #[kv,(.int .i64 j),(.slice p 0 c),u3,u4,u5,(.pointer (some ⟨g1,0,none⟩)),(.pointer (some ⟨gb,0,none⟩)),u8,u9,u10,u11,u12,u13,u14,u15,u16,u17,u18,u19,u20,u21,u22,u23,u24,u25,u26,u27,u28,u29,u30,u31,u32,u33,u34,u35,u36,u37,u38],defers:=[]}∧Own w0 w_ [⟨gb,132,(zer 16).map v8⟩,⟨g1,132,(zer 16).map v8⟩]) (fun _ _=>0) rfl ?_ ?_
   · clear hm
     rintro a' w ⟨gb,u3,u4,u5,u8,u9,u10,u11,u12,u13,u14,u15,u16,u17,u18,u19,u20,u21,u22,u23,u24,u25,u26,u27,u28,u29,u30,u31,u32,u33,u34,u35,u36,u37,u38,rfl,hm⟩
     go_wp2_with fail
     have hx0:=hm.x
     have c1:=fun wx (hwx:Ext w wx)=>M2.out wx p c (HB0.out wx (hx0.trans hwx))
     refine rgE 8 39 ?_
     simp only [zTa]
     repeat (first
         | (apply walk_some (BytesS M) 35 (BytesS.stable _) rfl rfl rfl rfl
            · (intro wx hwx;go_simp;with_reducible exact gives_callR (c1 wx hwx)))
         | (apply walk_from (T:=[(35,BytesS M)]) rfl rfl
            · (intro wx hwx;simp only [withS];(rintro x ⟨q,cq,rfl,hlc,hb'⟩);refine⟨rfl, ?_⟩;go_simp;with_reducible exact gives_call (B1.out wx q cq hb'))
            · (simp only [zPu];rfl))
         | (apply walk_is rfl rfl rfl
            · (intro wx hwx;first|((with_reducible show qGl);exact zK (hm.ext hwx))|(go_simp;(try go_bits);first|exact gives_same|exact gives_skip|with_reducible exact gives_call (B2.out wx (hx0.trans hwx))|with_reducible exact gives_call (B3.out wx)))
            · (simp only [zPu];rfl))
         | (apply walk_not rfl rfl rfl
            · (simp only [zPu];rfl)))
     intro wz hwz
     simp only [zZi]
     repeat (first|rw [fin_is]|(rw [fin_cons];intro _ _))
     rw [fin_nil]
     try (replace hm:=hm.ext hwz)
     simp only [zPu]
     clear c1 hx0
     go_wp2_with (first|((with_reducible show qSt);refine zE hm ?_;clear hm;intro w hm))
     simp only [Exit.jump]
     refine rtO hm rfl rfl ⟨rfl,hm.x⟩
   · intro hp
     go_wp2_with (first|(((with_reducible show qAl);refine zG hm ?_);clear hm;(first|(have hx_:=g1;clear hx_;intro gx_)|intro g1);intro w hm))
     go_step3
     exact⟨rfl,⟨_,_,_,_,_,_,_,_,_,_,_,_,_,_,_,_,_,_,_,_,_,_,_,_,_,_,_,_,_,_,_,_,_,_,_,rfl,hm⟩⟩
 · have hz0 : ((b.length:Int)==0)=false:=by rw [beq_eq_false_iff_ne];omega
   have HN0:=hid h0
   clear CE hb hF
   go_enter Tryz.func124,Tryz.ntmps124
   go_wp2_with (first|(((with_reducible show qAl);refine zG hm ?_);clear hm;(first|(have hx_:=g1;clear hx_;intro gx_)|intro g1);intro w hm))
   refine wp_scope_goto 1 (fun a_ w_=>∃(n m cq:Nat)(q:Option Addr)(gb:Nat)(u3 u4 u5 u9 u10 u11 u12 u13 u14 u15 u16 u17 u18 u19 u20 u21 u22 u23 u24 u25 u26 u27 u28 u29 u30 u31 u32 u33 u34 u35 u36 u37 u38:Value),a_={tmps:= #[kv,(.int .i64 j),(.slice q m cq),u3,u4,u5,(.pointer (some ⟨g1,0,none⟩)),(.pointer (some ⟨gb,0,none⟩)),(.int .i64 (n:Int)),u9,u10,u11,u12,u13,u14,u15,u16,u17,u18,u19,u20,u21,u22,u23,u24,u25,u26,u27,u28,u29,u30,u31,u32,u33,u34,u35,u36,u37,u38],defers:=[]}∧m=b.length-16*n∧16*n≤b.length∧m≤cq∧RdB w0 q (b.drop (16*n))∧Own w0 w_ [⟨gb,132,(partF F b n).map v8⟩,⟨g1,132,(zer 16).map v8⟩]) (fun a_ _=>slen (a_.tmps.getD 2 undef)) rfl ?_ ?_
   · clear hm
     rintro a' w ⟨n,m,cq,q,gb,u3,u4,u5,u9,u10,u11,u12,u13,u14,u15,u16,u17,u18,u19,u20,u21,u22,u23,u24,u25,u26,u27,u28,u29,u30,u31,u32,u33,u34,u35,u36,u37,u38,rfl,⟨hmn,hnb,hmc,hrd,hm⟩⟩
     have HRD:=hid hrd
     have HMN:=hid hmn
     have HNB:=hid hnb
     have lP:=E0.out n
     by_cases h16:16≤m
     · obtain ⟨a,rfl⟩:=Option.isSome_iff_exists.1 (hrd.1 (by rw [List.length_drop];omega))
       have d1:decide ((16:Int)≤(m:Int))=true:=decide_eq_true (by omega)
       have d2:decide ((m:Int)≥16)=true:=decide_eq_true (by omega)
       have d3:(16:Int)≤(m:Int):=by omega
       have B1:=hid fun (wx:World)(h:RdB wx (some a) (b.drop (16*n)))=>show Gives Tryz.prog 69 #[.slice (some a) m cq] wx (A8 (blk (b.drop (16*n))))from by
         have:=oblock_any (b.drop (16*n)) (some a) cq wx h
         rwa [List.length_drop,←HMN.out]at this
       have lB:=blk_length (b.drop (16*n))
       have B2:=hid fun wx hx=>HE.out wx hx ((n:Int)+1) (blk (b.drop (16*n))) lB (by omega)
       have l2:=HF.out ((n:Int)+1) (blk (b.drop (16*n)))
       have b3:=fun wx=>hplus_any (partF F b n) (F ((n:Int)+1) (blk (b.drop (16*n)))) lP l2 wx
       rw [show bothL (partF F b n) (F ((n:Int)+1) (blk (b.drop (16*n))))=partF F b (n+1)from rfl]at b3
       have B3:=hid b3
       have lP2:=E0.out (n+1)
       have w1:(n:Int)+1≤9223372036854775807:=by omega
       have HRX:=hid fun (wx:World)(h:Ext w0 wx)=>hrd.ext h
       have AD:a.add 16={block:=a.block,off:=a.off+16}:=by unfold Addr.add;split<;>first|rfl|omega|(simp_all;done)
       have HD:Hid (RdB w0 (some {block:=a.block,off:=a.off+16}) (b.drop (16*(n+1)))):=hid (by
         have:=hrd.drop 16
         rw [AD,List.drop_drop]at this
         rwa [show 16*(n+1)=16*n+16 by omega])
       have HD0:Hid (m=16→RdB w0 (some a) (b.drop (16*(n+1)))):=hid fun h=>by
         rw [List.drop_eq_nil_of_le (by omega)];exact RdB.nil _ _
       clear b3 hrd AD hnb
       generalize F ((n:Int)+1) (blk (b.drop (16*n)))=Y at*
       generalize blk (b.drop (16*n))=Z at*
       generalize hP2:partF F b (n+1)=P2 at*
       generalize partF F b n=P1 at*
       have HP2:=hid hP2
       clear hP2
       by_cases hcq:cq=16
       · obtain rfl:m=16:=by omega
         subst hcq
         clear hmn
         go_wp2_with fail
         have hx0:=hm.x
         refine rgE 8 39 ?_
         simp only [zTa]
         repeat (first
             | (apply walk_is rfl rfl rfl
                · (intro wx hwx;first|((with_reducible show qGl);exact zK (hm.ext hwx))|(go_simp;(try go_bits);first|exact gives_same|exact gives_skip|with_reducible exact gives_call (B1.out wx (HRX.out wx (hx0.trans hwx)))|with_reducible exact gives_call (B2.out wx (hx0.trans hwx))|with_reducible exact gives_call (B3.out wx)))
                · (simp only [zPu];rfl))
             | (apply walk_not rfl rfl rfl
                · (simp only [zPu];rfl)))
         intro wz hwz
         simp only [zZi]
         repeat (first|rw [fin_is]|(rw [fin_cons];intro _ _))
         rw [fin_nil]
         try (replace hm:=hm.ext hwz)
         simp only [zPu]
         clear hx0
         go_wp2_with (first|((with_reducible show qSt);refine zE hm ?_;clear hm;intro w hm))
         go_step3
         exact⟨rfl,⟨_,_,_,_,_,_,_,_,_,_,_,_,_,_,_,_,_,_,_,_,_,_,_,_,_,_,_,_,_,_,_,_,_,_,_,_,_,_,rfl,⟨by have:=HMN.out;show _=b.length-16*(n+1);omega,by have:=HMN.out;show 16*(n+1)≤b.length;omega,by omega,HD0.out (by first|trivial|rfl),by rw [HP2.out];exact hm⟩⟩,by simp [slen]⟩
       · have c1:¬(cq:Int)=16:=by omega
         clear hmn
         go_wp2_with fail
         have hx0:=hm.x
         refine rgE 8 39 ?_
         simp only [zTa]
         repeat (first
             | (apply walk_is rfl rfl rfl
                · (intro wx hwx;first|((with_reducible show qGl);exact zK (hm.ext hwx))|(go_simp;(try go_bits);first|exact gives_same|exact gives_skip|with_reducible exact gives_call (B1.out wx (HRX.out wx (hx0.trans hwx)))|with_reducible exact gives_call (B2.out wx (hx0.trans hwx))|with_reducible exact gives_call (B3.out wx)))
                · (simp only [zPu];rfl))
             | (apply walk_not rfl rfl rfl
                · (simp only [zPu];rfl)))
         intro wz hwz
         simp only [zZi]
         repeat (first|rw [fin_is]|(rw [fin_cons];intro _ _))
         rw [fin_nil]
         try (replace hm:=hm.ext hwz)
         simp only [zPu]
         clear hx0
         go_wp2_with (first|((with_reducible show qSt);refine zE hm ?_;clear hm;intro w hm))
         go_step3
         exact⟨rfl,⟨_,_,_,_,_,_,_,_,_,_,_,_,_,_,_,_,_,_,_,_,_,_,_,_,_,_,_,_,_,_,_,_,_,_,_,_,_,_,rfl,⟨by have:=HMN.out;show _=b.length-16*(n+1);omega,by have:=HMN.out;show 16*(n+1)≤b.length;omega,by omega,HD.out,by rw [HP2.out];exact hm⟩⟩,by simp [slen];omega⟩
     · have d1:decide ((16:Int)≤(m:Int))=false:=decide_eq_false (by omega)
       have d2:decide ((m:Int)≥16)=false:=decide_eq_false (by omega)
       have d3:¬(16:Int)≤(m:Int):=by omega
       have hn:b.length/16=n:=by omega
       by_cases hm0:m=0
       · have eG:partF F b n=partG F b:=by rw [partG,if_neg (by omega),hn]
         rw [eG]at hm lP
         subst hm0
         clear hmn hnb hrd eG
         go_wp2_with (first|((with_reducible show qLd);refine zB hm ?_)|((with_reducible show qSt);refine zE hm ?_;clear hm;intro w hm))
         simp only [Exit.jump]
         refine rtO hm rfl rfl ⟨rfl,hm.x⟩
       · have e0:((m:Int)==0)=false:=by rw [beq_eq_false_iff_ne];omega
         have eG:bothL (partF F b n) (F 0 (blk (marked (b.drop (16*n)) 128#8 16)))=partG F b:=by
           rw [partG,if_pos (.inr (by omega)),hn,blk_marked _ (by rw [List.length_drop];omega)]
         have m1:=fun wx h=>MK.out wx q cq n h
         rw [←hmn]at m1
         have M1:=hid m1
         have B1:=hid fun (wx:World)(q:Option Addr)(cq:Nat)(h:RdB wx q (marked (b.drop (16*n)) 128#8 16))=>oblock_any _ q cq wx h
         have lB:=blk_length (marked (b.drop (16*n)) 128#8 16)
         have B2:=hid fun wx hx=>HE.out wx hx 0 (blk (marked (b.drop (16*n)) 128#8 16)) lB (by omega)
         have l2:=HF.out 0 (blk (marked (b.drop (16*n)) 128#8 16))
         have b3:=fun wx=>hplus_any (partF F b n) (F 0 (blk (marked (b.drop (16*n)) 128#8 16))) lP l2 wx
         rw [eG]at b3
         have B3:=hid b3
         have HRX:=hid fun (wx:World)(h:Ext w0 wx)=>hrd.ext h
         clear b3 hrd m1 eG hmn hnb hm0
         generalize F 0 (blk (marked (b.drop (16*n)) 128#8 16))=Y at*
         generalize blk (marked (b.drop (16*n)) 128#8 16)=Z at*
         generalize marked (b.drop (16*n)) 128#8 16=M at*
         generalize partF F b n=P1 at*
         go_wp2_with fail
         go_step3
         go_wp2_with fail
         have hx0:=hm.x
         have c1:=fun wx (hwx:Ext w wx)=>M1.out wx (HRX.out wx (hx0.trans hwx))
         refine rgE 8 39 ?_
         simp only [zTa]
         repeat (first
             | (apply walk_some (BytesS M) 35 (BytesS.stable _) rfl rfl rfl rfl
                · (intro wx hwx;go_simp;with_reducible exact gives_callR (c1 wx hwx)))
             | (apply walk_from (T:=[(35,BytesS M)]) rfl rfl
                · (intro wx hwx;simp only [withS];(rintro x ⟨q',cq',rfl,hlc,hb'⟩);refine⟨rfl, ?_⟩;go_simp;with_reducible exact gives_call (B1.out wx q' cq' hb'))
                · (simp only [zPu];rfl))
             | (apply walk_is rfl rfl rfl
                · (intro wx hwx;first|((with_reducible show qGl);exact zK (hm.ext hwx))|(go_simp;(try go_bits);first|exact gives_same|exact gives_skip|with_reducible exact gives_call (B2.out wx (hx0.trans hwx))|with_reducible exact gives_call (B3.out wx)))
                · (simp only [zPu];rfl))
             | (apply walk_not rfl rfl rfl
                · (simp only [zPu];rfl)))
         intro wz hwz
         simp only [zZi]
         repeat (first|rw [fin_is]|(rw [fin_cons];intro _ _))
         rw [fin_nil]
         try (replace hm:=hm.ext hwz)
         simp only [zPu]
         clear c1 hx0
         go_wp2_with (first|((with_reducible show qSt);refine zE hm ?_;clear hm;intro w hm))
         simp only [Exit.jump]
         refine rtO hm rfl rfl ⟨rfl,hm.x⟩
   · intro hp
     go_wp2_with (first|(((with_reducible show qAl);refine zG hm ?_);clear hm;(first|(have hx_:=g1;clear hx_;intro gx_)|intro g1);intro w hm))
     go_step3
     rename_i hK
     exact hK _ _ (hp _ _ ⟨_,_,_,_,_,_,_,_,_,_,_,_,_,_,_,_,_,_,_,_,_,_,_,_,_,_,_,_,_,_,_,_,_,_,_,_,_,_,rfl,⟨rfl,Nat.zero_le _,hc,HB.out,hm⟩⟩)
section
variable {P:Program} {ops:Array Oper} {Q:Exit→Act→World→Prop} {rest:List Oper} {dst:Option Tmp} {ty:TypeId} {pos:String} {aft:Array Edge} {gd:Option (Nat×Bool)} {a:Act} {w0 w:World} {L:List Blk} {T e:TypeId}
theorem wq_bs0(hb:∀w,(Instr.buildSlice T 0 #[]).run P w= .ok (.slice (some ⟨w.heap.size,0,none⟩) 0 0) (w.alloc (.cells ([]:List Value).toArray e)))(hm:Own w0 w L)(hgd:Region.wanted (Oper.mk dst (.buildSlice T 0 #[]) ty pos aft gd) (yielded ops a.tmps)=true)(hr:∀g w',Own w0 w' (⟨g,e,[]⟩::L)→wpList P ops Q rest (a.put dst (.slice (some ⟨g,0,none⟩) 0 0)) w'):wpList P ops Q ((Oper.mk dst (.buildSlice T 0 #[]) ty pos aft gd)::rest) a w:=
 wpList_want hgd fun K hK=>by
   unfold Oper.wp execOp
   have h:=hb w
   simp [h,Sem.run_bind,Result.andThen_ok,Sem.run_pure]
   exact hK _ _ (hr _ _ (hm.alloc e []))
theorem wq_bs1c {u:Value}{x:Operand}(hb:∀w,(Instr.buildSlice T 1 #[(0,u)]).run P w= .ok (.slice (some ⟨w.heap.size,0,none⟩) 1 1) (w.alloc (.cells [u].toArray e)))(hm:Own w0 w L)(hgd:Region.wanted (Oper.mk dst (.buildSlice T 1 #[(0,x)]) ty pos aft gd) (yielded ops a.tmps)=true)(hx:a.eval x=u)(hr:∀g w',Own w0 w' (⟨g,e,[u]⟩::L)→wpList P ops Q rest (a.put dst (.slice (some ⟨g,0,none⟩) 1 1)) w'):wpList P ops Q ((Oper.mk dst (.buildSlice T 1 #[(0,x)]) ty pos aft gd)::rest) a w:=
 wpList_want hgd fun K hK=>by
   unfold Oper.wp execOp
   have h:=hb w
   simp [hx,h,Sem.run_bind,Result.andThen_ok,Sem.run_pure]
   exact hK _ _ (hr _ _ (hm.alloc e [u]))
end
theorem bs0_b(w:World):(Instr.buildSlice 22 0 #[]).run Tryz.prog w= .ok (.slice (some ⟨w.heap.size,0,none⟩) 0 0) (w.alloc (.cells ([]:List Value).toArray 5)):=by kernel_rfl
theorem bs1_b(x:Byte)(w:World):(Instr.buildSlice 22 1 #[(0,v8 x)]).run Tryz.prog w= .ok (.slice (some ⟨w.heap.size,0,none⟩) 1 1) (w.alloc (.cells [v8 x].toArray 5)):=by kernel_rfl
theorem slo_room0(g:Nat)(e:TypeId)(sz:Nat):SlO [⟨g,e,[]⟩] e sz (.slice (some ⟨g,0,none⟩) 0 0) 0 []:=SlO.room g e sz 0 [] (by simp) (by decide)
theorem cellsB {w:World}{p:Option Addr}{b:List Byte}(h:RdB w p b):∀(j:Nat)(u:Value),(b.map v8)[j]? =some u→∃a,p=some a∧w.cell? (a.add j)=some u:=by
 intro j u hj
 rw [List.getElem?_map]at hj
 obtain⟨x,hx,rfl⟩:=Option.map_eq_some_iff.1 hj
 obtain⟨hlt,hx'⟩:=List.getElem?_eq_some_iff.1 hx
 obtain⟨a,rfl⟩:=Option.isSome_iff_exists.1 (h.1 (by omega))
 refine⟨a,rfl, ?_⟩
 have:=h.2 j hlt
 simp only [Option.getD_some]at this
 rw [this,List.getD_eq_getElem?_getD,hx];rfl
theorem slo_bytes {w0 w:World}{M R:List Blk}{p:Option Addr}{n c:Nat}{e:TypeId}{l:List Byte}(h:SlO M e 1 (.slice p n c) n (l.map v8))(hm:Own w0 w (M++R)):RdB w p l∧n=l.length∧n≤c:=by
 have hl:=h.1
 rw [List.length_map,Nat.mul_one]at hl
 obtain⟨_,_,hv,hnc,_,h0,hcell⟩:=h.cells hm
 cases hv
 refine⟨⟨fun hp=>h0 (by omega),fun i hi=> ?_⟩,hl.symm,hnc⟩
 obtain⟨a,rfl,ha⟩:=hcell i (v8 (l.getD i 0)) (by rw [List.getElem?_map,List.getElem?_eq_getElem hi,List.getD_eq_getElem?_getD,List.getElem?_eq_getElem hi];rfl)
 exact ha
instance elemB:Elem Tryz.prog 5 1 1:=Elem.of (by kernel_rfl) (by omega)
end Go.Proofs.YtneacgpmjlocjaaGreatDoor
