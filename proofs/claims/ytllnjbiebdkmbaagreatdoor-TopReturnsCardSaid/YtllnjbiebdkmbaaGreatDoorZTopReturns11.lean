/-
  Texts of the program, walked, and plain ones. Conditions: those written in each theorem.
-/
import Derived.Test.YtllnjbiebdkmbaaGreatDoorZTopReturns0
import Derived.Test.YtllnjbiebdkmbaaGreatDoorZTopReturns10
import Derived.Test.YtllnjbiebdkmbaaGreatDoorZTopReturns8
import Derived.Test.YtllnjbiebdkmbaaGreatDoorZTopReturns7
import Derived.Test.YtllnjbiebdkmbaaGreatDoorZTopReturns9
set_option linter.unusedSimpArgs false
set_option linter.unusedVariables false
set_option maxHeartbeats 16000000
namespace Go.Proofs.YtllnjbiebdkmbaaGreatDoor
open Go Go.RowKit
set_option maxRecDepth 100000
theorem wq_mkR {ops:Array Oper}{Q:Exit→Act→World→Prop}{rest:List Oper}{dst:Option Tmp}{ty:TypeId}{pos:String}{aft:Array Edge}{gd:Option (Nat×Bool)}{a:Act}{w0 w:World}{L:List Blk}{x y:Operand}{N C:Int}(n m:Nat)
   (hm:Own w0 w L) (hgd:Region.wanted (Oper.mk dst (.makeSlice 22 x y) ty pos aft gd) (yielded ops a.tmps)=true) (hx:a.eval x= .int .i64 N) (hy:a.eval y= .int .i64 C) (hN:N=(n:Int)) (hC:C=(m:Int)) (hnm:n≤m) (hmm:m≤281474976710656)
   (hr:∀g w',Own w0 w' (⟨g,5,(zeros m).map v8⟩::L)→wpList Tryz.prog ops Q rest (a.put dst (.slice (some ⟨g,0,none⟩) n m)) w'):wpList Tryz.prog ops Q ((Oper.mk dst (.makeSlice 22 x y) ty pos aft gd)::rest) a w:=
 wpList_want hgd fun K hK=>by
   subst hN hC
   obtain⟨i,hi,hz,hs,hb⟩:=info_byte
   have h:=run_make (P:=Tryz.prog) w 22 5 i (.int .u8 0) Tryz.underlying22 hi hz .i64 .i64 n m (by omega) (by omega) (by rw [hb];omega) (by omega)
   rw [hs,Nat.mul_one]at h
   simp only [Int.toNat_natCast,Value.cells,madeCells_v8]at h
   unfold Oper.wp execOp
   simp only [hx,hy,Sem.run_bind,h,Result.andThen_ok,Sem.run_pure]
   exact hK _ _ (hr _ _ (hm.alloc 5 ((zeros m).map v8)))
theorem run_index_v {P:Program}{T e:TypeId}{n b:Nat}{f:BitVec b→Value}(hT:P.underlying T=some (.array n e))[hE:One1 P e](l:List (BitVec b))(hl:l.length=n)(k:Nat)(hk:k<n)(w:World):(Instr.index T (.agg (l.map f).toArray) (.int .i64 (k:Int))).run P w= .ok (f (nth l k)) w:=by
 obtain⟨d,hu,hd⟩:=Option.map_eq_some_iff.1 hE.row
 obtain⟨i,hi1,hi2⟩:=Option.map_eq_some_iff.1 hE.size
 have hagg:(isAgg e).run P w= .ok false w:=by
   unfold isAgg
   rw [Sem.run_bind,run_underlying hu w]
   cases d<;>simp_all
 have hc:(l.map f)[k]? =some (f (nth l k)):=mapv_at f l (by omega)
 have hk2:(0:Int)≤(k:Int)∧(k:Int)<(n:Int):=by omega
 simp [Instr.index,asIntOf,Sem.run_bind,run_underlying hT,hk2,sizeOf,typeInfo,hi1,hi2,hk,Go.part,hagg,nth_get (show k<l.length by omega)]
 rw [List.getElem?_eq_getElem (by omega)];rfl
theorem wq_idx {P:Program}{ops:Array Oper}{Q:Exit→Act→World→Prop}{rest:List Oper}{dst:Option Tmp}{ty:TypeId}{pos:String}{aft:Array Edge}{gd:Option (Nat×Bool)}{a:Act}{w:World}{x y:Operand}{T e:TypeId}{n b k:Nat}{f:BitVec b→Value}{l:List (BitVec b)}(hT:P.underlying T=some (.array n e))(hE:One1 P e)(hgd:Region.wanted (Oper.mk dst (.index T x y) ty pos aft gd) (yielded ops a.tmps)=true)(hx:a.eval x= .agg (l.map f).toArray)(hy:a.eval y= .int .i64 (k:Int))(hl:l.length=n)(hk:k<n)
   (hr:wpList P ops Q rest (a.put dst (f (nth l k))) w):wpList P ops Q ((Oper.mk dst (.index T x y) ty pos aft gd)::rest) a w:=
 wpList_want hgd fun K hK=>by
   unfold Oper.wp execOp
   simp only [hx,hy,Sem.run_bind,run_index_v hT l hl k hk w,Result.andThen_ok,Sem.run_pure]
   exact hK _ _ hr
theorem hashC_one {h:List (BitVec 64)}{n:Nat}{v:Value}{sz:Int}(hv:v.oneCell'=true):∀u∈hashC h n v sz,u.oneCell'=true:=by
 intro u hu
 simp only [hashC,List.mem_append,List.mem_cons,List.not_mem_nil,or_false]at hu
 rcases hu with hu|(rfl|rfl)|rfl|rfl
 · exact one_map _ u hu
 · rfl
 · rfl
 · exact hv
 · rfl
theorem outL_take(h:List (BitVec 64))(k:Nat)(hk:k<h.length):outL (h.take (k+1))=outL (h.take k)++putL (nth h k) 8:=by
 rw [List.take_succ_eq_append_getElem hk,outL,outL,List.map_append,List.flatten_append]
 simp [nth_get hk]
theorem hsum_any(g:Nat)(h0:List (BitVec 64))(d:List Byte)(sz:Nat)(hh:h0.length=8)(hsz:sz≤64)(hlen:d.length≤70368744177664)(w0 w:World)(M R:List Blk)(v:Value)(hc:CoefB w0)
   (hm:Own w0 w (⟨g,170,hashK h0 d (nbk d.length) v sz⟩::(M++R))) (hsl:RestO M d (nbk d.length) v):
   Calls Tryz.prog 70 #[.pointer (some ⟨g,0,none⟩)] w fun e w'=>∃x,e= .returned x∧BytesS ((outL (finL h0 d)).take sz) x w'∧Own w0 w' (⟨g,170,hashK h0 d (nbk d.length) v sz⟩::(M++R)):=by
 obtain⟨q,n,cap,rfl⟩:=hsl.slice
 obtain⟨hn,hnc,hcm⟩:=hsl.len
 have hnk:=nbk_rest d.length
 have hkk:=nbk_le d.length
 have HC:=Lib.hid hc
 have HH:=Lib.hid hh
 have HS:=Lib.hid hsl
 have l1:=hashK_length (d:=d) (k:=nbk d.length) (v:= .slice q n cap) (sz:=sz) hh
 have lr:(d.drop (128*nbk d.length)).length=n:=by rw [List.length_drop,hn]
 have CB:=fun g1 wx hx=>hblock_any g1 (chF h0 d (nbk d.length)) (128*nbk d.length) (.slice q n cap) sz (d.drop (128*nbk d.length)) q cap n true (chF_length h0 d hh _) (by omega) (by omega) w0 wx (⟨g,170,hashK h0 d (nbk d.length) (.slice q n cap) sz⟩::(M++R)) (fun w' N h=>by
   rw [List.append_cons]at h;exact HS.out.rdB h) HC.out rfl hx
 rw [lr,show 128*nbk d.length+n=d.length from by omega]at CB
 have lF:(finL h0 d).length=8:=finL_length h0 d
 have CB2:=Lib.hid CB
 have EF:Hid (compL (chF h0 d (nbk d.length)) (mL (d.drop (128*nbk d.length))) (BitVec.ofNat 64 d.length) 0#64 true=finL h0 d):=Lib.hid rfl
 rw [EF.out]at CB2
 have HF:=Lib.hid lF
 have hsz2:(sz:Int)≤64:=by omega
 have E0:=Lib.hid (show hashK h0 d (nbk d.length) (.slice q n cap) sz=hashC (chF h0 d (nbk d.length)) (128*nbk d.length) (.slice q n cap) sz from rfl)
 have ONE:=Lib.hid (show∀u∈hashK h0 d (nbk d.length) (.slice q n cap) sz,u.oneCell'=true from hashC_one rfl)
 have X10:=Lib.hid (show(hashK h0 d (nbk d.length) (.slice q n cap) sz)[10]? =some (.slice q n cap)from hashK_rest hh)
 generalize hX:hashK h0 d (nbk d.length) (.slice q n cap) sz=X at*
 rw [←E0.out]at CB2
 generalize finL h0 d=F at*
 have lX:=l1
 clear CB EF hn hnk hkk hcm hX hsl hc hh lF l1
 go_enter Tryz.func70,Tryz.ntmps70
 go_wp2_with (first|((with_reducible apply wq_stW hm);exact rfl;infer_instance;exact rfl;exact rfl;(focus (repeat first|exact .hd|assumption|apply Swap.tl);done);exact lX;(first|rfl|(simp;done));exact ONE.out;clear hm;intro w hm)|((with_reducible apply wq_ldW hm);exact rfl;infer_instance;exact rfl;(focus (repeat first|exact .hd|assumption|apply Has.tl);done);exact lX)|((with_reducible apply wq_ld1 hm);exact rfl;infer_instance;exact rfl;(focus (repeat first|exact .hd|assumption|apply Has.tl);done);(exact X10.out))|(go_at_call 81;(with_reducible refine(CB2.out _ _ hm).mono ?_);clear hm;rintro e_ w ⟨rfl,hm⟩)|((with_reducible apply wq_mkR 0 64 hm);exact rfl;exact rfl;exact rfl;exact rfl;exact rfl;omega;omega;clear hm;intro g2 w hm)|((with_reducible apply wq_ldN hm);exact rfl;infer_instance;exact rfl;(focus (repeat first|exact .hd|assumption|apply Has.tl);done);(exact hashC_h HF.out);(exact(List.length_map ..).trans HF.out))|((first|((with_reducible show qAl);first|((with_reducible apply wq_new hm);exact rfl;infer_instance)));clear hm;(first|(have hx_:=g1;clear hx_;(first|(have hx_:=g2;clear hx_;intro gx_)|intro g2))|intro g1);intro w hm))
 obtain⟨RR,hRR⟩:∃RR,(⟨g1,170,hashC F d.length (.slice q n cap) sz⟩::⟨g,170,X⟩::(M++R):List Blk)=RR:=⟨_,rfl⟩
 have hg1:Has RR ⟨g1,170,hashC F d.length (.slice q n cap) sz⟩:=hRR ▸ .hd
 have hend:∀w,Own w0 w RR→Own w0 w (⟨g,170,X⟩::(M++R)):=fun w h=>by rw [←hRR]at h;exact h.drop
 have HE:=Lib.hid hend
 rw [hRR]at hm
 clear hRR hend
 go_loopw [4,22] (fun v i wr=>∃(k:Nat)(Mo:List Blk),k≤8∧i= .int .i64 k∧SlO Mo 5 1 v (8*k) ((outL (F.take k)).map v8)∧Own w0 wr (Mo++RR)) (fun _ i _=>8-(intOf i).toNat)
 case atStart=>exact⟨0,[_],by omega,rfl,SlO.room g2 5 1 64 _ (by simp) (by decide),hm⟩
 case round=>
   obtain⟨k,Mo,hk,rfl,hso,hm⟩:=hrel
   obtain⟨p0,c0,rfl⟩:=hso.form
   have HSO:=Lib.hid hso
   clear hso
   by_cases hlt:k<8
   · have hd:decide ((k:Int)<8)=true:=by simp;omega
     have lF:=HF.out
     have lF1:=Nat.le_of_eq HF.out
     have lF2:=Nat.le_of_eq HF.out.symm
     have lp:(putL (nth F k) 8).length=8:=putL_length _ _
     have et:=Lib.hid (outL_take F k (by omega))
     have CP:=Lib.hid fun wx=>putlong_any' (nth F k) wx
     generalize putL (nth F k) 8=B at*
     go_wp2_with (first|((with_reducible apply wq_idx (l:=F) (k:=k) Tryz.underlying168);infer_instance;exact rfl;exact rfl;exact rfl;exact lF;exact hlt)|(go_at_call 43;(with_reducible refine(CP.out _).mono ?_);rintro e_ w ⟨rfl,hx_⟩;replace hm:=hm.ext hx_;clear hx_)|((with_reducible show wpList _ _ _ (Oper.mk _ (Op.call _) _ _ _ _::_) _ _);refine wplO_app (M:=Mo) (R:=_) (ds:=B.map v8) (hm.perm (List.perm_middle.symm)) HSO.out rfl rfl rfl rfl Tryz.underlying22 (by simpa using lp) (cells_b (hm.rdB (by repeat (first|exact Has.hd|assumption|apply Has.tl)))) (one_map _) (by omega) ?_;clear hm;intro v1 w M1 hm hs1;obtain⟨p_v1,c_v1,rfl⟩:=hs1.form;replace hm:=hm.perm (List.perm_middle))|((((with_reducible show qSt);first|((with_reducible apply wq_stW hm);exact rfl;infer_instance;exact rfl;exact rfl;(focus (repeat first|exact .hd|assumption|apply Swap.tl);done);(focus (first|rfl|omega|(simp;done)|(simp;omega)));(focus (first|rfl|omega|(simp;done)|(simp;omega)));(focus (first|exact one_map _|(simp [one8,one32,one64];done))))));clear hm;intro w hm)|((first|((with_reducible show qAl);first|((with_reducible apply wq_new hm);exact rfl;infer_instance)));clear hm;(first|(have hx_:=g1;clear hx_;(first|(have hx_:=g2;clear hx_;intro gx_)|intro g2))|intro g1);intro w hm))
     go_roundw
     case rel=>exact⟨k+1,M1,by omega,by go_num,by rw [et.out,List.map_append];exact hs1,hm.drop⟩
     case measure=>simp [intOf]<;>omega
   · obtain rfl:k=8:=by omega
     have hso:=HSO.out
     rw [List.take_of_length_le (Nat.le_of_eq HF.out)]at hso
     obtain⟨_,_,hv,hnc0,_,h0,hcell⟩:=hso.cells hm
     cases hv
     have hrd:RdB wr p0 (outL F):=⟨fun hl=>h0 (by omega),fun i hi=>by
       obtain⟨a,rfl,ha⟩:=hcell i (v8 ((outL F).getD i 0)) (by rw [List.getElem?_map,List.getElem?_eq_getElem hi,List.getD_eq_getElem?_getD,List.getElem?_eq_getElem hi];rfl)
       exact ha⟩
     have HRD:=Lib.hid hrd
     have lO:(outL F).length=64:=by rw [outL_length,HF.out]
     have hc0:(64:Int)≤(c0:Int):=by omega
     have hsc:(sz:Int)≤(c0:Int):=by omega
     have hg2:=Has.app (M:=Mo) hg1
     clear hrd hcell hso
     go_wp2_with (first|((with_reducible apply wq_ld1 hm);exact rfl;infer_instance;exact rfl;(focus (repeat first|exact .hd|assumption|apply Has.tl);done);(exact hashC_size HF.out)))
     go_ret
     have lt:((outL F).take sz).length=sz:=by rw [List.length_take,lO];omega
     refine⟨_,rfl,⟨p0,c0, ?_,by rw [lt];omega,HRD.out.take sz⟩,HE.out _ hm.dropN⟩
     rw [lt];rfl
section
variable {P:Program} {ops:Array Oper} {Q:Exit→Act→World→Prop} {rest:List Oper} {dst:Option Tmp} {ty:TypeId} {pos:String} {aft:Array Edge} {gd:Option (Nat×Bool)} {a:Act} {w:World} {T:TypeId} {x:Operand} {n:Nat} {cs:List Value} {A:Addr}
theorem run_rdN(h:∀(j:Nat)(v:Value),cs[j]? =some v→w.cell? (A.add j)=some v)[hT:Many P T n](hn:cs.length=n):(Instr.loadAt T (.pointer (some A))).run P w= .ok (.agg cs.toArray) w:=by
 obtain⟨d,hu,hd⟩:=Option.map_eq_some_iff.1 hT.row
 have hl:(loadCells A cs.length).run P w= .ok cs.toArray w:=run_loadCells_list (P:=P) w A cs h
 have hagg:(isAgg T).run P w= .ok true w:=by
   unfold isAgg
   rw [Sem.run_bind,run_underlying hu w]
   cases d<;>simp_all
 obtain⟨i,hi1,hi2⟩:=Option.map_eq_some_iff.1 hT.size
 simp [Instr.loadAt,Instr.sureAddr,loadVar,Sem.run_bind,hagg,sizeOf,typeInfo,hi1,hi2,←hn,hl]
theorem wq_rdN(h:∀(j:Nat)(v:Value),cs[j]? =some v→w.cell? (A.add j)=some v)(hgd:Region.wanted (Oper.mk dst (.load T x) ty pos aft gd) (yielded ops a.tmps)=true)(hT:Many P T n)(hx:a.eval x= .pointer (some A))(hn:cs.length=n)(hr:wpList P ops Q rest (a.put dst (.agg cs.toArray)) w):wpList P ops Q ((Oper.mk dst (.load T x) ty pos aft gd)::rest) a w:=
 wpList_want hgd fun K hK=>by
   unfold Oper.wp execOp
   simp only [hx,Sem.run_bind,run_rdN h hn,Result.andThen_ok,Sem.run_pure]
   exact hK _ _ hr
end
theorem wq_build2 {P:Program}{ops:Array Oper}{Q:Exit→Act→World→Prop}{rest:List Oper}{dst:Option Tmp}{ty:TypeId}{pos:String}{aft:Array Edge}{gd:Option (Nat×Bool)}{a:Act}{w:World}{T:TypeId}{x y:Operand}{v:Value}{i j:Nat}{u u':Value}(hb:∀w,(Instr.build T #[(i,u),(j,u')]).run P w= .ok v w)(hgd:Region.wanted (Oper.mk dst (.build T #[(i,x),(j,y)]) ty pos aft gd) (yielded ops a.tmps)=true)(hx:a.eval x=u)(hy:a.eval y=u')(hr:wpList P ops Q rest (a.put dst v) w):wpList P ops Q ((Oper.mk dst (.build T #[(i,x),(j,y)]) ty pos aft gd)::rest) a w:=
 wq_buildN (fun w=>by simpa [hx,hy]using hb w) hgd hr
theorem CoefB.first {w:World}(h:CoefB w):∀(j:Nat)(v:Value),(firstL.map v64)[j]? =some v→w.cell? ((⟨2,0,none⟩:Addr).add j)=some v:=by
 intro j v hj
 rw [Addr.add_mid,Nat.zero_add]
 have hl:j<8:=by
   have:=(List.getElem?_eq_some_iff.1 hj).1
   simpa [firstL_length]using this
 rw [h.1 j hl,←hj,map64_at firstL (by rw [firstL_length];exact hl)]
theorem build_hash(sz:Int)(w:World):(Instr.build 170 #[(0,A64 firstL),(3, .int .i64 sz)]).run Tryz.prog w= .ok (.agg (hashC firstL 0 (.slice none 0 0) sz).toArray) w:=by kernel_rfl
theorem start_bits(k s:Nat)(hk:k≤64)(hs:s≤64):BitVec.ofInt 64 (bits BinOp.xor IntKind.u64 (bits BinOp.xor IntKind.u64 16842752 ((k:Int)*256)) (s:Int))=((0x01010000#64)^^^(BitVec.ofNat 64 k<<<8))^^^BitVec.ofNat 64 s:=by
 have:∀k s:Fin 65,BitVec.ofInt 64 (bits BinOp.xor IntKind.u64 (bits BinOp.xor IntKind.u64 16842752 ((k.val:Int)*256)) (s.val:Int))=((0x01010000#64)^^^(BitVec.ofNat 64 k.val<<<8))^^^BitVec.ofNat 64 s.val:=by decide+kernel
 exact this ⟨k,by omega⟩ ⟨s,by omega⟩
theorem hashC_set0 {h:List (BitVec 64)}{n:Nat}{v:Value}{sz:Int}{x:BitVec 64}(hh:h.length=8):(hashC h n v sz).set 0 (v64 x)=hashC (setN h 0 x) n v sz:=by
 unfold hashC;rw [List.set_append_left _ _ (by simp [hh]),mapv_set]
theorem new_ok(size:Nat)(key:List Byte)(p:Option Addr)(c:Nat)(h0:1≤size)(h1:size≤64)(hk:key.length≤64)(w0 w:World)(L:List Blk)(hc:CoefB w0)(hr:∀w' M,Own w0 w' (M++L)→RdB w' p key)(hm:Own w0 w L):
   Calls Tryz.prog 68 #[.int .i64 size, .slice p key.length c] w fun e w'=>∃g v M,e= .returned (.tuple #[.pointer (some ⟨g,0,none⟩), .int .i64 0])∧Own w0 w' (⟨g,170,hashK (startL size key.length) (keyL key) (nbk (keyL key).length) v size⟩::(M++L))∧RestO M (keyL key) (nbk (keyL key).length) v:=by
 have a1:decide ((size:Int)<1)=false:=by simp;omega
 have a2:¬(size:Int)<1:=by omega
 have a3:decide ((64:Int)<(size:Int))=false:=by simp;omega
 have a4:¬(64:Int)<(size:Int):=by omega
 have a5:decide ((64:Int)<(key.length:Int))=false:=by simp;omega
 have a6:¬(64:Int)<(key.length:Int):=by omega
 have HC:=Lib.hid hc
 have HR:=Lib.hid hr
 have lf:=hashC_length (h:=firstL) (n:=0) (v:= .slice none 0 0) (sz:=(size:Int)) firstL_length
 have ES:=Lib.hid (show(hashC firstL 0 (.slice none 0 0) (size:Int)).set 0 (v64 (nth firstL 0^^^BitVec.ofInt 64 (bits BinOp.xor IntKind.u64 (bits BinOp.xor IntKind.u64 16842752 ((key.length:Int)*256)) (size:Int))))=hashK (startL size key.length) [] 0 (.slice none 0 0) size by
   rw [hashC_set0 firstL_length,start_bits _ _ hk h1];rfl)
 have f0:=Lib.hid (show(hashC firstL 0 (.slice none 0 0) (size:Int))[0]? =some (v64 (nth firstL 0))from rfl)
 clear hc hr
 by_cases hk0:key.length=0
 · have b1:decide ((0:Int)<(key.length:Int))=false:=decide_eq_false (by omega)
   have b2:¬(0:Int)<(key.length:Int):=by omega
   have b3:¬0<key.length:=by omega
   have EK:=Lib.hid (show keyL key=[]by rw [keyL,if_pos hk0])
   clear hk0
   go_enter Tryz.func68,Tryz.ntmps68
   go_wp2_with (first|((with_reducible apply wq_rdN (cs:=firstL.map v64) (HC.out.ext hm.x).first);exact rfl;infer_instance;exact rfl;exact rfl)|((with_reducible apply wq_build2 (build_hash (size:Int)));exact rfl;exact rfl;exact rfl)|((first|((with_reducible show qBx);first|((with_reducible apply wq_boxN hm);exact rfl;exact rfl)));clear hm;(first|(have hx_:=g1;clear hx_;intro gx_)|intro g1);intro w hm))
   refine region_at 17 (fun w'=>Ext _ w') 47 (by kernel_rfl) (by kernel_rfl) rfl (fun _ _ h k=>h.trans k) (drew_ext _) ?_
   simp only [tSC,List.take_zero,dSC,List.drop_zero,List.map_cons,List.map_nil]
   repeat (first
       |(apply walk_is rfl rfl rfl;(intro wx hwx;(with_reducible apply gq_ld1 (hm.ext hwx));infer_instance;exact rfl;(focus (repeat first|exact .hd|assumption|apply Has.tl);done);(exact f0.out));(simp only [Act.put,sIB,sCS,sCZ];rfl))
       | (apply walk_is rfl rfl rfl
          · (intro wx hwx;go_simp;(try go_bits);first|exact gives_same|exact gives_skip)
          · (simp only [Act.put,sIB,sCS,sCZ];rfl))
       | (apply walk_not rfl rfl rfl
          · (simp only [Act.put,sIB,sCS,sCZ];rfl)))
   intro wz hwz
   simp only [zCC,zNR]
   repeat (first|rw [fin_is]|(rw [fin_cons];intro _ _))
   rw [fin_nil]
   try (replace hm:=hm.ext hwz)
   simp only [Act.put,sIB,sCS,sCZ]
   go_wp2_with (first|((((with_reducible show qSt);first|((with_reducible apply wq_s1v (f:=v64) hm);exact rfl;infer_instance;exact rfl;exact rfl;infer_instance;(focus (repeat first|exact .hd|assumption|apply Swap.tl);done);(focus (first|omega|(simp;omega)|(refine ltB ?_;first|omega|(simp;done)|(simp;omega)))))));clear hm;intro w hm))
   go_ret2
   rw [ES.out]at hm
   rw [EK.out]
   exact⟨g1, .slice none 0 0,[],rfl,hm,SlO.nil _ _⟩
 · have b1:decide ((0:Int)<(key.length:Int))=true:=decide_eq_true (by omega)
   have b2:(0:Int)<(key.length:Int):=by omega
   have b3:0<key.length:=by omega
   have EK:=Lib.hid (show keyL key=pad key 128 by rw [keyL,if_neg hk0])
   have lp:(pad key 128).length≤200:=by
     rw [pad,List.length_append,List.length_replicate]
     have:=roomN_lt key.length 128;omega
   have LP:=Lib.hid lp
   clear hk0 lp
   go_enter Tryz.func68,Tryz.ntmps68
   go_wp2_with (first|((with_reducible apply wq_rdN (cs:=firstL.map v64) (HC.out.ext hm.x).first);exact rfl;infer_instance;exact rfl;exact rfl)|((with_reducible apply wq_build2 (build_hash (size:Int)));exact rfl;exact rfl;exact rfl)|((first|((with_reducible show qBx);first|((with_reducible apply wq_boxN hm);exact rfl;exact rfl)));clear hm;(first|(have hx_:=g1;clear hx_;intro gx_)|intro g1);intro w hm))
   refine region_at 17 (fun w'=>Ext _ w') 47 (by kernel_rfl) (by kernel_rfl) rfl (fun _ _ h k=>h.trans k) (drew_ext _) ?_
   simp only [tSC,List.take_zero,dSC,List.drop_zero,List.map_cons,List.map_nil]
   repeat (first
       |(apply walk_is rfl rfl rfl;(intro wx hwx;(with_reducible apply gq_ld1 (hm.ext hwx));infer_instance;exact rfl;(focus (repeat first|exact .hd|assumption|apply Has.tl);done);(exact f0.out));(simp only [Act.put,sIB,sCS,sCZ];rfl))
       | (apply walk_is rfl rfl rfl
          · (intro wx hwx;go_simp;(try go_bits);first|exact gives_same|exact gives_skip)
          · (simp only [Act.put,sIB,sCS,sCZ];rfl))
       | (apply walk_not rfl rfl rfl
          · (simp only [Act.put,sIB,sCS,sCZ];rfl)))
   intro wz hwz
   simp only [zCC,zNR]
   repeat (first|rw [fin_is]|(rw [fin_cons];intro _ _))
   rw [fin_nil]
   try (replace hm:=hm.ext hwz)
   simp only [Act.put,sIB,sCS,sCZ]
   go_wp2_with (first|((((with_reducible show qSt);first|((with_reducible apply wq_s1v (f:=v64) hm);exact rfl;infer_instance;exact rfl;exact rfl;infer_instance;(focus (repeat first|exact .hd|assumption|apply Swap.tl);done);(focus (first|omega|(simp;omega)|(refine ltB ?_;first|omega|(simp;done)|(simp;omega)))))));clear hm;intro w hm))
   refine(padded_any key p c 128 _ (HR.out _ [_] hm) (by omega) (by decide) (by decide)).mono ?_
   rintro e w ⟨v,rfl,⟨pp,cc,rfl,hcc,hrb⟩,hx_⟩
   replace hm:=hm.ext hx_
   rw [ES.out]at hm
   have HRB:=Lib.hid hrb
   clear hx_ hrb
   go_wp2_with fail
   refine(write_any g1 (startL size key.length) [] size (pad key 128) pp cc (startL_length _ _) (by have:=LP.out;simp;omega) w0 _ [] L (.slice none 0 0) HC.out HRB.out hm (SlO.nil _ _)).mono ?_
   rintro e w ⟨rfl,v',M',hm,hs⟩
   go_wp2
   go_ret2
   rw [EK.out]
   rw [List.nil_append]at hm hs
   exact⟨g1,v',M',rfl,hm,hs⟩
theorem keyL_length(key:List Byte)(hk:key.length≤64):(keyL key).length≤200:=by
 unfold keyL
 split
 · simp
 · rw [pad,List.length_append,List.length_replicate]
   have:=roomN_lt key.length 128;omega
theorem bsum_ok(size:Nat)(key:List Byte)(p:Option Addr)(c:Nat)(b:List Byte)(q:Option Addr)(d:Nat)(h0:1≤size)(h1:size≤64)(hk:key.length≤64)(hb:b.length≤35184372088832)(w0 w:World)(L:List Blk)(hc:CoefB w0)(hr:∀w' M,Own w0 w' (M++L)→RdB w' p key)(hr2:∀w' M,Own w0 w' (M++L)→RdB w' q b)(hm:Own w0 w L):
   Calls Tryz.prog 53 #[.int .i64 size, .slice p key.length c, .slice q b.length d] w fun e w'=>∃x,e= .returned (.tuple #[x, .int .i64 0])∧BytesS (sumL size key b) x w'∧∃M,Own w0 w' (M++L):=by
 have lk:=keyL_length key hk
 have HC:=Lib.hid hc
 have HR:=Lib.hid hr
 have HR2:=Lib.hid hr2
 clear hc hr hr2
 go_enter Tryz.func53,Tryz.ntmps53
 go_wp2_with fail
 refine(new_ok size key p c h0 h1 hk w0 _ L HC.out HR.out hm).mono ?_
 rintro e w ⟨g,v,M,rfl,hm,hs⟩
 go_wp2_with fail
 refine(write_any g _ (keyL key) size b q d (startL_length _ _) (by omega) w0 _ M L v HC.out (HR2.out _ (⟨g,170,_⟩::M) hm) hm hs).mono ?_
 rintro e w ⟨rfl,v',M',hm,hs⟩
 go_wp2_with fail
 refine(hsum_any g _ (keyL key++b) size (startL_length _ _) h1 (by rw [List.length_append];omega) w0 _ M' L v' HC.out hm hs).mono ?_
 rintro e w ⟨x,rfl,hx,hm⟩
 go_wp2
 go_ret2
 exact⟨x,rfl,hx,⟨g,170,_⟩::M',hm⟩
def plus4(a b:List Byte):List Byte:=tab 4 fun i=>nth a i^^^nth b i
theorem plus4_length(a b:List Byte):(plus4 a b).length=4:=tab_length
def boxW(a:List Byte):List Byte:=tab 4 fun i=>bxTo (nth a i)
theorem boxW_length(a:List Byte):(boxW a).length=4:=tab_length
theorem aplus_any(a b:List Byte)(ha:a.length=4)(hb:b.length=4)(w0:World):Gives Tryz.prog 62 #[A8 a,A8 b] w0 (A8 (plus4 a b)):=by
 unfold Gives
 have hm:=Own.start w0
 have ha1:=Nat.le_of_eq ha
 have ha2:=Nat.le_of_eq ha.symm
 have hb1:=Nat.le_of_eq hb
 have hb2:=Nat.le_of_eq hb.symm
 have Ha:=Lib.hid ha
 clear ha hb
 go_enter Tryz.func62,Tryz.ntmps62
 go_wp2_with (first|((first|((with_reducible show qAl);first|((with_reducible apply wq_new hm);exact rfl;infer_instance))|((with_reducible show qBx);first|((with_reducible apply wq_boxN hm);exact rfl;exact rfl)));clear hm;(first|(have hx_:=g1;clear hx_;(first|(have hx_:=g2;clear hx_;(first|(have hx_:=g3;clear hx_;intro gx_)|intro g3))|intro g2))|intro g1);intro w hm))
 rw [part_start (f:=fun i=>nth a i^^^nth b i) Ha.out]at hm
 go_loopw [6] (fun i wr=>∃k:Nat,k≤4∧i= .int .i64 k∧Own w0 wr [⟨g3,137,(zer 4).map v8⟩,⟨g2,137,b.map v8⟩,⟨g1,137,(part 4 k (fun i=>nth a i^^^nth b i) (nth a)).map v8⟩]) (fun i _=>4-(intOf i).toNat)
 case atStart=>exact⟨0,by omega,rfl,hm⟩
 case round =>
   obtain⟨k,hk,rfl,hm⟩:=hrel
   by_cases hlt:k<4
   · have e1:nth (part 4 k (fun i=>nth a i^^^nth b i) (nth a)) k=nth a k:=nth_part_ge hlt (Nat.le_refl _)
     go_wp2_with fail
     refine region_at 8 (fun w'=>Ext _ w') 19 (by kernel_rfl) (by kernel_rfl) rfl (fun _ _ h k=>h.trans k) (drew_ext _) ?_
     simp only [tSC,List.take_zero,dSC,List.drop_zero,List.map_cons,List.map_nil]
     repeat (first
         | (apply walk_is rfl rfl rfl
            · (intro wx hwx;first|((with_reducible show gives _ _ _ (Sem.run _ (execOp _ (Oper.mk _ (Op.load _ _) _ _ _ _)) _));first|((with_reducible apply gq_ldv (hm.ext hwx));infer_instance;exact rfl;(focus (repeat first|exact .hd|assumption|apply Has.tl);done);(focus (first|omega|(simp;omega)|(refine ltB ?_;first|omega|(simp;done)|(simp;omega))))))|(go_simp;(try go_bits);first|exact gives_same|exact gives_skip))
            · (simp only [Act.put,sIB,sCS,sCZ];rfl))
         | (apply walk_not rfl rfl rfl
            · (simp only [Act.put,sIB,sCS,sCZ];rfl)))
     intro wz hwz
     simp only [zCC,zNR]
     repeat (first|rw [fin_is]|(rw [fin_cons];intro _ _))
     rw [fin_nil]
     try (replace hm:=hm.ext hwz)
     simp only [Act.put,sIB,sCS,sCZ]
     go_wp2_with (first|((((with_reducible show qSt);first|((with_reducible apply wq_stv hm);exact rfl;infer_instance;exact rfl;(focus (repeat first|exact .hd|assumption|apply Swap.tl);done);infer_instance;exact rfl;(focus (first|omega|(simp;omega)|(refine ltB ?_;first|omega|(simp;done)|(simp;omega)))))));clear hm;intro w hm))
     go_roundw
     case rel=>
       rw [part_set' hlt rfl]at hm
       exact⟨k+1,by omega,by go_num,hm⟩
     case measure=>simp [intOf]<;>omega
   · obtain rfl:k=4:=by omega
     rw [part_all]at hm
     go_wp2_with (first|((with_reducible show qLd);first|((with_reducible apply wq_ldW hm);exact rfl;infer_instance;exact rfl;(focus (repeat first|exact .hd|assumption|apply Has.tl);done);(focus (first|rfl|omega|(simp;done)|(simp;omega)))))|((((with_reducible show qSt);first|((with_reducible apply wq_stW hm);exact rfl;infer_instance;exact rfl;exact rfl;(focus (repeat first|exact .hd|assumption|apply Swap.tl);done);(focus (first|rfl|omega|(simp;done)|(simp;omega)));(focus (first|rfl|omega|(simp;done)|(simp;omega)));(focus (first|exact one_map _|(simp [one8,one32,one64];done))))));clear hm;intro w hm))
     refine rtO hm rfl rfl (hR:=⟨rfl,hm.x⟩)
theorem aboxed_any(g gb:Nat)(a:List Byte)(ha:a.length=4)(w0:World)(h1:Row w0 g 78 (tcells gb mixT unmixT))(h2:Row w0 gb 91 (tabs.map v8)):Gives Tryz.prog 61 #[.pointer (some ⟨g,0,none⟩),A8 a] w0 (A8 (boxW a)):=by
 unfold Gives
 have hm:=Own.start w0
 have TB:=Lib.hid fun (x:Byte)(w:World)(h:Ext w0 w)=>tbox_any g gb x w (row_ext h1 h) (row_ext h2 h)
 have ha1:=Nat.le_of_eq ha
 have ha2:=Nat.le_of_eq ha.symm
 have Ha:=Lib.hid ha
 clear ha h1 h2
 go_enter Tryz.func61,Tryz.ntmps61
 go_wp2_with (first|((with_reducible show qLd);first|((with_reducible apply wq_ldW hm);exact rfl;infer_instance;exact rfl;(focus (repeat first|exact .hd|assumption|apply Has.tl);done);(focus (first|rfl|omega|(simp;done)|(simp;omega)))))|((first|((with_reducible show qAl);first|((with_reducible apply wq_new hm);exact rfl;infer_instance))|((with_reducible show qBx);first|((with_reducible apply wq_boxN hm);exact rfl;exact rfl)));clear hm;(first|(have hx_:=g1;clear hx_;(first|(have hx_:=g2;clear hx_;intro gx_)|intro g2))|intro g1);intro w hm))
 rw [part_start (f:=fun i=>bxTo (nth a i)) Ha.out]at hm
 go_loopw [8] (fun i wr=>∃k:Nat,k≤4∧i= .int .i64 k∧Own w0 wr [⟨g2,137,(zer 4).map v8⟩,⟨g1,137,(part 4 k (fun i=>bxTo (nth a i)) (nth a)).map v8⟩]) (fun i _=>4-(intOf i).toNat)
 case atStart=>exact⟨0,by omega,rfl,hm⟩
 case round=>
   obtain⟨k,hk,rfl,hm⟩:=hrel
   by_cases hlt:k<4
   · have hd:decide ((k:Int)<4)=true:=decide_eq_true (by omega)
     have hd2:(k:Int)<4:=by omega
     have ec:=fun w=>run_index_v (P:=Tryz.prog) (T:=137) (e:=5) (f:=v8) (by kernel_rfl) a Ha.out k hlt w
     have EP:Hid (setN (part 4 k (fun i=>bxTo (nth a i)) (nth a)) k (bxTo (nth a k))=part 4 (k+1) (fun i=>bxTo (nth a i)) (nth a)):=Lib.hid (part_set' hlt rfl)
     have lP:(part 4 k (fun i=>bxTo (nth a i)) (nth a)).length=4:=part_length
     generalize part 4 k (fun i=>bxTo (nth a i)) (nth a)=C at*
     go_wp2_with (first|(go_at_call 22;(with_reducible refine(TB.out _ _ hm.x).mono ?_);rintro e_ w_ ⟨rfl,rfl⟩)|((((with_reducible show qSt);first|((with_reducible apply wq_stv hm);exact rfl;infer_instance;exact rfl;(focus (repeat first|exact .hd|assumption|apply Swap.tl);done);infer_instance;exact rfl;(focus (first|omega|(simp;omega)|(refine ltB ?_;first|omega|(simp;done)|(simp;omega)))))));clear hm;intro w hm))
     rw [EP.out]at hm
     go_roundw
     case rel=>exact⟨k+1,by omega,by go_num,hm⟩
     case measure=>simp [intOf]<;>omega
   · obtain rfl:k=4:=by omega
     rw [part_all]at hm
     go_wp2_with (first|((with_reducible show qLd);first|((with_reducible apply wq_ldW hm);exact rfl;infer_instance;exact rfl;(focus (repeat first|exact .hd|assumption|apply Has.tl);done);(focus (first|rfl|omega|(simp;done)|(simp;omega)))))|((((with_reducible show qSt);first|((with_reducible apply wq_stW hm);exact rfl;infer_instance;exact rfl;exact rfl;(focus (repeat first|exact .hd|assumption|apply Swap.tl);done);(focus (first|rfl|omega|(simp;done)|(simp;omega)));(focus (first|rfl|omega|(simp;done)|(simp;omega)));(focus (first|exact one_map _|(simp [one8,one32,one64];done))))));clear hm;intro w hm))
     refine rtO hm rfl rfl (hR:=⟨rfl,hm.x⟩)
theorem aboth_any(a b:List Byte)(ha:a.length=16)(hb:b.length=16)(w0:World):Gives Tryz.prog 66 #[A8 a,A8 b] w0 (A8 (bothL a b)):=by
 unfold Gives
 have hm:=Own.start w0
 have C1:=Lib.hid fun (w wx:World)(p q:Option Addr)(h1:RdB wx p a)(h2:RdB wx q b)=>by
   have h:=xor_any a b p q 16 16 wx h1 h2 (by omega) (by omega)
   rw [ha,hb]at h;exact h
 have lX:(xorL a b).length=16:=by rw [xorL_length,ha,hb];rfl
 have eX:blk (xorL a b)=bothL a b:=by
   refine nth_ext (by rw [blk_length,bothL_length]) fun i hi=> ?_
   rw [blk_length]at hi
   rw [bothL_nth _ _ _ hi]
   have h1:nth (blk (xorL a b)) i=nth (xorL a b) i:=by
     rw [show nth (xorL a b) i=gb (xorL a b) i from(gb_in _ i).symm];simp [nth,blk,hi]
   rw [h1]
   exact xorL_getD a b i (by rw [lX];exact hi)
 have C2:=Lib.hid fun (wx:World)(p:Option Addr)(c:Nat)(h:RdB wx p (xorL a b))=>eX ▸ oblock_any (xorL a b) p c wx h
 have lZ:(bothL a b).length=16:=bothL_length _ _
 generalize bothL a b=Z at*
 generalize xorL a b=X at*
 have ha1:=Nat.le_of_eq ha
 have ha2:=Nat.le_of_eq ha.symm
 have hb1:=Nat.le_of_eq hb
 have hb2:=Nat.le_of_eq hb.symm
 clear lX eX
 go_enter Tryz.func66,Tryz.ntmps66
 go_wp2_with (first|((first|((with_reducible show qAl);first|((with_reducible apply wq_new hm);exact rfl;infer_instance))|((with_reducible show qBx);first|((with_reducible apply wq_boxN hm);exact rfl;exact rfl)));clear hm;(first|(have hx_:=g1;clear hx_;(first|(have hx_:=g2;clear hx_;intro gx_)|intro g2))|intro g1);intro w hm))
 have c1:=fun wx (hwx:Ext _ wx)=>C1.out wx wx _ _ ((hm.ext hwx).rdB (g:=g1) (l:=a) (by repeat (first|exact Has.hd|assumption|apply Has.tl))) ((hm.ext hwx).rdB (g:=g2) (l:=b) (by repeat (first|exact Has.hd|assumption|apply Has.tl)))
 refine region_at 4 (fun w'=>Ext _ w') 9 (by kernel_rfl) (by kernel_rfl) rfl (fun _ _ h k=>h.trans k) (drew_ext _) ?_
 simp only [tSC,List.take_zero,dSC,List.drop_zero,List.map_cons,List.map_nil]
 repeat (first
     | (apply walk_some (BytesS X) 7 (BytesS.stable _) rfl rfl rfl rfl
        · (intro wx hwx;go_simp;with_reducible exact gives_callR (c1 wx hwx)))
     | (apply walk_from (T:=[(7,BytesS X)]) rfl rfl
        · (intro wx hwx;simp only [withS];(rintro x ⟨p,c,rfl,hlc,hb'⟩);refine⟨rfl, ?_⟩;go_simp;with_reducible exact gives_call (C2.out wx p c hb'))
        · (simp only [Act.put,sIB,sCS,sCZ];rfl))
     | (apply walk_is rfl rfl rfl
        · (intro wx hwx;go_simp;(try go_bits);first|exact gives_same|exact gives_skip)
        · (simp only [Act.put,sIB,sCS,sCZ];rfl))
     | (apply walk_not rfl rfl rfl
        · (simp only [Act.put,sIB,sCS,sCZ];rfl)))
 intro wz hwz
 simp only [zCC,zNR]
 repeat (first|rw [fin_is]|(rw [fin_cons];intro _ _))
 rw [fin_nil]
 try (replace hm:=hm.ext hwz)
 simp only [Act.put,sIB,sCS,sCZ]
 clear c1
 go_wp2_with (first|((((with_reducible show qSt);first|((with_reducible apply wq_stW hm);exact rfl;infer_instance;exact rfl;exact rfl;(focus (repeat first|exact .hd|assumption|apply Swap.tl);done);(focus (first|rfl|omega|(simp;done)|(simp;omega)));(focus (first|rfl|omega|(simp;done)|(simp;omega)));(focus (first|exact one_map _|(simp [one8,one32,one64];done))))));clear hm;intro w hm))
 refine rtO hm rfl rfl (hR:=⟨rfl,hm.x⟩)
def joF(F:List Byte)(k:Nat):List Byte:=F.take (4*k)++List.replicate (16-4*k) 0
theorem joF_length(F:List Byte)(k:Nat)(hF:F.length=16)(hk:k≤4):(joF F k).length=16:=by rw [joF,List.length_append,List.length_take,List.length_replicate];omega
theorem joF_step(F b:List Byte)(k m:Nat)(hF:F.length=16)(hk:k<4)(hm:4≤m)(hb:(F.drop (4*k)).take 4=b):over (joF F k) (4*k) (b.take m)=joF F (k+1):=by
 have lb:b.length=4:=by rw [←hb,List.length_take,List.length_drop];omega
 have lt:(F.take (4*k)).length=4*k:=by rw [List.length_take];omega
 have e:(F.take (4*k)++List.replicate (16-4*k) (0:Byte)).drop (4*k+4)=List.replicate (16-4*(k+1)) 0:=by
   rw [List.drop_append,lt,List.drop_of_length_le (by omega),List.nil_append,List.drop_replicate,show 16-4*k-(4*k+4-4*k)=16-4*(k+1)from by omega]
 rw [List.take_of_length_le (by omega),over,joF,List.take_append_of_le_length (by omega),List.take_of_length_le (by omega),lb,e,joF,show 4*(k+1)=4*k+4 from by omega,List.take_add,hb]
theorem joF_all(F:List Byte)(hF:F.length=16):joF F 4=F:=by rw [joF,List.take_of_length_le (by omega)];simp
theorem joF_zero(F:List Byte):joF F 0=zer 16:=rfl
theorem joined_any(ws:List (List Byte))(p:Option Addr)(c:Nat)(w0:World)(h:RdK w0 p 4 ws)(h4:ws.length=4)(hc:4≤c):Gives Tryz.prog 63 #[.slice p 4 c] w0 (A8 ws.flatten):=by
 unfold Gives
 have hm:=Own.start w0
 have HK:=Lib.hid h
 have H4:=Lib.hid h4
 have lF:ws.flatten.length=16:=by rw [flatten_length 4 ws h.1,h4]
 have LF:=Lib.hid lF
 have FS:=Lib.hid fun k (hk:k<4)=>(flatten_seg 4 ws k h.1 (by omega):(ws.flatten.drop (k*4)).take 4=ws.getD k [])
 obtain⟨F,hF⟩:∃F,F=ws.flatten:=⟨_,rfl⟩
 rw [←hF]at LF FS⊢
 clear h h4 lF hF
 go_enter Tryz.func63,Tryz.ntmps63
 go_wp2_with (first|((first|((with_reducible show qAl);first|((with_reducible apply wq_new hm);exact rfl;infer_instance)));clear hm;(first|(have hx_:=g1;clear hx_;(first|(have hx_:=g2;clear hx_;intro gx_)|intro g2))|intro g1);intro w hm))
 go_loopw [8] (fun i wr=>∃k:Nat,k≤4∧i= .int .i64 k∧Own w0 wr [⟨g2,68,(joF F k).map v8⟩,⟨g1,68,(zer 16).map v8⟩]) (fun i _=>4-(intOf i).toNat)
 case atStart=>exact⟨0,by omega,rfl,by rw [joF_zero];exact hm⟩
 case round =>
   obtain⟨k,hk,rfl,hm⟩:=hrel
   by_cases hlt:k<4
   · have hd:decide ((k:Int)<4)=true:=decide_eq_true (by omega)
     have hd2:(k:Int)<4:=by omega
     obtain⟨a,rfl⟩:=HK.out.addr (by omega) (by rw [H4.out];omega)
     obtain⟨hK,hKl⟩:=HK.out.at (by omega) k (by rw [H4.out];exact hlt)
     simp only [Option.getD_some]at hK
     have HK2:=Lib.hid hK
     have ST:=Lib.hid fun m (hm4:4≤m)=>joF_step F (ws.getD k []) k m LF.out hlt hm4 (by rw [Nat.mul_comm];exact FS.out k hlt)
     have lJ:=joF_length F k LF.out (by omega)
     have lJ2:=joF_length F (k+1) LF.out (by omega)
     generalize joF F k=J at*
     obtain⟨J2,hJ2⟩:∃J2,joF F (k+1)=J2:=⟨_,rfl⟩
     rw [hJ2]at ST lJ2
     have HJ2:=Lib.hid hJ2
     clear hJ2
     generalize ws.getD k []=K at*
     have hK1:=Nat.le_of_eq hKl
     have hK2':=Nat.le_of_eq hKl.symm
     clear hK
     go_wp2_with (first|((with_reducible apply wq_rdW (HK2.out.ext hm.x));exact rfl;infer_instance;exact rfl;exact hKl)|((((with_reducible show qSt);first|((with_reducible apply wq_stW hm);exact rfl;infer_instance;exact rfl;exact rfl;(focus (repeat first|exact .hd|assumption|apply Swap.tl);done);(focus (first|rfl|omega|(simp;done)|(simp;omega)));(focus (first|rfl|omega|(simp;done)|(simp;omega)));(focus (first|exact one_map _|(simp [one8,one32,one64];done))))));clear hm;intro w hm)|((first|((with_reducible show qAl);first|((with_reducible apply wq_new hm);exact rfl;infer_instance)));clear hm;(first|(have hx_:=g1;clear hx_;(first|(have hx_:=g2;clear hx_;intro gx_)|intro g2))|intro g1);intro w hm))
     have hl0:(0:Int)≤4*(k:Int):=by omega
     have hl1:4*(k:Int)≤16:=by omega
     have hl2:(4*(k:Int)).toNat=4*k:=by omega
     have hl3:16≠4*k:=by omega
     have hl4:¬16=4*k:=hl3
     refine region_at 4 (fun w'=>Ext _ w') 20 (by kernel_rfl) (by kernel_rfl) rfl (fun _ _ h k=>h.trans k) (drew_ext _) ?_
     simp only [tSC,List.take_zero,dSC,List.drop_zero,List.map_cons,List.map_nil]
     repeat (first
         | (apply walk_is rfl rfl rfl
            · (intro wx hwx;go_simp;(try go_bits);first|exact gives_same|exact gives_skip)
            · (simp only [Act.put,sIB,sCS,sCZ];rfl))
         | (apply walk_not rfl rfl rfl
            · (simp only [Act.put,sIB,sCS,sCZ];rfl)))
     intro wz hwz
     simp only [zCC,zNR]
     repeat (first|rw [fin_is]|(rw [fin_cons];intro _ _))
     rw [fin_nil]
     try (replace hm:=hm.ext hwz)
     simp only [Act.put,sIB,sCS,sCZ]
     refine wpl_cp8 hm rfl rfl rfl rfl rfl (by kernel_rfl) (by repeat (first|exact Swap.hd|assumption|apply Swap.tl)) (hm.rdB (l:=K) (by repeat (first|exact Has.hd|assumption|apply Has.tl))) hKl.symm (ST.out _ (by omega)) (by omega) ?_
     clear hm
     intro w hm
     go_wp2_with fail
     go_roundw
     case rel=>exact⟨k+1,by omega,by go_num,by rw [HJ2.out];exact hm.drop⟩
     case measure=>simp [intOf]<;>omega
   · obtain rfl:k=4:=by omega
     rw [joF_all _ LF.out]at hm
     have lF1:=Nat.le_of_eq LF.out
     have lF2:=Nat.le_of_eq LF.out.symm
     go_wp2_with (first|((with_reducible show qLd);first|((with_reducible apply wq_ldW hm);exact rfl;infer_instance;exact rfl;(focus (repeat first|exact .hd|assumption|apply Has.tl);done);(focus (first|rfl|omega|(simp;done)|(simp;omega)))))|((((with_reducible show qSt);first|((with_reducible apply wq_stW hm);exact rfl;infer_instance;exact rfl;exact rfl;(focus (repeat first|exact .hd|assumption|apply Swap.tl);done);(focus (first|rfl|omega|(simp;done)|(simp;omega)));(focus (first|rfl|omega|(simp;done)|(simp;omega)));(focus (first|exact one_map _|(simp [one8,one32,one64];done))))));clear hm;intro w hm))
     refine rtO hm rfl rfl (hR:=⟨rfl,hm.x⟩)
theorem wq_row1 {P:Program}{ops:Array Oper}{Q:Exit→Act→World→Prop}{rest:List Oper}{a:Act}{w:World}{g k:Nat}{t T ty:TypeId}{cs:List Value}{v:Value}{dst:Option Tmp}{x:Operand}{pos:String}{aft:Array Edge}{gd:Option (Nat×Bool)}(h:Row w g t cs)(hgd:Region.wanted (Oper.mk dst (.load T x) ty pos aft gd) (yielded ops a.tmps)=true)(hT:One1 P T)(hx:a.eval x= .pointer (some ⟨g,k,none⟩))(hv:cs[k]? =some v)(hr:wpList P ops Q rest (a.put dst v) w):wpList P ops Q (Oper.mk dst (.load T x) ty pos aft gd::rest) a w:=
 wpList_want hgd fun K hK=>by
   have hc:w.cell? ⟨g,k,none⟩=some v:=by rw [row_cell h k];exact hv
   obtain⟨d,hu,hd⟩:=Option.map_eq_some_iff.1 hT.row
   have hagg:(isAgg T).run P w= .ok false w:=by
     unfold isAgg
     rw [Sem.run_bind,run_underlying hu w]
     cases d<;>simp_all
   have hl:(Instr.loadAt T (.pointer (some ⟨g,k,none⟩))).run P w= .ok v w:=by simp [Instr.loadAt,Instr.sureAddr,loadVar,Sem.run_bind,hagg,hc]
   unfold Oper.wp execOp
   simp only [hx,Sem.run_bind,hl,Result.andThen_ok,Sem.run_pure]
   exact hK _ _ hr
def aesC(gt:Nat)(p:Option Addr)(n c:Nat):List Value:=[.pointer (some ⟨gt,0,none⟩), .slice p n c]
def AesR(w:World)(g:Nat)(k0:List Byte)(ks:List (List Byte))(kl:List Byte):Prop:=
 ∃gt gb a c,Row w g 144 (aesC gt (some a) (ks.length+2) c)∧Row w gt 78 (tcells gb mixT unmixT)∧Row w gb 91 (tabs.map v8)∧RdK w (some a) 16 (k0::(ks++[kl]))∧ks.length+2≤c∧0<ks.length∧ks.length≤1000
theorem AesR.ext {w w':World}{g:Nat}{k0 kl:List Byte}{ks:List (List Byte)}(h:AesR w g k0 ks kl)(hx:Ext w w'):AesR w' g k0 ks kl:=by
 obtain⟨gt,gb,a,c,h1,h2,h3,h4,h5⟩:=h
 exact⟨gt,gb,a,c,row_ext h1 hx,row_ext h2 hx,row_ext h3 hx,h4.ext hx,h5⟩
theorem RdK.three {w:World}{a:Addr}{k0 kl:List Byte}{ks:List (List Byte)}(h:RdK w (some a) 16 (k0::(ks++[kl])))(h0:0<ks.length):
   k0.length=16∧kl.length=16∧RdB w (some a) k0∧RdK w (some (a.add 16)) 16 ks∧RdB w (some (a.add ((ks.length+1)*16))) kl:=by
 have e0:=h.at (by omega) 0 (by simp)
 have e1:=h.at (by omega) (ks.length+1) (by simp)
 have el:(k0::(ks++[kl])).getD (ks.length+1) []=kl:=by simp
 rw [el]at e1
 simp only [List.getD_cons_zero,Option.getD_some,Nat.zero_mul]at e0 e1
 have hks:∀k∈ks,k.length=16:=fun k hk=>h.1 k (by simp [hk])
 have lk:=flatten_length 16 ks hks
 have hs:=h.2.sub 16 (ks.length*16) (by simp only [List.flatten_cons,List.flatten_append,List.length_append,e0.2,lk];omega) (by omega)
 have ef:((k0::(ks++[kl])).flatten.drop 16).take (ks.length*16)=ks.flatten:=by
   rw [List.flatten_cons,List.drop_append_of_le_length (by omega),List.drop_of_length_le (by omega),List.nil_append,List.flatten_append,List.take_append_of_le_length (by omega),List.take_of_length_le (by omega)]
 rw [ef]at hs
 refine⟨e0.2,e1.2, ?_,⟨hks,hs⟩,e1.1⟩
 have:=e0.1
 rwa [show a.add 0=a from rfl]at this
def aesE(k0:List Byte)(ks:List (List Byte))(kl b:List Byte):List Byte:=last (rnds (bothL b k0) ks) kl
theorem aesE_length(k0:List Byte)(ks:List (List Byte))(kl b:List Byte):(aesE k0 ks kl b).length=16:=by rw [aesE];exact last_length _ _
theorem encrypt_any(g:Nat)(k0 kl:List Byte)(ks:List (List Byte))(b:List Byte)(hb:b.length=16)(w0:World)(h:AesR w0 g k0 ks kl):Gives Tryz.prog 52 #[.pointer (some ⟨g,0,none⟩),A8 b] w0 (A8 (aesE k0 ks kl b)):=by
 unfold Gives
 have hm:=Own.start w0
 obtain⟨gt,gb,a,c,h1,h2,h3,h4,h5,h6,h7⟩:=h
 have R1:=Lib.hid fun wx (hx:Ext w0 wx)=>row_ext h1 hx
 have R2:=Lib.hid fun wx (hx:Ext w0 wx)=>row_ext h2 hx
 have R3:=Lib.hid fun wx (hx:Ext w0 wx)=>row_ext h3 hx
 obtain⟨l0,ll,d0,dm,dl⟩:=h4.three h6
 have D0:=Lib.hid d0
 have DM:=Lib.hid dm
 have DL:=Lib.hid dl
 obtain⟨m,hm_⟩:∃m,ks.length=m:=⟨_,rfl⟩
 have B0:=Lib.hid fun wx=>aboth_any b k0 hb l0 wx
 have B1:=Lib.hid fun wx (hx:Ext w0 wx)=>show Gives Tryz.prog 65 #[.pointer (some ⟨gt,0,none⟩),A8 (bothL b k0), .slice (some (a.add 16)) m (c-1)] wx (A8 (rnds (bothL b k0) ks))from by
   have:=trounds_any gt gb (bothL b k0) ks (some (a.add 16)) (c-1) (bothL_length _ _) wx (dm.ext hx) (by omega) (by omega) (row_ext h2 hx)
   rwa [hm_]at this
 have lR:(rnds (bothL b k0) ks).length=16:=rnds_length _ _ (bothL_length _ _)
 have B2:=Lib.hid fun wx (hx:Ext w0 wx)=>show Gives Tryz.prog 67 #[.pointer (some ⟨gt,0,none⟩),A8 (rnds (bothL b k0) ks),A8 kl] wx (A8 (aesE k0 ks kl b))from last_any gt gb (rnds (bothL b k0) ks) kl lR ll wx (row_ext h2 hx) (row_ext h3 hx)
 have lE:=aesE_length k0 ks kl b
 rw [hm_]at R1 h5 h6 h7 DL
 generalize aesE k0 ks kl b=E at*
 generalize rnds (bothL b k0) ks=R at*
 generalize bothL b k0=X at*
 have P0:Hid ((aesC gt (some a) (m+2) c)[0]? =some (.pointer (some ⟨gt,0,none⟩))):=Lib.hid rfl
 have P1:Hid ((aesC gt (some a) (m+2) c)[1]? =some (.slice (some a) (m+2) c)):=Lib.hid rfl
 have q1:((m:Int)+2)-1=(m:Int)+1:=by omega
 have q2:(1:Int)≤(m:Int)+1:=by omega
 have q3:(m:Int)+1≤(c:Int):=by omega
 have q4:(m:Int)+1<(m:Int)+2:=by omega
 have q5:((m:Int)+1).toNat=m+1:=by omega
 have q6:(0:Int)<(m:Int)+2:=by omega
 have q7:¬c=1:=by omega
 have q8:(m:Int)+1<(m:Int)+2:=by omega
 have q9:0≤(m:Int)+1:=by omega
 have hb1:=Nat.le_of_eq hb
 have hb2:=Nat.le_of_eq hb.symm
 have hl1:=Nat.le_of_eq lR
 have hl2:=Nat.le_of_eq lR.symm
 have he1:=Nat.le_of_eq lE
 have he2:=Nat.le_of_eq lE.symm
 clear h1 h2 h3 h4 d0 dm dl hm_ hb lR lE
 go_enter Tryz.func52,Tryz.ntmps52
 go_wp2_with (first|((with_reducible apply wq_row1 (R1.out _ hm.x));exact rfl;infer_instance;exact rfl;exact P1.out)|((first|((with_reducible show qAl);first|((with_reducible apply wq_new hm);exact rfl;infer_instance))|((with_reducible show qBx);first|((with_reducible apply wq_boxN hm);exact rfl;exact rfl)));clear hm;intro gx_;intro w hm))
 have r1:=fun wx (hwx:Ext w wx)=>R1.out wx (hm.x.trans hwx)
 have d0:=fun wx (hwx:Ext w wx)=>D0.out.ext (hm.x.trans hwx)
 have hx0:=hm.x
 refine region_at 19 (fun w'=>Ext _ w') 47 (by kernel_rfl) (by kernel_rfl) rfl (fun _ _ h k=>h.trans k) (drew_ext _) ?_
 simp only [tSC,List.take_zero,dSC,List.drop_zero,List.map_cons,List.map_nil]
 repeat (first
     | (apply walk_is rfl rfl rfl
        · (intro wx hwx;(with_reducible apply gq_row1 ((r1) wx hwx));infer_instance;exact rfl;exact P0.out)
        · (simp only [Act.put,sIB,sCS,sCZ];rfl))
     | (apply walk_is rfl rfl rfl
        · (intro wx hwx;(with_reducible apply gq_row1 ((r1) wx hwx));infer_instance;exact rfl;exact P1.out)
        · (simp only [Act.put,sIB,sCS,sCZ];rfl))
     | (apply walk_is rfl rfl rfl
        · (intro wx hwx;(with_reducible apply gq_rdW ((d0) wx hwx));infer_instance;exact rfl;(focus (first|rfl|omega|(simp;done)|(simp;omega))))
        · (simp only [Act.put,sIB,sCS,sCZ];rfl))
     | (apply walk_is rfl rfl rfl
        · (intro wx hwx;first|((with_reducible show gives _ _ _ (Sem.run _ (execOp _ (Oper.mk _ (Op.load _ _) _ _ _ _)) _));first|((with_reducible apply gq_ldW (hm.ext hwx));infer_instance;exact rfl;(focus (repeat first|exact .hd|assumption|apply Has.tl);done);(focus (first|rfl|omega|(simp;done)|(simp;omega)))))|(go_simp;(try go_bits);first|exact gives_same|exact gives_skip|with_reducible exact gives_call (B0.out wx)|exact gives_call (B1.out wx (hx0.trans hwx))))
        · (simp only [Act.put,sIB,sCS,sCZ];rfl))
     | (apply walk_not rfl rfl rfl
        · (simp only [Act.put,sIB,sCS,sCZ];rfl)))
 intro wz hwz
 simp only [zCC,zNR]
 repeat (first|rw [fin_is]|(rw [fin_cons];intro _ _))
 rw [fin_nil]
 try (replace hm:=hm.ext hwz)
 simp only [Act.put,sIB,sCS,sCZ]
 clear r1 d0 hx0
 go_wp2_with (first|((((with_reducible show qSt);first|((with_reducible apply wq_stW hm);exact rfl;infer_instance;exact rfl;exact rfl;(focus (repeat first|exact .hd|assumption|apply Swap.tl);done);(focus (first|rfl|omega|(simp;done)|(simp;omega)));(focus (first|rfl|omega|(simp;done)|(simp;omega)));(focus (first|exact one_map _|(simp [one8,one32,one64];done))))));clear hm;intro w hm))
 have r1:=fun wx (hwx:Ext w wx)=>R1.out wx (hm.x.trans hwx)
 have d0:=fun wx (hwx:Ext w wx)=>DL.out.ext (hm.x.trans hwx)
 have hx0:=hm.x
 refine region_at 13 (fun w'=>Ext _ w') 47 (by kernel_rfl) (by kernel_rfl) rfl (fun _ _ h k=>h.trans k) (drew_ext _) ?_
 simp only [tSC,List.take_zero,dSC,List.drop_zero,List.map_cons,List.map_nil]
 repeat (first
     | (apply walk_is rfl rfl rfl
        · (intro wx hwx;(with_reducible apply gq_row1 ((r1) wx hwx));infer_instance;exact rfl;exact P0.out)
        · (simp only [Act.put,sIB,sCS,sCZ];rfl))
     | (apply walk_is rfl rfl rfl
        · (intro wx hwx;(with_reducible apply gq_row1 ((r1) wx hwx));infer_instance;exact rfl;exact P1.out)
        · (simp only [Act.put,sIB,sCS,sCZ];rfl))
     | (apply walk_is rfl rfl rfl
        · (intro wx hwx;(with_reducible apply gq_rdW ((d0) wx hwx));infer_instance;exact rfl;(focus (first|rfl|omega|(simp;done)|(simp;omega))))
        · (simp only [Act.put,sIB,sCS,sCZ];rfl))
     | (apply walk_is rfl rfl rfl
        · (intro wx hwx;first|((with_reducible show gives _ _ _ (Sem.run _ (execOp _ (Oper.mk _ (Op.load _ _) _ _ _ _)) _));first|((with_reducible apply gq_ldW (hm.ext hwx));infer_instance;exact rfl;(focus (repeat first|exact .hd|assumption|apply Has.tl);done);(focus (first|rfl|omega|(simp;done)|(simp;omega)))))|(go_simp;(try go_bits);first|exact gives_same|exact gives_skip|with_reducible exact gives_call (B2.out wx (hx0.trans hwx))))
        · (simp only [Act.put,sIB,sCS,sCZ];rfl))
     | (apply walk_not rfl rfl rfl
        · (simp only [Act.put,sIB,sCS,sCZ];rfl)))
 intro wz hwz
 simp only [zCC,zNR]
 repeat (first|rw [fin_is]|(rw [fin_cons];intro _ _))
 rw [fin_nil]
 try (replace hm:=hm.ext hwz)
 simp only [Act.put,sIB,sCS,sCZ]
 clear r1 d0 hx0
 go_wp2_with (first|((((with_reducible show qSt);first|((with_reducible apply wq_stW hm);exact rfl;infer_instance;exact rfl;exact rfl;(focus (repeat first|exact .hd|assumption|apply Swap.tl);done);(focus (first|rfl|omega|(simp;done)|(simp;omega)));(focus (first|rfl|omega|(simp;done)|(simp;omega)));(focus (first|exact one_map _|(simp [one8,one32,one64];done))))));clear hm;intro w hm))
 refine rtO hm rfl rfl (hR:=⟨rfl,hm.x⟩)
end Go.Proofs.YtllnjbiebdkmbaaGreatDoor
