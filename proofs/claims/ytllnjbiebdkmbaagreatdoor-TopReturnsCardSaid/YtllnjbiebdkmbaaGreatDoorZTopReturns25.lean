/-
  Texts of the program, walked, and plain ones. Conditions: those written in each theorem.
-/
import Derived.Test.YtllnjbiebdkmbaaGreatDoorZTopReturns0
import Derived.Test.YtllnjbiebdkmbaaGreatDoorZTopReturns17
import Derived.Test.YtllnjbiebdkmbaaGreatDoorZTopReturns8
import Derived.Test.YtllnjbiebdkmbaaGreatDoorZTopReturns22
import Derived.Test.YtllnjbiebdkmbaaGreatDoorZTopReturns24
set_option linter.unusedSimpArgs false
set_option linter.unusedVariables false
set_option maxHeartbeats 16000000
namespace Go.Proofs.YtllnjbiebdkmbaaGreatDoor
open Go Go.RowKit
set_option maxRecDepth 100000
def setE(l:List (BitVec 64))(n:Nat)(x:W2):List (BitVec 64):=setN (setN l (2*n) x.1) (2*n+1) x.2
theorem setE_length(l:List (BitVec 64))(n:Nat)(x:W2):(setE l n x).length=l.length:=by simp [setE]
def inE(l:List (BitVec 64))(one:W2)(b:Nat):Nat→List (BitVec 64)
 |0=>l
 |i+1=>setE (inE l one b i) (b+i) (plusW (ent (inE l one b i) i) one 1#64)
theorem inE_length(l:List (BitVec 64))(one:W2)(b i:Nat):(inE l one b i).length=l.length:=by
 induction i with
 |zero=>rfl
 |succ i ih=>rw [inE,setE_length,ih]
def tbE(one:W2):Nat→List (BitVec 64)
 |0=>zer 32
 |k+1=>inE (tbE one k) (upK one k) (2^k) (2^k)
theorem tbE_length(one:W2)(k:Nat):(tbE one k).length=32:=by
 induction k with
 |zero=>exact zer_length
 |succ k ih=>rw [tbE,inE_length,ih]
def oneE(h:List Byte):W2:=dotF (num h 0 8,num h 8 8) (1#64,0#64) 128
def mkT(h:List Byte):List (BitVec 64):=tbE (oneE h) 4
theorem mkT_length(h:List Byte):(mkT h).length=32:=tbE_length _ _
theorem set_two {α :Type}(l:List α)(k:Nat)(a b: α)(h:k+1<l.length):l.take k++[a,b]++l.drop (k+2)=(l.set k a).set (k+1) b:=by
 have e1:(l.set k a).take (k+1)=l.take k++[a]:=by
   rw [List.take_succ_eq_append_getElem (by rw [List.length_set];omega),List.take_set_of_le (Nat.le_refl _)];simp
 rw [List.set_eq_take_append_cons_drop,if_pos (by rw [List.length_set];omega),e1,List.drop_set_of_lt (by omega)];simp
theorem setE_cells(l:List (BitVec 64))(n:Nat)(x:W2)(h:2*n+1<l.length):(l.map v64).take (n*2)++[v64 x.1,v64 x.2]++(l.map v64).drop (n*2+2)=(setE l n x).map v64:=by
 rw [set_two _ _ _ _ (by rw [List.length_map];omega),mapv_set,mapv_set,setE,Nat.mul_comm n 2]
theorem or_pow(k i:Nat)(hk:k<4)(hi:i<2^k):bits BinOp.or IntKind.i64 ((2^k:Nat):Int) (i:Int)=((2^k+i:Nat):Int):=by
 have:∀(k:Fin 4)(i:Fin 8),i.val<2^k.val→bits BinOp.or IntKind.i64 ((2^k.val:Nat):Int) (i.val:Int)=((2^k.val+i.val:Nat):Int):=by decide+kernel
 have h8:2^k≤2^3:=Nat.pow_le_pow_right (by omega) (by omega)
 exact this ⟨k,hk⟩ ⟨i,by omega⟩ hi
theorem wrap_pow(k:Nat)(hk:k<4):wrap64 ((2:Int)^k)=((2^k:Nat):Int):=by
 rcases (show k=0∨k=1∨k=2∨k=3 by omega)with rfl|rfl|rfl|rfl<;>decide+kernel
theorem rmake_tab(h:List Byte)(hh:h.length=16)(w0:World):Calls Tryz.prog 172 #[A8 h] w0 fun e w'=>∃g,e= .returned (.pointer (some ⟨g,0,none⟩))∧w0.heap.size≤g∧Row w' g 258 ((mkT h).map v64)∧Ext w0 w':=by
 have hm:=Own.start w0
 have L1:=Lib.hid fun (w:World)(p:Option Addr)(c:Nat)(hr:RdB w p h)=>show Gives Tryz.prog 125 #[.slice p 16 c] w (WV (num h 0 8) (num h 8 8))from by
   have:=load_any h p c w hr (by omega);rwa [hh]at this
 have D1:=Lib.hid fun (w:World)=>show Gives Tryz.prog 174 #[WV (num h 0 8) (num h 8 8), .agg #[.int .u64 1, .int .u64 0]] w (WP (oneE h))from ridot_any (num h 0 8,num h 8 8) (1#64,0#64) w
 have BZ:=Lib.hid fun w=>(by kernel_rfl:(Instr.build 71 #[(0, .int .u64 1)]).run Tryz.prog w= .ok (WV 1#64 0#64) w)
 have BT:=Lib.hid fun w=>(by kernel_rfl:(Instr.build 258 #[]).run Tryz.prog w= .ok (.agg ((zer (n:=64) 32).map v64).toArray) w)
 have U1:=Lib.hid fun (s:W2)(w:World)=>riup_any s w
 have PL:=Lib.hid fun (l:List (BitVec 64))(s:W2)(n:Nat)(w:World)=>show Gives Tryz.prog 175 #[.agg #[v64 (nth l (2*n)),v64 (nth l (2*n+1))],WP s, .int .u64 1] w (WP (plusW (ent l n) s 1#64))from riplus_any (ent l n) s 1#64 w
 have ET:=Lib.hid (show mkT h=tbE (oneE h) 4 from rfl)
 generalize oneE h=O at*
 generalize num h 0 8=h0 at*
 generalize num h 8 8=h1 at*
 have ha1:=Nat.le_of_eq hh
 have ha2:=Nat.le_of_eq hh.symm
 go_enter Tryz.func172,Tryz.ntmps172
 have bt:=BT.out
 have bz:=BZ.out
 go_wp2_with (first|(go_at_call 125;(with_reducible refine(L1.out _ _ _ (hm.rdB (g:=g1) (l:=h) (by repeat (first|exact Has.hd|assumption|apply Has.tl)))).mono ?_);rintro e_ w ⟨rfl,hx_⟩;replace hm:=hm.ext hx_;clear hx_)|(go_at_call 174;(with_reducible refine(D1.out _).mono ?_);rintro e_ w ⟨rfl,hx_⟩;replace hm:=hm.ext hx_;clear hx_)|((((with_reducible show qSt);first|((with_reducible apply wq_stW hm);exact rfl;infer_instance;exact rfl;exact rfl;(focus (repeat first|exact .hd|assumption|apply Swap.tl);done);(focus (first|rfl|omega|(simp;done)|(simp;omega)));(focus (first|rfl|omega|(simp;done)|(simp;omega)));(focus (first|exact one_map _|(simp [one8,one32,one64];done))))));clear hm;intro w hm)|((first|((with_reducible show qAl);first|((with_reducible apply wq_new hm);exact rfl;infer_instance))|((with_reducible show qBx);first|((with_reducible apply wq_boxN hm);exact rfl;exact rfl)));clear hm;(first|(have hx_:=g1;clear hx_;(first|(have hx_:=g2;clear hx_;(first|(have hx_:=g3;clear hx_;intro gx_)|intro g3))|intro g2))|intro g1);intro w hm))
 replace hm:Own w0 w [⟨g3,71,[v64 (upK O 0).1,v64 (upK O 0).2]⟩,⟨g2,258,(tbE O 0).map v64⟩,⟨g1,68,h.map v8⟩]:=hm
 go_loopw [13] (fun i wr=>∃k:Nat,k≤4∧i= .int .i64 k∧Own w0 wr [⟨g3,71,[v64 (upK O k).1,v64 (upK O k).2]⟩,⟨g2,258,(tbE O k).map v64⟩,⟨g1,68,h.map v8⟩]) (fun i _=>4-(intOf i).toNat)
 case atStart=>exact⟨0,by omega,rfl,hm⟩
 case round =>
   obtain⟨k,hk,rfl,hm⟩:=hrel
   by_cases hlt:k<4
   · have hd : decide ((k:Int)<4)=true:=decide_eq_true (by omega)
     have hd2:(k:Int)<4:=by omega
     have EK:Hid (tbE O (k+1)=inE (tbE O k) (upK O k) (2^k) (2^k)):=Lib.hid rfl
     have UK:Hid (upK O (k+1)=upW (upK O k)):=Lib.hid rfl
     have lT:=tbE_length O k
     generalize tbE O k=T at*
     generalize upK O k=S at*
     obtain⟨Q,hQ⟩:∃Q,Q=2^k:=⟨_,rfl⟩
     have wp:wrap64 ((2:Int)^k)=(Q:Int):=by rw [hQ];exact wrap_pow k hlt
     have OR:=Lib.hid fun i (hi:i<Q)=>(show bits BinOp.or IntKind.i64 (Q:Int) (i:Int)=((Q+i:Nat):Int)from by subst hQ;exact or_pow k i hlt hi)
     have hQ8:Q≤8:=by
       have:2^k≤2^3:=Nat.pow_le_pow_right (by omega) (by omega)
       omega
     rw [←hQ]at EK
     clear hQ
     have LI:=Lib.hid fun i=>(show(inE T S Q i).length=32 from by rw [inE_length];exact lT)
     have I0:Hid (inE T S Q 0=T):=Lib.hid rfl
     go_wp2_with fail
     rw [wp]
     go_loopw [18] (fun i wr=>∃j:Nat,j≤Q∧i= .int .i64 j∧Own w0 wr [⟨g3,71,[v64 S.1,v64 S.2]⟩,⟨g2,258,(inE T S Q j).map v64⟩,⟨g1,68,h.map v8⟩]) (fun i _=>Q-(intOf i).toNat)
     case atStart=>exact⟨0,by omega,rfl,by rw [I0.out];exact hm⟩
     case round =>
       obtain⟨j,hj,rfl,hm⟩:=hrel
       by_cases hlj:j<Q
       · have hd3:decide ((j:Int)<(Q:Int))=true:=decide_eq_true (by omega)
         have hd4:(j:Int)<(Q:Int):=by omega
         have oq:=OR.out j hlj
         have lJ:=LI.out j
         have IJ:Hid (inE T S Q (j+1)=setE (inE T S Q j) (Q+j) (plusW (ent (inE T S Q j) j) S 1#64)):=Lib.hid rfl
         generalize inE T S Q j=V at*
         have j16:(j:Int)<16:=by omega
         have q16:(Q:Int)+(j:Int)<16:=by omega
         have q17:(0:Int)≤(Q:Int)+(j:Int):=by omega
         have q18:((Q:Int)+(j:Int)).toNat=Q+j:=by omega
         have TE:=Lib.hid (show((V.map v64).drop (j*2)).take 2=[v64 (nth V (2*j)),v64 (nth V (2*j+1))]from by rw [Nat.mul_comm];exact two_at V j (by omega))
         have SE:=Lib.hid (setE_cells V (Q+j) (plusW (ent V j) S 1#64) (by omega))
         go_wp2_with fail
         refine region_at 16 (fun w'=>Ext _ w') 42 (by kernel_rfl) (by kernel_rfl) rfl (fun _ _ h k=>h.trans k) (drew_ext _) ?_
         simp only [tSC,List.take_zero,dSC,List.drop_zero,List.map_cons,List.map_nil]
         repeat (first
             |(apply walk_is rfl rfl rfl;(intro wx hwx;(with_reducible apply gq_ldN (hm.ext hwx));infer_instance;exact rfl;(focus (repeat first|exact .hd|assumption|apply Has.tl);done);(exact TE.out);exact rfl);(simp only [Act.put,sIB,sCS,sCZ];rfl))
             | (apply walk_is rfl rfl rfl
                · (intro wx hwx;first|((with_reducible show gives _ _ _ (Sem.run _ (execOp _ (Oper.mk _ (Op.load _ _) _ _ _ _)) _));first|((with_reducible apply gq_ldW (hm.ext hwx));infer_instance;exact rfl;(focus (repeat first|exact .hd|assumption|apply Has.tl);done);(focus (first|rfl|omega|(simp;done)|(simp;omega)))))|(go_simp;(try go_bits);first|exact gives_same|exact gives_skip|with_reducible exact gives_call (PL.out V S j wx)))
                · (simp only [Act.put,sIB,sCS,sCZ];rfl))
             | (apply walk_not rfl rfl rfl
                · (simp only [Act.put,sIB,sCS,sCZ];rfl)))
         intro wz hwz
         simp only [zCC,zNR]
         repeat (first|rw [fin_is]|(rw [fin_cons];intro _ _))
         rw [fin_nil]
         try (replace hm:=hm.ext hwz)
         simp only [Act.put,sIB,sCS,sCZ]
         generalize plusW (ent V j) S 1#64=X at*
         go_wp2_with (first|((with_reducible apply wq_stA hm);exact rfl;infer_instance;exact rfl;exact rfl;(focus (repeat first|exact .hd|assumption|apply Swap.tl);done);(exact SE.out);exact rfl;(exact(by rw [List.length_map];omega));(exact(by simp [one64]));clear hm;intro w hm))
         go_roundw
         case rel=>exact⟨j+1,by omega,by go_num,by rw [IJ.out];exact hm⟩
         case measure=>simp [intOf]<;>omega
       · obtain rfl:j=Q:=by omega
         have hd3:decide ((j:Int)<(j:Int))=false:=decide_eq_false (by omega)
         rw [←EK.out]at hm
         go_wp2_with (first|(go_at_call 176;(with_reducible refine(U1.out _ _).mono ?_);rintro e_ w ⟨rfl,hx_⟩;replace hm:=hm.ext hx_;clear hx_)|((with_reducible show qLd);first|((with_reducible apply wq_ldW hm);exact rfl;infer_instance;exact rfl;(focus (repeat first|exact .hd|assumption|apply Has.tl);done);(focus (first|rfl|omega|(simp;done)|(simp;omega)))))|((((with_reducible show qSt);first|((with_reducible apply wq_stW hm);exact rfl;infer_instance;exact rfl;exact rfl;(focus (repeat first|exact .hd|assumption|apply Swap.tl);done);(focus (first|rfl|omega|(simp;done)|(simp;omega)));(focus (first|rfl|omega|(simp;done)|(simp;omega)));(focus (first|exact one_map _|(simp [one8,one32,one64];done))))));clear hm;intro w hm))
         go_roundw
         case rel=>exact⟨k+1,by omega,by go_num,by rw [UK.out];exact hm⟩
         case measure=>simp [intOf]<;>omega
   · obtain rfl:k=4:=by omega
     have hd:decide (((4:Nat):Int)<4)=false:=decide_eq_false (by omega)
     go_wp2_with fail
     go_ret
     exact⟨g2,rfl,(show w0.heap.size≤(⟨g2,258,(tbE O 4).map v64⟩:Blk).g from hm.base (.tl .hd)),by rw [ET.out];exact hm.row (.tl .hd),hm.x⟩
def stC(gt:Nat)(v:List Byte):List Value:= .pointer (some ⟨gt,0,none⟩)::v.map v8
theorem stC_drop(gt:Nat)(v:List Byte)(h:v.length=16):((stC gt v).drop 1).take 16=v.map v8:=by
 rw [stC,dSC,List.drop_zero,List.take_of_length_le (by rw [List.length_map];omega)]
theorem vnew_any(h:List Byte)(hh:h.length=16)(w0:World):Calls Tryz.prog 167 #[A8 h] w0 fun e w'=>∃g gt,e= .returned (.pointer (some ⟨g,0,none⟩))∧w0.heap.size≤g∧w0.heap.size≤gt∧gt≠g∧Row w' g 255 (stC gt (zer 16))∧Row w' gt 258 ((mkT h).map v64)∧Ext w0 w':=by
 have hm:=Own.start w0
 have M1:=Lib.hid fun w=>rmake_tab h hh w
 have BV:=Lib.hid fun g w=>(by kernel_rfl:(Instr.build 255 #[(0, .pointer (some ⟨g,0,none⟩))]).run Tryz.prog w= .ok (.agg (stC g (zer 16)).toArray) w)
 have ha1:=Nat.le_of_eq hh
 have ha2:=Nat.le_of_eq hh.symm
 clear hh
 go_enter Tryz.func167,Tryz.ntmps167
 go_wp2_with (first|((with_reducible show qLd);first|((with_reducible apply wq_ldW hm);exact rfl;infer_instance;exact rfl;(focus (repeat first|exact .hd|assumption|apply Has.tl);done);(focus (first|rfl|omega|(simp;done)|(simp;omega)))))|((first|((with_reducible show qBx);first|((with_reducible apply wq_boxN hm);exact rfl;exact rfl)));clear hm;(first|(have hx_:=g1;clear hx_;(first|(have hx_:=g2;clear hx_;intro gx_)|intro g2))|intro g1);intro w hm))
 refine(M1.out _).mono ?_
 rintro e w ⟨gt,rfl,hg,hr,hx⟩
 replace hm:=hm.push hx hg hr
 clear hg hr hx
 have bv:=BV.out gt
 go_wp2_with (first|((first|((with_reducible show qBx);first|((with_reducible apply wq_boxN hm);exact rfl;exact rfl)));clear hm;(first|(have hx_:=g1;clear hx_;(first|(have hx_:=g2;clear hx_;intro gx_)|intro g2))|intro g1);intro w hm))
 go_ret
 have hn:=hm.2.1
 simp only [List.map_cons,List.map_nil,List.nodup_cons,List.mem_cons,not_or]at hn
 exact⟨g2,gt,rfl,(show w0.heap.size≤(⟨g2,255,stC gt (zer 16)⟩:Blk).g from hm.base .hd),(show w0.heap.size≤(⟨gt,258,(mkT h).map v64⟩:Blk).g from hm.base (.tl .hd)),fun e=>hn.1.1 e.symm,hm.row .hd,hm.row (.tl .hd),hm.x⟩
theorem vvalue_any(g gt:Nat)(v:List Byte)(hv:v.length=16)(w0:World)(h:Row w0 g 255 (stC gt v)):Gives Tryz.prog 169 #[.pointer (some ⟨g,0,none⟩)] w0 (A8 v):=by
 unfold Gives
 have hm:=Own.start w0
 have HR:=Lib.hid fun w (hx:Ext w0 w)=>row_ext h hx
 have HD:=Lib.hid (stC_drop gt v hv)
 have h1:=Nat.le_of_eq hv
 have h2:=Nat.le_of_eq hv.symm
 have HV:=Lib.hid hv
 clear h hv
 go_enter Tryz.func169,Tryz.ntmps169
 go_wp2_with (first|((with_reducible apply wq_rowN (HR.out _ hm.x));exact rfl;infer_instance;exact rfl;exact HD.out;exact(by rw [List.length_map];exact HV.out))|((((with_reducible show qSt);first|((with_reducible apply wq_stW hm);exact rfl;infer_instance;exact rfl;exact rfl;(focus (repeat first|exact .hd|assumption|apply Swap.tl);done);(focus (first|rfl|omega|(simp;done)|(simp;omega)));(focus (first|rfl|omega|(simp;done)|(simp;omega)));(focus (first|exact one_map _|(simp [one8,one32,one64];done))))));clear hm;intro w hm)|((first|((with_reducible show qAl);first|((with_reducible apply wq_new hm);exact rfl;infer_instance)));clear hm;intro gx_;intro w hm))
 refine rtO hm rfl rfl (hR:=⟨rfl,hm.x⟩)
def vl16:List Byte:=putL 259#64 8++putL 0#64 8
def wrF(l:List (BitVec 64))(v B:List Byte):Nat→List Byte
 |0=>v
 |k+1=>dotT l (blk (xorL (wrF l v B k) (B.drop (16*k))))
theorem dotT_length(l:List (BitVec 64))(a:List Byte):(dotT l a).length=16:=by rw [dotT,List.length_append,putL_length,putL_length]
theorem wrF_length(l:List (BitVec 64))(v B:List Byte)(k:Nat)(h:v.length=16):(wrF l v B k).length=16:=by
 cases k with
 |zero=>exact h
 |succ k=>exact dotT_length _ _
theorem stC_rd {w:World}{g gt:Nat}{v:List Byte}(h:Row w g 255 (stC gt v)):RdB w (some ⟨g,1,none⟩) v:=⟨fun _=>rfl,fun i hi=>by
 have:=row_cell h (1+i)
 rw [stC,Nat.add_comm 1 i,List.getElem?_cons_succ,map8_at v hi,Nat.add_comm i 1]at this
 rw [show((some (⟨g,1,none⟩:Addr)).getD default).add i=⟨g,1+i,none⟩from by simp [Addr.add],this];rfl⟩
theorem stC_set(gt:Nat)(v x:List Byte)(h:v.length=16):(stC gt v).take 1++x.map v8++(stC gt v).drop (1+16)=stC gt x:=by
 rw [stC,tSC,List.take_zero,show 1+16=16+1 from rfl,dSC,List.drop_of_length_le (by rw [List.length_map];omega),List.append_nil];rfl
def slnV:Value→Nat
 | .slice _ n _=>n
 |_=>0
theorem vwrite_any(g gt:Nat)(l:List (BitVec 64))(hl:l.length=32)(v b:List Byte)(hv:v.length=16)(n:Nat)(hb:(pad b 16).length=16*n)(hbl:b.length≤1000)(p:Option Addr)(c:Nat)(w0 w:World)(R:List Blk)(hr:RdB w p b)(hm:Own w0 w (⟨g,255,stC gt v⟩::R))(hT:Has R ⟨gt,258,l.map v64⟩):
   Calls Tryz.prog 168 #[.pointer (some ⟨g,0,none⟩), .slice p b.length c] w fun e w'=>e= .returned (.tuple #[])∧∃gp,Own w0 w' (⟨g,255,stC gt (wrF l v (pad b 16) n)⟩::⟨gp,5,(pad b 16).map v8⟩::R):=by
 have P1:=Lib.hid (padded_new b p c 16 w hr (by omega) (by omega) (by omega))
 have HT:=Lib.hid hT
 have HV:=Lib.hid hv
 have HB:=Lib.hid hb
 have HLW:=Lib.hid fun k=>wrF_length l v (pad b 16) k hv
 have HW:=Lib.hid fun k=>(show wrF l v (pad b 16) (k+1)=dotT l (blk (xorL (wrF l v (pad b 16) k) ((pad b 16).drop (16*k))))from rfl)
 have H0:Hid (wrF l v (pad b 16) 0=v):=Lib.hid rfl
 have DT:=Lib.hid fun (wx:World)(x:List Byte)(hx:x.length=16)(h:Row wx gt 258 (l.map v64))=>ritdot_any gt l hl x hx wx h
 have XO:=Lib.hid fun (wx:World)(x y:List Byte)(hx:x.length=16)(hy:y.length≤1100)(q r:Option Addr)(d e:Nat)(h1:RdB wx q x)(h2:RdB wx r y)=>(show GivesR Tryz.prog 57 #[.slice q 16 d, .slice r y.length e] wx (BytesS (xorL x y))from by
   have:=xor_any x y q r d e wx h1 h2 (by omega) (by omega);rwa [hx]at this)
 have pl:(pad b 16).length≤1016:=by
   have:=roomN_lt b.length 16
   simp only [pad,List.length_append,List.length_replicate]
   omega
 generalize pad b 16=B at*
 clear hT hl hr hb hv
 go_enter Tryz.func168,Tryz.ntmps168
 go_wp2_with fail
 refine wp_scope_goto 0 (fun a_ w_=>∃(k L gp:Nat)(q:Option Addr)(u2 u3 u4 u5 u6 u7 u8 u9 u10 u11 u12 u13 u14 u15 u16 u17 u18 u19 u20 u21 u22 u23 u24 u25 u26 u27:Value),a_={tmps:= #[(.pointer (some ⟨g,0,none⟩)),(.slice q L L),u2,u3,u4,u5,u6,u7,u8,u9,u10,u11,u12,u13,u14,u15,u16,u17,u18,u19,u20,u21,u22,u23,u24,u25,u26,u27],defers:=[]}∧L=16*(n-k)∧k≤n∧(k<n→q=some ⟨gp,16*k,none⟩)∧Own w0 w_ (⟨g,255,stC gt (wrF l v B k)⟩::⟨gp,5,B.map v8⟩::R)) (fun a_ _=>slnV (a_.tmps.getD 1 undef)) rfl ?_ ?_
 · clear hm
   rintro a' w ⟨k,L,gp,q,u2,u3,u4,u5,u6,u7,u8,u9,u10,u11,u12,u13,u14,u15,u16,u17,u18,u19,u20,u21,u22,u23,u24,u25,u26,u27,rfl,⟨hL,hk,hq,hm⟩⟩
   by_cases hlt:k<n
   · obtain rfl:=hq hlt
     clear hq
     have lV:=HLW.out k
     have EW:=Lib.hid (HW.out k)
     have HLL:=Lib.hid hL
     have e0:((L:Int)==0)=false:=by rw [beq_eq_false_iff_ne];omega
     have e1:¬(L:Int)=0:=by omega
     have e2:(16:Int)≤(L:Int):=by omega
     have LB:Hid ((B.drop (16*k)).length=L):=Lib.hid (by rw [List.length_drop,HB.out];omega)
     have lX:(xorL (wrF l v B k) (B.drop (16*k))).length=16:=by rw [xorL_length,lV,LB.out];omega
     generalize wrF l v B k=V at*
     have RB:=Lib.hid fun wx (hx:Ext w wx)=>(show RdB wx (some ⟨gp,16*k,none⟩) (B.drop (16*k))from by
       have:=((hm.ext hx).rdB (g:=gp) (l:=B) (.tl .hd)).sub (16*k) L (by rw [HB.out];omega) (by omega)
       rw [List.take_of_length_le (by rw [LB.out];exact Nat.le_refl _)]at this
       rwa [show((some (⟨gp,0,none⟩:Addr)).getD default).add (16*k)=⟨gp,16*k,none⟩from by simp [Addr.add];omega]at this)
     have RV:=Lib.hid fun wx (hx:Ext w wx)=>stC_rd ((hm.ext hx).row (g:=g) .hd)
     have RT:=Lib.hid fun wx (hx:Ext w wx)=>(hm.ext hx).row (.tl (.tl HT.out))
     generalize hY:B.drop (16*k)=Y at*
     generalize hX:xorL V Y=X at*
     have c1:=fun wx (hx:Ext w wx)=>(show GivesR Tryz.prog 57 #[.slice (some ⟨g,1,none⟩) 16 16, .slice (some ⟨gp,16*k,none⟩) L L] wx (BytesS X)from by
       have:=XO.out wx V Y lV (by rw [LB.out];have:=HB.out;have:=HLL.out;omega) _ _ 16 L (RV.out wx hx) (RB.out wx hx)
       rwa [LB.out,hX]at this)
     have C2:=Lib.hid fun (wx:World)(p:Option Addr)(c:Nat)(h:RdB wx p X)=>(show Gives Tryz.prog 54 #[.slice p X.length c] wx (A8 (blk X))from oblock_any X p c wx h)
     have c3:=fun wx (hx:Ext w wx)=>DT.out wx (blk X) (blk_length _) (RT.out wx hx)
     have SE:=Lib.hid (stC_set gt V (dotT l (blk X)) lV)
     have lD:=dotT_length l (blk X)
     have KF:=Lib.hid (show L=16*(n-k)from HLL.out)
     clear hX hY hL e1 lX
     have e1:¬(L:Int)=0:=by omega
     go_wp2_with fail
     refine region_at 15 (fun w'=>Ext _ w') 28 (by kernel_rfl) (by kernel_rfl) rfl (fun _ _ h k=>h.trans k) (drew_ext _) ?_
     simp only [tSC,List.take_zero,dSC,List.drop_zero,List.map_cons,List.map_nil]
     repeat (first
         |(apply walk_is rfl rfl rfl;(intro wx hwx;(with_reducible apply gq_ld1 (hm.ext hwx));infer_instance;exact rfl;(focus (repeat first|exact .hd|assumption|apply Has.tl);done);exact rfl);(simp only [Act.put,sIB,sCS,sCZ];rfl))
         | (apply walk_some (BytesS X) 21 (BytesS.stable _) rfl rfl rfl rfl
            · (intro wx hwx;go_simp;with_reducible exact gives_callR (c1 wx hwx)))
         | (apply walk_from (T:=[(21,BytesS X)]) rfl rfl
            · (intro wx hwx;simp only [withS];(rintro x ⟨p,c,rfl,hlc,hb'⟩);refine⟨rfl, ?_⟩;go_simp;with_reducible exact gives_call (C2.out wx p c hb'))
            · (simp only [Act.put,sIB,sCS,sCZ];rfl))
         | (apply walk_is rfl rfl rfl
            · (intro wx hwx;go_simp;(try go_bits);first|exact gives_same|exact gives_skip|with_reducible exact gives_call (c3 wx hwx))
            · (simp only [Act.put,sIB,sCS,sCZ];rfl))
         | (apply walk_not rfl rfl rfl
            · (simp only [Act.put,sIB,sCS,sCZ];rfl)))
     intro wz hwz
     simp only [zCC,zNR]
     repeat (first|rw [fin_is]|(rw [fin_cons];intro _ _))
     rw [fin_nil]
     try (replace hm:=hm.ext hwz)
     simp only [Act.put,sIB,sCS,sCZ]
     clear c1 c3
     obtain⟨D,hD⟩:∃D,D=dotT l (blk X):=⟨_,rfl⟩
     rw [←hD]at SE lD EW⊢
     clear hD
     have dl1:=Nat.le_of_eq lD
     have dl2:=Nat.le_of_eq lD.symm
     by_cases h16:L=16
     · subst h16
       go_wp2_with (first|((with_reducible apply wq_stA hm);exact rfl;infer_instance;exact rfl;exact rfl;(focus (repeat first|exact .hd|assumption|apply Swap.tl);done);(exact SE.out);(exact(by rw [List.length_map];exact lD));(exact(by simp [stC];omega));(exact(one_map _));clear hm;intro w hm))
       go_step3
       exact⟨rfl,⟨_,_,_,_,_,_,_,_,_,_,_,_,_,_,_,_,_,_,_,_,_,_,_,_,_,_,_,_,_,_,rfl,⟨by have:=KF.out;show 0=16*(n-(k+1));omega,by show k+1≤n;omega,fun h=>absurd (show k+1<n from h) (by have:=KF.out;omega),by show Own w0 w (⟨g,255,stC gt (wrF l v B (k+1))⟩::_);rw [EW.out];exact hm⟩⟩,by simp [slnV]⟩
     · have f1:¬L-16=0:=by omega
       have f2:¬(L:Int)-16=0:=by omega
       go_wp2_with (first|((with_reducible apply wq_stA hm);exact rfl;infer_instance;exact rfl;exact rfl;(focus (repeat first|exact .hd|assumption|apply Swap.tl);done);(exact SE.out);(exact(by rw [List.length_map];exact lD));(exact(by simp [stC];omega));(exact(one_map _));clear hm;intro w hm))
       go_step3
       exact⟨rfl,⟨_,_,_,_,_,_,_,_,_,_,_,_,_,_,_,_,_,_,_,_,_,_,_,_,_,_,_,_,_,_,rfl,⟨by have:=KF.out;show L-16=16*(n-(k+1));omega,by show k+1≤n;omega,fun h=>by show some (⟨gp,16*k+16,none⟩:Addr)=some ⟨gp,16*(k+1),none⟩;rw [show 16*(k+1)=16*k+16 from by omega],by show Own w0 w (⟨g,255,stC gt (wrF l v B (k+1))⟩::_);rw [EW.out];exact hm⟩⟩,by simp [slnV];omega⟩
   · obtain rfl:k=n:=by omega
     obtain rfl:L=0:=by omega
     clear hL hq hk hlt
     go_wp2_with fail
     simp only [Exit.jump]
     refine bodyPost_ret (results_none rfl _ _ _) rfl ?_
     exact⟨rfl,_,hm⟩
 · intro hp
   go_wp2_with fail
   refine(P1.out).mono ?_
   rintro e w ⟨gp,rfl,hg,hrp,hx⟩
   have hm2:=(hm.push hx hg hrp).perm (List.Perm.swap _ _ _)
   rw [←H0.out]at hm2
   clear hm hx hg hrp
   have hm:=hm2
   clear hm2
   go_wp2_with fail
   go_step3
   rename_i hK
   exact hK _ _ (hp _ _ ⟨_,_,_,_,_,_,_,_,_,_,_,_,_,_,_,_,_,_,_,_,_,_,_,_,_,_,_,_,_,_,rfl,⟨by show B.length=16*(n-0);rw [HB.out];rfl,by show 0≤n;omega,fun _=>rfl,hm⟩⟩)
def vsmL(h b:List Byte)(n:Nat):List Byte:=wrF (mkT h) (zer 16) (pad b 16) n
theorem vsmL_length(h b:List Byte)(n:Nat):(vsmL h b n).length=16:=wrF_length _ _ _ _ zer_length
theorem vsum_any(h b:List Byte)(hh:h.length=16)(n:Nat)(hb:(pad b 16).length=16*n)(hbl:b.length≤1000)(p:Option Addr)(c:Nat)(w0:World)(hr:RdB w0 p b):Gives Tryz.prog 164 #[A8 h, .slice p b.length c] w0 (A8 (vsmL h b n)):=by
 unfold Gives
 have hm:=Own.start w0
 have N1:=Lib.hid fun w=>vnew_any h hh w
 have HR:=Lib.hid fun w (hx:Ext w0 w)=>hr.ext hx
 have lV:=vsmL_length h b n
 have WR:=Lib.hid fun (g gt:Nat)(w:World)(R:List Blk)(hrw:RdB w p b)(hm:Own w0 w (⟨g,255,stC gt (zer 16)⟩::R))(hT:Has R ⟨gt,258,(mkT h).map v64⟩)=>(show Calls Tryz.prog 168 #[.pointer (some ⟨g,0,none⟩), .slice p b.length c] w fun e w'=>e= .returned (.tuple #[])∧∃gp,Own w0 w' (⟨g,255,stC gt (vsmL h b n)⟩::⟨gp,5,(pad b 16).map v8⟩::R)from vwrite_any g gt (mkT h) (mkT_length h) (zer 16) b zer_length n hb hbl p c w0 w R hrw hm hT)
 generalize vsmL h b n=V at*
 generalize pad b 16=B at*
 have VV:=Lib.hid fun (g gt:Nat)(w:World)(hr:Row w g 255 (stC gt V))=>vvalue_any g gt V lV w hr
 have h1:=Nat.le_of_eq hh
 have h2:=Nat.le_of_eq hh.symm
 have h3:=Nat.le_of_eq lV
 have h4:=Nat.le_of_eq lV.symm
 clear hh hr hb
 go_enter Tryz.func164,Tryz.ntmps164
 go_wp2_with (first|((with_reducible show qLd);first|((with_reducible apply wq_ldW hm);exact rfl;infer_instance;exact rfl;(focus (repeat first|exact .hd|assumption|apply Has.tl);done);(focus (first|rfl|omega|(simp;done)|(simp;omega)))))|((first|((with_reducible show qAl);first|((with_reducible apply wq_new hm);exact rfl;infer_instance))|((with_reducible show qBx);first|((with_reducible apply wq_boxN hm);exact rfl;exact rfl)));clear hm;intro gx_;intro w hm))
 refine(N1.out _).mono ?_
 rintro e w ⟨g,gt,rfl,hg,hgt,hne,hr,hrt,hx⟩
 replace hm:=hm.push2 hx hgt hrt hg hr hne
 clear hx hgt hrt hg hr hne
 go_wp2_with fail
 refine(WR.out g gt _ _ (HR.out _ hm.x) hm .hd).mono ?_
 rintro e w ⟨rfl,gp,hm1⟩
 replace hm:=hm1
 clear hm1
 go_wp2_with (first|(go_at_call 169;(with_reducible refine(VV.out g gt _ (hm.row .hd)).mono ?_);rintro e_ w ⟨rfl,hx_⟩;replace hm:=hm.ext hx_;clear hx_)|((((with_reducible show qSt);first|((with_reducible apply wq_stW hm);exact rfl;infer_instance;exact rfl;exact rfl;(focus (repeat first|exact .hd|assumption|apply Swap.tl);done);(focus (first|rfl|omega|(simp;done)|(simp;omega)));(focus (first|rfl|omega|(simp;done)|(simp;omega)));(focus (first|exact one_map _|(simp [one8,one32,one64];done))))));clear hm;intro w hm))
 refine rtO hm rfl rfl (hR:=⟨rfl,hm.x⟩)
def lnB(n:Nat)(whole:Bool):List Byte:=putL (BitVec.ofNat 64 (n*16+if whole then 2 else 3)) 8++putL (BitVec.ofNat 64 (n/1152921504606846976)) 8
theorem lnB_length(n:Nat)(whole:Bool):(lnB n whole).length=16:=by rw [lnB,List.length_append,putL_length,putL_length]
theorem or_low(n:Nat)(h:n<1000):bits BinOp.or IntKind.u64 ((n:Int)*16) 3=(n:Int)*16+3∧bits BinOp.or IntKind.u64 ((n:Int)*16) 2=(n:Int)*16+2:=by
 have:∀k:Fin 1000,bits BinOp.or IntKind.u64 ((k.val:Int)*16) 3=(k.val:Int)*16+3∧bits BinOp.or IntKind.u64 ((k.val:Int)*16) 2=(k.val:Int)*16+2:=by decide+kernel
 exact this ⟨n,h⟩
theorem vlenG(n:Nat)(whole:Bool)(hn:n<1000)(w0:World):Gives Tryz.prog 170 #[.int .i64 (n:Int), .bool whole] w0 (A8 (lnB n whole)):=by
 unfold Gives
 have hm:=Own.start w0
 obtain⟨o3,o2⟩:=or_low n hn
 have i0:(0:Int)≤(n:Int):=by omega
 have i1:(n:Int)≤1000:=by omega
 have lL:=lnB_length n whole
 have l1:=Nat.le_of_eq lL
 have l2:=Nat.le_of_eq lL.symm
 cases whole with
 | false=>
   have BH:=Lib.hid fun (w:World)=>(show Gives Tryz.prog 32 #[.agg #[.int .u64 ((n:Int)*16+3), .int .u64 ((n:Int)/1152921504606846976)]] w (A8 (lnB n false))from by
     have:=bytes_any (BitVec.ofNat 64 (n*16+3)) (BitVec.ofNat 64 (n/1152921504606846976)) w
     rw [WV,v64_nat _ (by omega),v64_nat _ (by omega),show((n*16+3:Nat):Int)=(n:Int)*16+3 from by omega,show((n/1152921504606846976:Nat):Int)=(n:Int)/1152921504606846976 from by omega]at this
     exact this)
   generalize lnB n false=B at*
   go_enter Tryz.func170,Tryz.ntmps170
   go_wp2_with (first|(go_at_call 32;(with_reducible refine(BH.out _).mono ?_);rintro e_ w ⟨rfl,hx_⟩;replace hm:=hm.ext hx_;clear hx_)|((((with_reducible show qSt);first|((with_reducible apply wq_stW hm);exact rfl;infer_instance;exact rfl;exact rfl;(focus ((repeat (first|exact .hd|assumption|apply Swap.tl|apply Swap.app));done));(focus (first|rfl|omega|(simp;done)|(simp;omega)));(focus (first|rfl|omega|(simp;done)|(simp;omega)));(focus (first|exact one_map _|(simp [one8,one32,one64];done))))));clear hm;intro w hm)|((first|((with_reducible show qAl);first|((with_reducible apply wq_new hm);exact rfl;infer_instance)));clear hm;intro gx_;intro w hm))
   refine rtO hm rfl rfl (hR:=⟨rfl,hm.x⟩)
 | true=>
   have BH:=Lib.hid fun (w:World)=>(show Gives Tryz.prog 32 #[.agg #[.int .u64 ((n:Int)*16+2), .int .u64 ((n:Int)/1152921504606846976)]] w (A8 (lnB n true))from by
     have:=bytes_any (BitVec.ofNat 64 (n*16+2)) (BitVec.ofNat 64 (n/1152921504606846976)) w
     rw [WV,v64_nat _ (by omega),v64_nat _ (by omega),show((n*16+2:Nat):Int)=(n:Int)*16+2 from by omega,show((n/1152921504606846976:Nat):Int)=(n:Int)/1152921504606846976 from by omega]at this
     exact this)
   generalize lnB n true=B at*
   go_enter Tryz.func170,Tryz.ntmps170
   go_wp2_with (first|(go_at_call 32;(with_reducible refine(BH.out _).mono ?_);rintro e_ w ⟨rfl,hx_⟩;replace hm:=hm.ext hx_;clear hx_)|((((with_reducible show qSt);first|((with_reducible apply wq_stW hm);exact rfl;infer_instance;exact rfl;exact rfl;(focus ((repeat (first|exact .hd|assumption|apply Swap.tl|apply Swap.app));done));(focus (first|rfl|omega|(simp;done)|(simp;omega)));(focus (first|rfl|omega|(simp;done)|(simp;omega)));(focus (first|exact one_map _|(simp [one8,one32,one64];done))))));clear hm;intro w hm)|((first|((with_reducible show qAl);first|((with_reducible apply wq_new hm);exact rfl;infer_instance)));clear hm;intro gx_;intro w hm))
   refine rtO hm rfl rfl (hR:=⟨rfl,hm.x⟩)
def vTl(m:List Byte):List Byte:=if m.length%16=0 then m else marked m 1#8 16
def vEnc(t m:List Byte):List Byte:=lnB t.length (decide (m.length%16=0))++(pad t 16++vTl m)
theorem marked_len(m:List Byte)(b:Byte):(marked m b 16).length≤m.length+17:=by
 have:=roomN_lt (m.length+1) 16
 simp only [marked,pad,List.length_append,List.length_replicate,List.length_singleton]
 omega
theorem vTl_length(m:List Byte):(vTl m).length≤m.length+17:=by
 unfold vTl;split
 · omega
 · exact marked_len _ _
theorem pad_len(m:List Byte):(pad m 16).length≤m.length+16:=by
 have:=roomN_lt m.length 16
 simp only [pad,List.length_append,List.length_replicate]
 omega
section
variable {P:Program} {ops:Array Oper} {Q:Exit→Act→World→Prop} {rest:List Oper} {dst:Option Tmp} {ty:TypeId} {pos:String} {aft:Array Edge} {gd:Option (Nat×Bool)} {a:Act} {w0 w:World} {L:List Blk} {T e:TypeId}
theorem wq_bs3x {u0 u1 u2:Value}{x0 x1 x2:Operand}{cs:List Value}(hb:∀w,(Instr.buildSlice T 3 #[(0,u0),(1,u1),(2,u2)]).run P w= .ok (.slice (some ⟨w.heap.size,0,none⟩) 3 3) (w.alloc (.cells cs.toArray e)))(hm:Own w0 w L)(hgd:Region.wanted (Oper.mk dst (.buildSlice T 3 #[(0,x0),(1,x1),(2,x2)]) ty pos aft gd) (yielded ops a.tmps)=true)(hx0:a.eval x0=u0)(hx1:a.eval x1=u1)(hx2:a.eval x2=u2)(hr:∀g w',Own w0 w' (⟨g,e,cs⟩::L)→Ext w w'→wpList P ops Q rest (a.put dst (.slice (some ⟨g,0,none⟩) 3 3)) w'):wpList P ops Q ((Oper.mk dst (.buildSlice T 3 #[(0,x0),(1,x1),(2,x2)]) ty pos aft gd)::rest) a w:=
 wpList_want hgd fun K hK=>by
   unfold Oper.wp execOp
   simp [hx0,hx1,hx2,hb,Sem.run_bind,Result.andThen_ok,Sem.run_pure]
   exact hK _ _ (hr _ _ (hm.alloc e cs) (Ext.alloc (Ext.refl _) _))
end
theorem venc_any(t m:List Byte)(ht:t.length<1000)(hml:m.length≤100000)(p q:Option Addr)(c d:Nat)(hc:t.length≤c)(hd:m.length≤d)(w0:World)(hr:RdB w0 p t)(hq:RdB w0 q m):
   Calls Tryz.prog 165 #[.slice p t.length c, .slice q m.length d] w0 fun e w'=>∃v M R,e= .returned v∧Own w0 w' (M++R)∧SlO M 5 1 v (vEnc t m).length ((vEnc t m).map v8):=by
 have hm:=Own.start w0
 have PD:=Lib.hid fun w (hx:Ext w0 w)=>padded_any t p c 16 w (hr.ext hx) (by omega) (by omega) (by omega)
 have lpt:=pad_len t
 have i0:(m.length:Int).tmod 16=((m.length%16:Nat):Int):=rfl
 by_cases h0:m.length%16=0
 · have lLB:=lnB_length t.length true
   have EV:vEnc t m=[lnB t.length true,pad t 16,m].flatten:=by simp [vEnc,vTl,h0]
   have LN:=Lib.hid fun w=>vlenG t.length true ht w
   have CC:=Lib.hid fun (w:World)(p:Option Addr)(h:RdR w p [lnB t.length true,pad t 16,m])=>(show Calls Tryz.prog 128 #[.slice p 3 3] w fun e w'=>∃v M,e= .returned v∧Own w w' (M++[])∧SlO M 5 1 v (vEnc t m).length ((vEnc t m).map v8)from by
     have:=concat_any [lnB t.length true,pad t 16,m] p 3 w h (by simp) (by simp;omega)
     rwa [←EV]at this)
   generalize lnB t.length true=LB at*
   generalize vEnc t m=EE at*
   rw [h0]at i0
   have b0:(((0:Nat):Int)==0)=true:=rfl
   have HQ:=Lib.hid hq
   clear EV hr h0 hq
   go_enter Tryz.func165,Tryz.ntmps165
   go_wp2_with (first|(go_at_call 170;(with_reducible refine(LN.out _).mono ?_);rintro e_ w ⟨rfl,hx_⟩;replace hm:=hm.ext hx_;clear hx_)|((((with_reducible show qSt);first|((with_reducible apply wq_stW hm);exact rfl;infer_instance;exact rfl;exact rfl;(focus ((repeat (first|exact .hd|assumption|apply Swap.tl|apply Swap.app));done));(focus (first|rfl|omega|(simp;done)|(simp;omega)));(focus (first|rfl|omega|(simp;done)|(simp;omega)));(focus (first|exact one_map _|(simp [one8,one32,one64];done))))));clear hm;intro w hm)|((first|((with_reducible show qAl);first|((with_reducible apply wq_new hm);exact rfl;infer_instance)));clear hm;(first|(have hx_:=g1;clear hx_;(first|(have hx_:=g2;clear hx_;intro gx_)|intro g2))|intro g1);intro w hm))
   have hx0:=hm.x
   have hmA:=hm
   have a1:=fun wx (hwx:Ext w wx)=>PD.out wx (hx0.trans hwx)
   refine region_new 4 (fun w'=>Ext _ w') 25 (by kernel_rfl) (by kernel_rfl) rfl (fun _ _ h k=>h.trans k) (drew_ext _) ?_
   simp only [tSC,List.take_zero,dSC,List.drop_zero,List.map_cons,List.map_nil]
   repeat (first
       | (apply walk_some (BytesS (pad t 16)) 21 (BytesS.stable _) rfl rfl rfl rfl
          · (intro wx hwx;go_simp;with_reducible exact gives_callR (a1 wx hwx)))
       | (apply walk_is rfl rfl rfl
          · (intro wx hwx;go_simp;(try go_bits);first|exact gives_same|exact gives_skip)
          · (simp only [Act.put,sIB,sCS,sCZ];rfl))
       | (apply walk_not rfl rfl rfl
          · (simp only [Act.put,sIB,sCS,sCZ];rfl)))
   intro wz hwz
   simp only [zCC,zNR]
   repeat rw [fin_is]
   rw [fin_cons];intro x21 hx21
   repeat rw [fin_is]
   rw [fin_nil];intro hap
   simp only [Act.put,sIB,sCS,sCZ]at hap⊢
   obtain⟨p21,c21,rfl,hc21,hr21⟩:=hx21
   clear hm a1 hap
   have hm:=hmA.ext hwz
   clear hmA hx0
   have HR21:=Lib.hid hr21
   have HT:=Lib.hid (HQ.out.ext hm.x)
   have BS:=Lib.hid fun g=>bs_s3 (some ⟨g,0,none⟩) p21 q 16 16 (pad t 16).length c21 m.length d
   have RR:=Lib.hid fun (g g2:Nat)(ty:TypeId)(w:World)(hx:Ext wz w)(h:Row w g ty [.slice (some ⟨g2,0,none⟩) 16 16, .slice p21 (pad t 16).length c21, .slice q m.length d])(h2:RdB w (some ⟨g2,0,none⟩) LB)=>(rdR3 (a:=LB) (b:=pad t 16) (x:=m) (by rw [lLB];exact h) h2 (hr21.ext hx) (HT.out.ext hx) (by omega) hc21 hd (by unfold maxLen;omega) (by unfold maxLen;omega) (by unfold maxLen;omega))
   have h5:=Nat.le_of_eq lLB
   have h6:=Nat.le_of_eq lLB.symm
   clear hr21
   go_wp2_with (first|((with_reducible apply wq_bs3x (BS.out _) hm);exact rfl;exact rfl;exact rfl;exact rfl;clear hm;intro gb w hm hxe)|(go_at_call 128;(with_reducible refine(CC.out w _ (RR.out gb g1 _ _ hxe (hm.row .hd) (hm.rdB (g:=g1) (l:=LB) (by repeat (first|exact Has.hd|assumption|apply Has.tl|apply Has.app))))).mono ?_);rintro e_ w ⟨v2,M2,rfl,hm1,hs2⟩;rw [List.append_nil]at hm1;replace hm:=hm.join hm1;clear hm1))
   go_ret
   exact⟨_,M2,_,rfl,hm,hs2⟩
 · have lLB:=lnB_length t.length false
   have lMK:=marked_len m 1#8
   have EV:vEnc t m=[lnB t.length false,pad t 16,marked m 1#8 16].flatten:=by simp [vEnc,vTl,h0]
   have LN:=Lib.hid fun w=>vlenG t.length false ht w
   have MK:=Lib.hid fun w (hx:Ext w0 w)=>(show GivesR Tryz.prog 171 #[.slice q m.length d, .int .u8 1, .int .i64 16] w (BytesS (marked m 1#8 16))from marked_any m q d 1#8 16 w (hq.ext hx) (by omega) (by omega) (by omega))
   have CC:=Lib.hid fun (w:World)(p:Option Addr)(h:RdR w p [lnB t.length false,pad t 16,marked m 1#8 16])=>(show Calls Tryz.prog 128 #[.slice p 3 3] w fun e w'=>∃v M,e= .returned v∧Own w w' (M++[])∧SlO M 5 1 v (vEnc t m).length ((vEnc t m).map v8)from by
     have:=concat_any [lnB t.length false,pad t 16,marked m 1#8 16] p 3 w h (by simp) (by simp;omega)
     rwa [←EV]at this)
   generalize lnB t.length false=LB at*
   generalize vEnc t m=EE at*
   obtain⟨X,hX⟩:∃x,x=marked m 1#8 16:=⟨_,rfl⟩
   rw [←hX]at MK CC lMK
   obtain⟨r,hr16⟩:∃r,r=m.length%16:=⟨_,rfl⟩
   rw [←hr16]at h0 i0
   have b0:((r:Int)==0)=false:=by rw [beq_eq_false_iff_ne];omega
   have b1:¬(r:Int)=0:=by omega
   clear EV hr hq hX hr16
   go_enter Tryz.func165,Tryz.ntmps165
   go_wp2_with (first|(go_at_call 171;(with_reducible refine(MK.out _ hm.x).mono ?_);rintro e_ w ⟨v1,rfl,⟨p1,c1,rfl,hc1,hr1⟩,hx_⟩;replace hm:=hm.ext hx_;have HR1:=Lib.hid hr1;clear hr1 hx_)|(go_at_call 170;(with_reducible refine(LN.out _).mono ?_);rintro e_ w ⟨rfl,hx_⟩;replace hm:=hm.ext hx_;clear hx_)|((((with_reducible show qSt);first|((with_reducible apply wq_stW hm);exact rfl;infer_instance;exact rfl;exact rfl;(focus ((repeat (first|exact .hd|assumption|apply Swap.tl|apply Swap.app));done));(focus (first|rfl|omega|(simp;done)|(simp;omega)));(focus (first|rfl|omega|(simp;done)|(simp;omega)));(focus (first|exact one_map _|(simp [one8,one32,one64];done))))));clear hm;intro w hm)|((first|((with_reducible show qAl);first|((with_reducible apply wq_new hm);exact rfl;infer_instance)));clear hm;(first|(have hx_:=g1;clear hx_;(first|(have hx_:=g2;clear hx_;intro gx_)|intro g2))|intro g1);intro w hm))
   have hx0:=hm.x
   have hmA:=hm
   have a1:=fun wx (hwx:Ext w wx)=>PD.out wx (hx0.trans hwx)
   refine region_new 4 (fun w'=>Ext _ w') 25 (by kernel_rfl) (by kernel_rfl) rfl (fun _ _ h k=>h.trans k) (drew_ext _) ?_
   simp only [tSC,List.take_zero,dSC,List.drop_zero,List.map_cons,List.map_nil]
   repeat (first
       | (apply walk_some (BytesS (pad t 16)) 21 (BytesS.stable _) rfl rfl rfl rfl
          · (intro wx hwx;go_simp;with_reducible exact gives_callR (a1 wx hwx)))
       | (apply walk_is rfl rfl rfl
          · (intro wx hwx;go_simp;(try go_bits);first|exact gives_same|exact gives_skip)
          · (simp only [Act.put,sIB,sCS,sCZ];rfl))
       | (apply walk_not rfl rfl rfl
          · (simp only [Act.put,sIB,sCS,sCZ];rfl)))
   intro wz hwz
   simp only [zCC,zNR]
   repeat rw [fin_is]
   rw [fin_cons];intro x21 hx21
   repeat rw [fin_is]
   rw [fin_nil];intro hap
   simp only [Act.put,sIB,sCS,sCZ]at hap⊢
   obtain⟨p21,c21,rfl,hc21,hr21⟩:=hx21
   clear hm a1 hap
   have hm:=hmA.ext hwz
   clear hmA hx0
   have HR21:=Lib.hid hr21
   have HT:=Lib.hid (HR1.out.ext hwz)
   have BS:=Lib.hid fun g=>bs_s3 (some ⟨g,0,none⟩) p21 p1 16 16 (pad t 16).length c21 X.length c1
   have RR:=Lib.hid fun (g g2:Nat)(ty:TypeId)(w:World)(hx:Ext wz w)(h:Row w g ty [.slice (some ⟨g2,0,none⟩) 16 16, .slice p21 (pad t 16).length c21, .slice p1 X.length c1])(h2:RdB w (some ⟨g2,0,none⟩) LB)=>(rdR3 (a:=LB) (b:=pad t 16) (x:=X) (by rw [lLB];exact h) h2 (hr21.ext hx) (HT.out.ext hx) (by omega) hc21 hc1 (by unfold maxLen;omega) (by unfold maxLen;omega) (by unfold maxLen;omega))
   have h5:=Nat.le_of_eq lLB
   have h6:=Nat.le_of_eq lLB.symm
   clear hr21
   go_wp2_with (first|((with_reducible apply wq_bs3x (BS.out _) hm);exact rfl;exact rfl;exact rfl;exact rfl;clear hm;intro gb w hm hxe)|(go_at_call 128;(with_reducible refine(CC.out w _ (RR.out gb g1 _ _ hxe (hm.row .hd) (hm.rdB (g:=g1) (l:=LB) (by repeat (first|exact Has.hd|assumption|apply Has.tl|apply Has.app))))).mono ?_);rintro e_ w ⟨v2,M2,rfl,hm1,hs2⟩;rw [List.append_nil]at hm1;replace hm:=hm.join hm1;clear hm1))
   go_ret
   exact⟨_,M2,_,rfl,hm,hs2⟩
def vhL(h t m:List Byte):List Byte:=vsmL h (vEnc t m) ((pad (vEnc t m) 16).length/16)
theorem vhL_length(h t m:List Byte):(vhL h t m).length=16:=vsmL_length _ _ _
theorem pad_whole(m:List Byte):(pad m 16).length=16*((pad m 16).length/16):=by
 have:=room_is m.length 16 (by omega)
 rw [show(pad m 16).length=m.length+roomN m.length 16 from by simp [pad]]
 omega
theorem vhash_any(h t m:List Byte)(hh:h.length=16)(ht:t.length≤500)(hml:m.length≤420)(p q:Option Addr)(c d:Nat)(hc:t.length≤c)(hd:m.length≤d)(w0:World)(hr:RdB w0 p t)(hq:RdB w0 q m):
   Gives Tryz.prog 162 #[A8 h, .slice p t.length c, .slice q m.length d] w0 (A8 (vhL h t m)):=by
 unfold Gives
 have hm:=Own.start w0
 have lE:(vEnc t m).length≤1000:=by
   have:=pad_len t
   have:=vTl_length m
   rw [vEnc,List.length_append,List.length_append,lnB_length]
   omega
 have EN:=Lib.hid fun w (hx:Ext w0 w)=>(show GivesR Tryz.prog 165 #[.slice p t.length c, .slice q m.length d] w (BytesS (vEnc t m))from by
   refine Calls.mono (venc_any t m (by omega) (by omega) p q c d hc hd w (hr.ext hx) (hq.ext hx)) ?_
   rintro e w' ⟨v,M,R,rfl,hm1,hs⟩
   obtain⟨q,d,hv,hnd,_⟩:=hs.cells hm1
   subst hv
   exact⟨_,rfl,⟨q,d,rfl,hnd,slo_rdZ hs hm1⟩,hm1.x⟩)
 have SU:=Lib.hid fun w p c (hr:RdB w p (vEnc t m))=>(show Gives Tryz.prog 164 #[A8 h, .slice p (vEnc t m).length c] w (A8 (vhL h t m))from vsum_any h (vEnc t m) hh _ (pad_whole _) lE p c w hr)
 have lH:=vhL_length h t m
 generalize vhL h t m=H at*
 generalize vEnc t m=E at*
 have h1:=Nat.le_of_eq hh
 have h2:=Nat.le_of_eq hh.symm
 have h3:=Nat.le_of_eq lH
 have h4:=Nat.le_of_eq lH.symm
 obtain⟨EL,hEL⟩:∃x,x=E.length:=⟨_,rfl⟩
 clear hr hq hh lH lE
 go_enter Tryz.func162,Tryz.ntmps162
 go_wp2_with (first|((first|((with_reducible show qAl);first|((with_reducible apply wq_new hm);exact rfl;infer_instance))|((with_reducible show qBx);first|((with_reducible apply wq_boxN hm);exact rfl;exact rfl)));clear hm;intro gx_;intro w hm))
 have hx0:=hm.x
 have c1:=fun wx (hwx:Ext w wx)=>EN.out wx (hx0.trans hwx)
 refine region_at 5 (fun w'=>Ext _ w') 12 (by kernel_rfl) (by kernel_rfl) rfl (fun _ _ h k=>h.trans k) (drew_ext _) ?_
 simp only [tSC,List.take_zero,dSC,List.drop_zero,List.map_cons,List.map_nil]
 repeat (first
     | (apply walk_some (BytesS E) 10 (BytesS.stable _) rfl rfl rfl rfl
        · (intro wx hwx;go_simp;with_reducible exact gives_callR (c1 wx hwx)))
     | (apply walk_from (T:=[(10,BytesS E)]) rfl rfl
        · (intro wx hwx;simp only [withS];(rintro x ⟨p,c,rfl,hlc,hb'⟩);refine⟨rfl, ?_⟩;go_simp;with_reducible exact gives_call (SU.out wx p c hb'))
        · (simp only [Act.put,sIB,sCS,sCZ];rfl))
     | (apply walk_is rfl rfl rfl
        · (intro wx hwx;first|((with_reducible show gives _ _ _ (Sem.run _ (execOp _ (Oper.mk _ (Op.load _ _) _ _ _ _)) _));first|((with_reducible apply gq_ldW (hm.ext hwx));infer_instance;exact rfl;(focus (repeat first|exact .hd|assumption|apply Has.tl);done);(focus (first|rfl|omega|(simp;done)|(simp;omega)))))|(go_simp;(try go_bits);first|exact gives_same|exact gives_skip))
        · (simp only [Act.put,sIB,sCS,sCZ];rfl))
     | (apply walk_not rfl rfl rfl
        · (simp only [Act.put,sIB,sCS,sCZ];rfl)))
 intro wz hwz
 simp only [zCC,zNR]
 repeat (first|rw [fin_is]|(rw [fin_cons];intro _ _))
 rw [fin_nil]
 try (replace hm:=hm.ext hwz)
 simp only [Act.put,sIB,sCS,sCZ]
 clear c1 hx0
 go_wp2_with (first|((((with_reducible show qSt);first|((with_reducible apply wq_stW hm);exact rfl;infer_instance;exact rfl;exact rfl;(focus (repeat first|exact .hd|assumption|apply Swap.tl);done);(focus (first|rfl|omega|(simp;done)|(simp;omega)));(focus (first|rfl|omega|(simp;done)|(simp;omega)));(focus (first|exact one_map _|(simp [one8,one32,one64];done))))));clear hm;intro w hm))
 refine rtO hm rfl rfl (hR:=⟨rfl,hm.x⟩)
end Go.Proofs.YtllnjbiebdkmbaaGreatDoor
