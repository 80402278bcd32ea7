/-
  Texts of the program, walked, and plain ones. Conditions: those written in each theorem.
-/
import Derived.Test.YtneacgpmjlocjaaGreatDoorZTopWrapped0
import Derived.Test.YtneacgpmjlocjaaGreatDoorZTopWrapped13
import Derived.Test.YtneacgpmjlocjaaGreatDoorZTopWrapped8
import Derived.Lib.SlBytesConst
import Derived.Test.YtneacgpmjlocjaaGreatDoorZTopWrapped3
import Derived.Test.YtneacgpmjlocjaaGreatDoorZTopWrapped12
import Derived.Laws.ResultCell
import Derived.Test.YtneacgpmjlocjaaGreatDoorZTopWrapped9
import Derived.Test.YtneacgpmjlocjaaGreatDoorZTopWrapped11
import Derived.Laws.MakeOwn
import Derived.Test.YtneacgpmjlocjaaGreatDoorZTopWrapped5
set_option linter.unusedSimpArgs false
set_option linter.unusedVariables false
set_option maxHeartbeats 16000000
open Go.Lib (hid)
namespace Go.Proofs.YtneacgpmjlocjaaGreatDoor
open Go Go.RowKit
set_option maxRecDepth 100000
abbrev bsW:Array (Nat×Operand):= #[(0, .const (.int .u8 101)),(1, .const (.int .u8 120)),(2, .const (.int .u8 112)),(3, .const (.int .u8 97)),(4, .const (.int .u8 110)),(5, .const (.int .u8 100)),(6, .const (.int .u8 32)),(7, .const (.int .u8 51)),(8, .const (.int .u8 50)),(9, .const (.int .u8 45)),(10, .const (.int .u8 98)),(11, .const (.int .u8 121)),(12, .const (.int .u8 116)),(13, .const (.int .u8 101)),(14, .const (.int .u8 32)),(15, .const (.int .u8 107))]
theorem wq_words2 {ops:Array Oper}{Q:Exit→Act→World→Prop}{rest:List Oper}{a:Act}{w0 w:World}{L:List Blk}{dst dst2:Option Tmp}{ty ty2:TypeId}{pos pos2:String}{aft aft2:Array Edge}{gd gd2:Option (Nat×Bool)}{x:Operand}(hm:Own w0 w L)(hgd:Region.wanted (Oper.mk dst (.buildSlice 22 16 bsW) ty pos aft gd) (yielded ops a.tmps)=true)
   (hgd2:∀g,Region.wanted (Oper.mk dst2 (.convert 22 22 x) ty2 pos2 aft2 gd2) (yielded ops (a.put dst (.slice (some ⟨g,0,none⟩) 16 16)).tmps)=true) (hx:∀g,(a.put dst (.slice (some ⟨g,0,none⟩) 16 16)).eval x= .slice (some ⟨g,0,none⟩) 16 16)
   (hr:∀g w',Own w0 w' L→RdB w' (some ⟨g,0,none⟩) wordsC→wpList Tryz.prog ops Q rest ((a.put dst (.slice (some ⟨g,0,none⟩) 16 16)).put dst2 (.slice (some ⟨g,0,none⟩) 16 16)) w'):wpList Tryz.prog ops Q ((Oper.mk dst (.buildSlice 22 16 bsW) ty pos aft gd)::(Oper.mk dst2 (.convert 22 22 x) ty2 pos2 aft2 gd2)::rest) a w:=
 wpList_want hgd fun K hK=>by
   have hb:(execOp a.eval (Oper.mk dst (.buildSlice 22 16 bsW) ty pos aft gd)).run Tryz.prog w= .ok (.value (.slice (some ⟨w.heap.size,0,none⟩) 16 16)) (w.alloc (.cells (wordsC.map v8).toArray 5)):=by kernel_rfl
   unfold Oper.wp
   rw [hb]
   refine hK _ _ (wpList_want (hgd2 _) fun K2 hK2=> ?_)
   have hc:=Lib.run_convert_bytes_const (P:=Tryz.prog) w 22 5 (wordsC.map v8).toArray 16 16 (by kernel_rfl) (by kernel_rfl)
   unfold Oper.wp execOp
   simp only [hx,Sem.run_bind,hc,Result.andThen_ok,Sem.run_pure]
   refine hK2 _ _ (hr _ _ (hm.ext (Ext.alloc (Ext.refl w) _)) ⟨fun _=>rfl,fun i hi=> ?_⟩)
   have hi16:i<16:=hi
   rw [show((some (⟨w.heap.size,0,none⟩:Addr)).getD default).add i=⟨w.heap.size,i,none⟩from by simp [Addr.add];omega]
   simp only [World.cell?,World.alloc,Array.getElem?_push,if_true]
   have:=map8_at wordsC (k:=i) hi
   simpa [nth,List.getD_eq_getElem?_getD]using this
abbrev S32(l:List (BitVec 32)):Value:= .agg (l.map v32).toArray
theorem word_at(l:List Byte)(n:Nat)(hl:l.length=n)(hn:n≤1000)(p:Option Addr)(c k:Nat)(e:Int)(hk:k≤1000)(he:e=(k:Int))(w:World)(h:RdB w p l):Gives Tryz.prog 84 #[.slice p n c, .int .i64 e] w (v32 (wrd l k)):=by
 subst hl he
 exact word_any l p c (k:Int) w h (by omega) (by omega) (by omega)
theorem start_any(key inp:List Byte)(hk:key.length=32)(hi:inp.length=16)(w0:World):Gives Tryz.prog 101 #[A8 key,A8 inp] w0 (S32 (staF key inp 4)):=by
 unfold Gives
 have hm:=Own.start w0
 have W1:=hid fun (w:World)(k:Nat)(hk:k<4)(g:Nat)(h:RdB w (some ⟨g,0,none⟩) wordsC)=>word_at wordsC 16 rfl (by omega) (some ⟨g,0,none⟩) 16 (4*k) (4*(k:Int)) (by omega) (by omega) w h
 have W2:=hid fun (w:World)(k:Nat)(hk4:k<4)(g:Nat)(h:RdB w (some ⟨g,0,none⟩) key)=>word_at key 32 hk (by omega) (some ⟨g,0,none⟩) 32 (4*k) (4*(k:Int)) (by omega) (by omega) w h
 have W3:=hid fun (w:World)(k:Nat)(hk4:k<4)(g:Nat)(h:RdB w (some ⟨g,0,none⟩) key)=>word_at key 32 hk (by omega) (some ⟨g,0,none⟩) 32 (4*k+16) (4*(k:Int)+16) (by omega) (by omega) w h
 have W4:=hid fun (w:World)(k:Nat)(hk4:k<4)(g:Nat)(h:RdB w (some ⟨g,0,none⟩) inp)=>word_at inp 16 hi (by omega) (some ⟨g,0,none⟩) 16 (4*k) (4*(k:Int)) (by omega) (by omega) w h
 have LS:=hid (staF_length key inp)
 have S0:Hid (staF key inp 0=zer 16):=hid rfl
 have h1:=Nat.le_of_eq hk
 have h2:=Nat.le_of_eq hk.symm
 have h3:=Nat.le_of_eq hi
 have h4:=Nat.le_of_eq hi.symm
 clear hk hi
 go_enter Tryz.func101,Tryz.ntmps101
 go_wp2_with (first|((first|((with_reducible show qAl);refine zG hm ?_)|((with_reducible show qBx);refine zH hm ?_));clear hm;(first|(have hx_:=g1;clear hx_;(first|(have hx_:=g2;clear hx_;(first|(have hx_:=g3;clear hx_;(first|(have hx_:=g4;clear hx_;(first|(have hx_:=g5;clear hx_;intro gx_)|intro g5))|intro g4))|intro g3))|intro g2))|intro g1);intro w hm))
 go_loopw [7] (fun i wr=>∃k:Nat,k≤4∧i= .int .i64 k∧Own w0 wr [⟨g4,182,(staF key inp k).map v32⟩,⟨g3,182,(zer (n:=32) 16).map v32⟩,⟨g2,132,inp.map v8⟩,⟨g1,121,key.map v8⟩]) (fun i _=>4-(intOf i).toNat)
 case atStart=>exact⟨0,by omega,rfl,by rw [S0.out];exact hm⟩
 case round=>
   obtain⟨k,hk,rfl,hm⟩:=hrel
   have lV:=LS.out k
   by_cases hlt:k<4
   · have hd:decide ((k:Int)<4)=true:=decide_eq_true (by omega)
     have hd2:(k:Int)<4:=by omega
     have EK:=hid (show staF key inp (k+1)=setN (setN (setN (setN (staF key inp k) k (wrd wordsC (4*k))) (4+k) (wrd key (4*k))) (8+k) (wrd key (4*k+16))) (12+k) (wrd inp (4*k))from rfl)
     generalize staF key inp k=V at*
     have t1:(4+(k:Int)).toNat=4+k:=by omega
     have t2:(8+(k:Int)).toNat=8+k:=by omega
     have t3:(12+(k:Int)).toNat=12+k:=by omega
     have x2:4+(k:Int)<16:=by omega
     have x3:8+(k:Int)<16:=by omega
     have x4:12+(k:Int)<16:=by omega
     have C1:=hid fun w g h=>W1.out w k hlt g h
     have C2:=hid fun w g h=>W2.out w k hlt g h
     have C3:=hid fun w g h=>W3.out w k hlt g h
     have C4:=hid fun w g h=>W4.out w k hlt g h
     generalize wrd wordsC (4*k)=X1 at*
     generalize wrd key (4*k)=X2 at*
     generalize wrd key (4*k+16)=X3 at*
     generalize wrd inp (4*k)=X4 at*
     go_wp2_with (first|((with_reducible apply wq_words2 hm);exact rfl;exact(fun _=>rfl);exact(fun _=>rfl);clear hm;intro g5 w hm hw5)|(go_at_call 84;(with_reducible refine(C1.out _ g5 hw5).mono ?_);rintro e_ w ⟨rfl,hx_⟩;replace hm:=hm.ext hx_;clear hx_)|(go_at_call 84;(with_reducible refine(C3.out _ g1 (hm.rdB (g:=g1) (l:=key) (by repeat (first|exact Has.hd|assumption|apply Has.tl)))).mono ?_);rintro e_ w ⟨rfl,hx_⟩;replace hm:=hm.ext hx_;clear hx_)|(go_at_call 84;(with_reducible refine(C2.out _ g1 (hm.rdB (g:=g1) (l:=key) (by repeat (first|exact Has.hd|assumption|apply Has.tl)))).mono ?_);rintro e_ w ⟨rfl,hx_⟩;replace hm:=hm.ext hx_;clear hx_)|(go_at_call 84;(with_reducible refine(C4.out _ g2 (hm.rdB (g:=g2) (l:=inp) (by repeat (first|exact Has.hd|assumption|apply Has.tl)))).mono ?_);rintro e_ w ⟨rfl,hx_⟩;replace hm:=hm.ext hx_;clear hx_)|((with_reducible show qSt);refine zD hm ?_;clear hm;intro w hm))
     go_roundw
     case rel=>exact⟨k+1,by omega,by go_num,by rw [EK.out];exact hm⟩
     case measure=>simp [intOf]<;>omega
   · obtain rfl:k=4:=by omega
     have hd:decide (((4:Nat):Int)<4)=false:=decide_eq_false (by omega)
     have l1:=Nat.le_of_eq lV
     have l2:=Nat.le_of_eq lV.symm
     go_wp2_with (first|((with_reducible show qLd);refine zB hm ?_)|((with_reducible show qSt);refine zE hm ?_;clear hm;intro w hm))
     refine ret_own hm rfl rfl (by infer_instance) (by repeat (first|exact Has.hd|assumption|apply Has.tl)) (by first|rfl|omega|(simp only [zeros_length,zer_length,tab_length,part_length,setN_length,List.length_map,List.length_cons,List.length_nil,List.length_append,List.length_take,List.length_drop,List.length_replicate,blk_length,putL_length]<;>omega)) rfl ⟨rfl,hm.x⟩
def ptF(cur:List Byte)(o:Nat)(t:List (BitVec 32))(q:Nat):Nat→List Byte
 |0=>cur
 |k+1=>over (ptF cur o t q k) (o+4*k) (putL ((nth t (q+k)).setWidth 64) 4)
theorem ptF_length(cur:List Byte)(o:Nat)(t:List (BitVec 32))(q k:Nat)(h:o+4*k≤cur.length):(ptF cur o t q k).length=cur.length:=by
 induction k with
 |zero=>rfl
 | succ k ih=>
   have:=ih (by omega)
   rw [ptF,over,List.length_append,List.length_append,List.length_take,List.length_drop,putL_length];omega
theorem cput_any(g gt:Nat)(tb:TypeId)(cur:List Byte)(t:List (BitVec 32))(o n c q m d:Nat)(hn:o+n=cur.length)(hm4:4*m≤n)(hnc:n≤c)(hq:q+m≤t.length)(hmd:m≤d)(hN:n≤1000)(w0 w:World)(R:List Blk)(hm:Own w0 w (⟨g,tb,cur.map v8⟩::R))(hT:Has R ⟨gt,182,t.map v32⟩):
   Calls Tryz.prog 103 #[.slice (some ⟨g,o,none⟩) n c, .slice (some ⟨gt,q,none⟩) m d] w fun e w'=>e= .returned (.tuple #[])∧Own w0 w' (⟨g,tb,(ptF cur o t q m).map v8⟩::R):=by
 have HT:=hid hT
 have LP:=hid fun k (h:k≤m)=>ptF_length cur o t q k (by omega)
 have P0:Hid (ptF cur o t q 0=cur):=hid rfl
 have HN1:=hid hn
 have HQ:=hid hq
 have HM4:=hid hm4
 clear hT hn hq
 have c1:(m:Int)≤1000:=by omega
 go_enter Tryz.func103,Tryz.ntmps103
 go_wp2_with fail
 go_loopw [9] (fun i wr=>∃k:Nat,k≤m∧i= .int .i64 k∧Own w0 wr (⟨g,tb,(ptF cur o t q k).map v8⟩::R)) (fun i _=>m-(intOf i).toNat)
 case atStart=>exact⟨0,by omega,rfl,by rw [P0.out];exact hm⟩
 case round =>
   obtain⟨k,hk,rfl,hm⟩:=hrel
   by_cases hlt:k<m
   · have hd:decide ((k:Int)<(m:Int))=true:=decide_eq_true (by omega)
     have hd2:(k:Int)<(m:Int):=by omega
     have EK:Hid (∀z,4≤z→over (ptF cur o t q k) (o+4*k) ((putL ((nth t (q+k)).setWidth 64) 4).take z)=ptF cur o t q (k+1)):=hid fun z hz=>by rw [List.take_of_length_le (by rw [putL_length];exact hz)];rfl
     have lV:=LP.out k hk
     obtain⟨V2,hV2⟩:∃V2,V2=ptF cur o t q (k+1):=⟨_,rfl⟩
     rw [←hV2]at EK
     have HV2:=hid hV2
     clear hV2
     generalize ptF cur o t q k=V at*
     have tc:(t.map v32)[q+k]? =some (v32 (nth t (q+k))):=map32_at _ (by have:=HQ.out;omega)
     have TC:=hid tc
     clear tc
     have hl0:(0:Int)≤4*(k:Int):=by omega
     have hl1:4*(k:Int)≤(n:Int):=by omega
     have hl2:(4*(k:Int)).toNat=4*k:=by omega
     have hl3:¬c=4*k:=by omega
     have hl5:¬c-4*k=0:=by omega
     go_wp2_with (first|((with_reducible apply wq_ld1 hm);exact rfl;infer_instance;exact rfl;exact(.tl HT.out);exact TC.out)|(go_at_call 83;(with_reducible refine(putword_any _ _).mono ?_);rintro e_ w ⟨rfl,hx_⟩;replace hm:=hm.ext hx_;clear hx_)|((with_reducible show qSt);refine zE hm ?_;clear hm;intro w hm)|(((with_reducible show qAl);refine zG hm ?_);clear hm;intro gx_;intro w hm))
     refine rgE 5 23 ?_
     simp only [zTa]
     repeat (first
         | (apply walk_is rfl rfl rfl
            · (intro wx hwx;go_simp;(try go_bits);first|exact gives_same|exact gives_skip)
            · (simp only [zPu];rfl))
         | (apply walk_not rfl rfl rfl
            · (simp only [zPu];rfl)))
     intro wz hwz
     simp only [zZi]
     repeat (first|rw [fin_is]|(rw [fin_cons];intro _ _))
     rw [fin_nil]
     try (replace hm:=hm.ext hwz)
     simp only [zPu]
     refine wpl_cp8 hm rfl rfl rfl rfl rfl (by kernel_rfl) (.tl .hd) (hm.rdB (l:=putL ((nth t (q+k)).setWidth 64) 4) .hd) (putL_length _ _).symm (EK.out _ (by have:=HM4.out;omega)) (by have:=HN1.out;omega) ?_
     clear hm
     intro w hm
     go_wp2_with fail
     go_roundw
     case rel=>exact⟨k+1,by omega,by go_num,by rw [←HV2.out];exact hm.drop⟩
     case measure=>simp [intOf]<;>omega
   · obtain rfl:k=m:=by omega
     have hd:decide ((k:Int)<(k:Int))=false:=decide_eq_false (by omega)
     go_wp2_with fail
     go_end0
     exact⟨rfl,hm⟩
theorem ret_own2 {P:Program}{w0 w:World}{L:List Blk}{T t:TypeId}{g:Nat}{cs:List Value}{a:Act}{fn:Func}{R:Ending→World→Prop}{p u:Tmp}{n:Nat}{v:Value}(hm:Own w0 w L)(h:fn.results= #[.cell p T, .tmp u])(hp:a.tmps.getD p undef= .pointer (some ⟨g,0,none⟩))(hu:a.tmps.getD u undef=v)(hT:Many P T n)(hh:Has L ⟨g,t,cs⟩)(hn:cs.length=n)
   (hf:a.defers=[]) (hR:R (.returned (.tuple #[.agg cs.toArray,v])) w):bodyPost P fn R .ret a w:=by
 obtain⟨d,hd1,hd2⟩:=Option.map_eq_some_iff.1 hT.row
 subst hu
 refine bodyPost_ret (v:= .tuple #[.agg cs.toArray,a.tmps.getD u undef]) ?_ hf hR
 rw [results_cell_tmp h,hp]
 have hl:=run_loadVar_row w g t T cs.toArray (0,0) d (hm.row hh) hd1 (by cases d<;>simp_all) (by rw [List.size_toArray,hn];exact hT.size)
 simp [asAddr,Sem.run_pure,Result.andThen_ok,hl]
theorem Own.pull2 {w0 w:World}{L:List Blk}{a b c:Blk}(h:Own w0 w (a::b::c::L)):Own w0 w (c::a::b::L):=h.perm (List.perm_middle (l₁ :=[a,b]))
theorem Own.pull1 {w0 w:World}{L:List Blk}{a c:Blk}(h:Own w0 w (a::c::L)):Own w0 w (c::a::L):=h.perm (List.perm_middle (l₁ :=[a]))
theorem mixed_any(l:List (BitVec 32))(hl:l.length=16)(w0:World):Gives Tryz.prog 102 #[S32 l, .int .i64 12] w0 (S32 (mixC l 6)):=by
 unfold Gives
 have hm:=Own.start w0
 have HL:=hid hl
 have h1:=Nat.le_of_eq hl
 have h2:=Nat.le_of_eq hl.symm
 have S0:=hid fun (g:Nat)(v:List (BitVec 32))(hv:v.length=16)(w:World)(L L':List Blk)(hm:Own w0 w L)(hs:Swap L ⟨g,182,v.map v32⟩ ⟨g,182,(slaF v 0 4).map v32⟩ L')=>show Calls Tryz.prog 129 #[.pointer (some ⟨g,0,none⟩), .int .i64 0] w fun e w'=>e= .returned (.tuple #[])∧Own w0 w' L' from slanted_any g v 0 (by omega) hv w0 w L L' hm hs
 have S1:=hid fun (g:Nat)(v:List (BitVec 32))(hv:v.length=16)(w:World)(L L':List Blk)(hm:Own w0 w L)(hs:Swap L ⟨g,182,v.map v32⟩ ⟨g,182,(slaF v 1 4).map v32⟩ L')=>show Calls Tryz.prog 129 #[.pointer (some ⟨g,0,none⟩), .int .i64 1] w fun e w'=>e= .returned (.tuple #[])∧Own w0 w' L' from slanted_any g v 1 (by omega) hv w0 w L L' hm hs
 have E0:Hid (mixC l 0=l):=hid rfl
 have EF:=hid fun k=>(show mixC l (k+1)=slaF (slaF (mixC l k) 0 4) 1 4 from rfl)
 have LF:=hid fun k=>(show(mixC l k).length=16 by rw [mixC_length];exact hl)
 generalize mixC l=F at*
 clear hl
 go_enter Tryz.func102,Tryz.ntmps102
 go_wp2_with (first|((first|((with_reducible show qAl);refine zG hm ?_)|((with_reducible show qBx);refine zH hm ?_));clear hm;(first|(have hx_:=g1;clear hx_;(first|(have hx_:=g2;clear hx_;intro gx_)|intro g2))|intro g1);intro w hm))
 go_loopw [7] (fun i wr=>∃k:Nat,k≤6∧i= .int .i64 k∧Own w0 wr [⟨g2,182,(zer (n:=32) 16).map v32⟩,⟨g1,182,(F k).map v32⟩]) (fun i _=>6-(intOf i).toNat)
 case atStart=>exact⟨0,by omega,rfl,by rw [E0.out];exact hm⟩
 case round=>
   obtain⟨k,hk,rfl,hm⟩:=hrel
   have lV:=LF.out k
   by_cases hlt:k<6
   · have hd:decide ((k:Int)<6)=true:=decide_eq_true (by omega)
     have hd2:(k:Int)<6:=by omega
     have EK:=hid (EF.out k)
     generalize F k=V at*
     go_wp2_with fail
     refine(S0.out g1 V lV _ _ _ hm (.tl .hd)).mono ?_
     rintro e_ w ⟨rfl,hm1⟩
     replace hm:=hm1
     clear hm1
     have lW:(slaF V 0 4).length=16:=by rw [slaF_length];exact lV
     generalize slaF V 0 4=W at*
     go_wp2_with fail
     refine(S1.out g1 W lW _ _ _ hm (.tl .hd)).mono ?_
     rintro e_ w ⟨rfl,hm1⟩
     replace hm:=hm1
     clear hm1
     go_wp2_with fail
     go_roundw
     case rel=>exact⟨k+1,by omega,by go_num,by rw [EK.out];exact hm⟩
     case measure=>simp [intOf]<;>omega
   · obtain rfl:k=6:=by omega
     have h3:=Nat.le_of_eq lV
     have h4:=Nat.le_of_eq lV.symm
     go_wp2_with (first|((with_reducible show qLd);refine zB hm ?_)|((with_reducible show qSt);refine zE hm ?_;clear hm;intro w hm))
     refine rtO hm rfl rfl ⟨rfl,hm.x⟩
def sumC(s:List (BitVec 32))(k:Nat):List (BitVec 32):=part 16 k (fun i=>nth (mixC s 6) i+nth s i) (nth (mixC s 6))
theorem sumC_length(s:List (BitVec 32))(k:Nat):(sumC s k).length=16:=part_length
def blkB(key inp:List Byte):List Byte:=ptF (zer 64) 0 (sumC (staF key inp 4) 16) 0 16
theorem blkB_length(key inp:List Byte):(blkB key inp).length=64:=by rw [blkB,ptF_length _ _ _ _ _ (by rw [zer_length];omega),zer_length]
def shoB(key inp:List Byte):List Byte:=ptF (ptF (zer 32) 0 (mixC (staF key inp 4) 6) 0 4) 16 (mixC (staF key inp 4) 6) 12 4
theorem shoB_length(key inp:List Byte):(shoB key inp).length=32:=by
 rw [shoB,ptF_length _ _ _ _ _ (by rw [ptF_length _ _ _ _ _ (by rw [zer_length];omega),zer_length];omega),ptF_length _ _ _ _ _ (by rw [zer_length];omega),zer_length]
theorem block12(key inp:List Byte)(hk:key.length=32)(hi:inp.length=16)(w0:World):Gives Tryz.prog 80 #[A8 key,A8 inp, .int .i64 12] w0 (.tuple #[A8 (blkB key inp), .int .i64 0]):=by
 unfold Gives
 have hm:=Own.start w0
 have ST:=hid fun w=>start_any key inp hk hi w
 have EB:Hid (blkB key inp=ptF (zer 64) 0 (sumC (staF key inp 4) 16) 0 16):=hid rfl
 have lB:=blkB_length key inp
 have lS:=staF_length key inp 4
 generalize blkB key inp=B at*
 generalize staF key inp 4=S at*
 have MX:=hid fun w=>mixed_any S lS w
 have lT:(mixC S 6).length=16:=by rw [mixC_length];exact lS
 have LU:=hid (sumC_length S)
 have E0:Hid (mixC S 6=sumC S 0):=hid (part_start lT)
 have EK:=hid fun k (h:k<16)=>(show setN (sumC S k) k (nth (sumC S k) k+nth S k)=sumC S (k+1)from part_set' h (by rw [sumC,nth_part_ge h (Nat.le_refl _)]))
 generalize mixC S 6=T at*
 have h1:=Nat.le_of_eq hk
 have h2:=Nat.le_of_eq hk.symm
 have h3:=Nat.le_of_eq hi
 have h4:=Nat.le_of_eq hi.symm
 have h5:=Nat.le_of_eq lS
 have h6:=Nat.le_of_eq lS.symm
 have h7:=Nat.le_of_eq lT
 have h8:=Nat.le_of_eq lT.symm
 have h9:=Nat.le_of_eq lB
 have h10:=Nat.le_of_eq lB.symm
 clear hk hi
 go_enter Tryz.func80,Tryz.ntmps80
 go_wp2_with (first|(go_at_call 100;(with_reducible refine(known12 _).mono ?_);rintro e_ w_ ⟨rfl,rfl⟩)|(go_at_call 101;(with_reducible refine(ST.out _).mono ?_);rintro e_ w ⟨rfl,hx_⟩;replace hm:=hm.ext hx_;clear hx_)|(go_at_call 102;(with_reducible refine(MX.out _).mono ?_);rintro e_ w ⟨rfl,hx_⟩;replace hm:=hm.ext hx_;clear hx_)|((with_reducible show qLd);refine zB hm ?_)|((with_reducible show qSt);refine zE hm ?_;clear hm;intro w hm)|((first|((with_reducible show qAl);refine zG hm ?_)|((with_reducible show qBx);refine zH hm ?_));clear hm;(first|(have hx_:=g1;clear hx_;(first|(have hx_:=g2;clear hx_;(first|(have hx_:=g3;clear hx_;(first|(have hx_:=g4;clear hx_;(first|(have hx_:=g5;clear hx_;(first|(have hx_:=g6;clear hx_;intro gx_)|intro g6))|intro g5))|intro g4))|intro g3))|intro g2))|intro g1);intro w hm))
 rw [E0.out]at hm
 clear h7 h8
 go_loopw [25] (fun i wr=>∃k:Nat,k≤16∧i= .int .i64 k∧Own w0 wr [⟨g6,182,(sumC S k).map v32⟩,⟨g5,182,S.map v32⟩,⟨g4,149,(zer 64).map v8⟩,⟨g3,149,(zer 64).map v8⟩,⟨g2,132,inp.map v8⟩,⟨g1,121,key.map v8⟩]) (fun i _=>16-(intOf i).toNat)
 case atStart=>exact⟨0,by omega,rfl,hm⟩
 case round =>
   obtain⟨k,hk,rfl,hm⟩:=hrel
   have lU:=LU.out k
   by_cases hlt:k<16
   · have hd:decide ((k:Int)<16)=true:=decide_eq_true (by omega)
     have hd2:(k:Int)<16:=by omega
     have EC:=hid (EK.out k hlt)
     generalize sumC S k=C at*
     go_wp2_with fail
     refine rgE 8 41 ?_
     simp only [zTa]
     repeat (first
         | (apply walk_is rfl rfl rfl
            · (intro wx hwx;first|((with_reducible show qGl);exact zJ (hm.ext hwx))|(go_simp;(try go_bits);first|exact gives_same|exact gives_skip))
            · (simp only [zPu];rfl))
         | (apply walk_not rfl rfl rfl
            · (simp only [zPu];rfl)))
     intro wz hwz
     simp only [zZi]
     repeat (first|rw [fin_is]|(rw [fin_cons];intro _ _))
     rw [fin_nil]
     try (replace hm:=hm.ext hwz)
     simp only [zPu]
     go_wp2_with (first|((with_reducible show qSt);refine zD hm ?_;clear hm;intro w hm))
     go_roundw
     case rel=>
       rw [EC.out]at hm
       exact⟨k+1,by omega,by go_num,hm⟩
     case measure=>simp [intOf]<;>omega
   · obtain rfl:k=16:=by omega
     have hd:decide (((16:Nat):Int)<16)=false:=decide_eq_false (by omega)
     have PT:=hid fun (w:World)(R:List Blk)(hm:Own w0 w (⟨g4,149,(zer 64).map v8⟩::R))(hT:Has R ⟨g6,182,(sumC S 16).map v32⟩)=>(show Calls Tryz.prog 103 #[.slice (some ⟨g4,0,none⟩) 64 64, .slice (some ⟨g6,0,none⟩) 16 16] w fun e w'=>e= .returned (.tuple #[])∧Own w0 w' (⟨g4,149,B.map v8⟩::R)from by
       have:=cput_any g4 g6 149 (zer 64) (sumC S 16) 0 64 64 0 16 16 (by rw [zer_length]) (by omega) (by omega) (by rw [LU.out 16];omega) (by omega) (by omega) w0 w R hm hT
       rwa [←EB.out]at this)
     generalize sumC S 16=C at*
     go_wp2_with fail
     refine rgE 2 41 ?_
     simp only [zTa]
     repeat (first
         | (apply walk_is rfl rfl rfl
            · (intro wx hwx;go_simp;(try go_bits);first|exact gives_same|exact gives_skip)
            · (simp only [zPu];rfl))
         | (apply walk_not rfl rfl rfl
            · (simp only [zPu];rfl)))
     intro wz hwz
     simp only [zZi]
     repeat (first|rw [fin_is]|(rw [fin_cons];intro _ _))
     rw [fin_nil]
     try (replace hm:=hm.ext hwz)
     simp only [zPu]
     go_wp2_with fail
     refine(PT.out _ _ hm.pull2 .hd).mono ?_
     rintro e_ w ⟨rfl,hm1⟩
     replace hm:=hm1
     clear hm1
     go_wp2_with (first|((with_reducible show qLd);refine zB hm ?_)|((with_reducible show qSt);refine zE hm ?_;clear hm;intro w hm))
     exact ret_own2 hm rfl rfl rfl (by infer_instance) (by repeat (first|exact Has.hd|assumption|apply Has.tl)) (by rw [List.length_map];exact lB) rfl ⟨rfl,hm.x⟩
theorem short12(key inp:List Byte)(hk:key.length=32)(hi:inp.length=16)(w0:World):Gives Tryz.prog 79 #[A8 key,A8 inp, .int .i64 12] w0 (.tuple #[A8 (shoB key inp), .int .i64 0]):=by
 unfold Gives
 have hm:=Own.start w0
 have ST:=hid fun w=>start_any key inp hk hi w
 have EB:Hid (shoB key inp=ptF (ptF (zer 32) 0 (mixC (staF key inp 4) 6) 0 4) 16 (mixC (staF key inp 4) 6) 12 4):=hid rfl
 have lB:=shoB_length key inp
 have lS:=staF_length key inp 4
 generalize shoB key inp=B at*
 generalize staF key inp 4=S at*
 have MX:=hid fun w=>mixed_any S lS w
 have lT:(mixC S 6).length=16:=by rw [mixC_length];exact lS
 generalize mixC S 6=T at*
 have lP:(ptF (zer 32) 0 T 0 4).length=32:=by rw [ptF_length _ _ _ _ _ (by rw [zer_length];omega),zer_length]
 have PT:=hid fun (g gt:Nat)(w:World)(R:List Blk)(hm:Own w0 w (⟨g,121,(zer 32).map v8⟩::R))(hT:Has R ⟨gt,182,T.map v32⟩)=>(show Calls Tryz.prog 103 #[.slice (some ⟨g,0,none⟩) 32 32, .slice (some ⟨gt,0,none⟩) 4 16] w fun e w'=>e= .returned (.tuple #[])∧Own w0 w' (⟨g,121,(ptF (zer 32) 0 T 0 4).map v8⟩::R)from
   cput_any g gt 121 (zer 32) T 0 32 32 0 4 16 (by rw [zer_length]) (by omega) (by omega) (by omega) (by omega) (by omega) w0 w R hm hT)
 generalize ptF (zer 32) 0 T 0 4=P1 at*
 have PU:=hid fun (g gt:Nat)(w:World)(R:List Blk)(hm:Own w0 w (⟨g,121,P1.map v8⟩::R))(hT:Has R ⟨gt,182,T.map v32⟩)=>(show Calls Tryz.prog 103 #[.slice (some ⟨g,16,none⟩) 16 16, .slice (some ⟨gt,12,none⟩) 4 4] w fun e w'=>e= .returned (.tuple #[])∧Own w0 w' (⟨g,121,B.map v8⟩::R)from by
   have:=cput_any g gt 121 P1 T 16 16 16 12 4 4 (by rw [lP]) (by omega) (by omega) (by omega) (by omega) (by omega) w0 w R hm hT
   rwa [←EB.out]at this)
 have h1:=Nat.le_of_eq hk
 have h2:=Nat.le_of_eq hk.symm
 have h3:=Nat.le_of_eq hi
 have h4:=Nat.le_of_eq hi.symm
 have h5:=Nat.le_of_eq lS
 have h6:=Nat.le_of_eq lS.symm
 have h7:=Nat.le_of_eq lT
 have h8:=Nat.le_of_eq lT.symm
 have h9:=Nat.le_of_eq lB
 have h10:=Nat.le_of_eq lB.symm
 clear hk hi
 go_enter Tryz.func79,Tryz.ntmps79
 go_wp2_with (first|(go_at_call 100;(with_reducible refine(known12 _).mono ?_);rintro e_ w_ ⟨rfl,rfl⟩)|(go_at_call 101;(with_reducible refine(ST.out _).mono ?_);rintro e_ w ⟨rfl,hx_⟩;replace hm:=hm.ext hx_;clear hx_)|(go_at_call 102;(with_reducible refine(MX.out _).mono ?_);rintro e_ w ⟨rfl,hx_⟩;replace hm:=hm.ext hx_;clear hx_)|((with_reducible show qLd);refine zB hm ?_)|((with_reducible show qSt);refine zE hm ?_;clear hm;intro w hm)|((first|((with_reducible show qAl);refine zG hm ?_)|((with_reducible show qBx);refine zH hm ?_));clear hm;(first|(have hx_:=g1;clear hx_;(first|(have hx_:=g2;clear hx_;(first|(have hx_:=g3;clear hx_;(first|(have hx_:=g4;clear hx_;(first|(have hx_:=g5;clear hx_;intro gx_)|intro g5))|intro g4))|intro g3))|intro g2))|intro g1);intro w hm))
 refine rgE 2 29 ?_
 simp only [zTa]
 repeat (first
     | (apply walk_is rfl rfl rfl
        · (intro wx hwx;go_simp;(try go_bits);first|exact gives_same|exact gives_skip)
        · (simp only [zPu];rfl))
     | (apply walk_not rfl rfl rfl
        · (simp only [zPu];rfl)))
 intro wz hwz
 simp only [zZi]
 repeat (first|rw [fin_is]|(rw [fin_cons];intro _ _))
 rw [fin_nil]
 try (replace hm:=hm.ext hwz)
 simp only [zPu]
 go_wp2_with fail
 refine(PT.out _ g5 _ _ hm.pull1 .hd).mono ?_
 rintro e_ w ⟨rfl,hm1⟩
 replace hm:=hm1
 clear hm1
 go_wp2_with fail
 refine rgE 2 29 ?_
 simp only [zTa]
 repeat (first
     | (apply walk_is rfl rfl rfl
        · (intro wx hwx;go_simp;(try go_bits);first|exact gives_same|exact gives_skip)
        · (simp only [zPu];rfl))
     | (apply walk_not rfl rfl rfl
        · (simp only [zPu];rfl)))
 intro wz hwz
 simp only [zZi]
 repeat (first|rw [fin_is]|(rw [fin_cons];intro _ _))
 rw [fin_nil]
 try (replace hm:=hm.ext hwz)
 simp only [zPu]
 go_wp2_with fail
 refine(PU.out _ g5 _ _ hm .hd).mono ?_
 rintro e_ w ⟨rfl,hm1⟩
 replace hm:=hm1
 clear hm1
 go_wp2_with (first|((with_reducible show qLd);refine zB hm ?_)|((with_reducible show qSt);refine zE hm ?_;clear hm;intro w hm))
 exact ret_own2 hm rfl rfl rfl (by infer_instance) (by repeat (first|exact Has.hd|assumption|apply Has.tl)) (by rw [List.length_map];exact lB) rfl ⟨rfl,hm.x⟩
instance elemW4:Elem Tryz.prog 156 4 4:=Elem.of (by kernel_rfl) (by omega)
theorem SlO.cellsR {w:World}{M:List Blk}{e:TypeId}{sz n:Nat}{v:Value}{cs:List Value}(h:SlO M e sz v n cs)(hm:∀b∈M,Row w b.g b.t b.cs):∃(p:Option Addr)(c:Nat),v= .slice p n c∧n≤c∧c≤maxLen∧(0<n→p.isSome=true)∧∀(j:Nat)(u:Value),cs[j]? =some u→∃a,p=some a∧w.cell? (a.add j)=some u:=by
 obtain⟨hl,h⟩:=h
 rcases h with ⟨rfl,rfl,rfl⟩|⟨g,o,cap,cur,rfl,rfl,h1,h2,h3,h4⟩
 · have:cs=[]:=List.eq_nil_of_length_eq_zero (by simpa using hl)
   subst this
   exact⟨none,0,rfl,Nat.le_refl _,by simp,by simp,by simp⟩
 · refine⟨_,cap,rfl,h1,h2,fun _=>rfl,fun j u hj=>⟨_,rfl, ?_⟩⟩
   have hr:Row w g e cur:=hm ⟨g,e,cur⟩ (List.mem_singleton_self _)
   show w.cell? ((⟨g,o,none⟩:Addr).add j)=_
   rw [Addr.add_mid,row_cell hr]
   rw [←h4,List.getElem?_take]at hj
   split at hj
   · rwa [List.getElem?_drop]at hj
   · cases hj
theorem slo_rdNR {w:World}{M:List Blk}{p:Option Addr}{n c m:Nat}(hm0:0<m){e:TypeId}{ks:List (List Byte)}(h:SlO M e m (.slice p n c) n (catV ks))(hk:∀k∈ks,k.length=m)(hm:∀b∈M,Row w b.g b.t b.cs):RdK w p m ks∧n=ks.length∧n≤c:=by
 have hl:=h.1
 rw [catV_length m ks hk]at hl
 obtain⟨_,_,hv,hnc,_,h0,hcell⟩:=h.cellsR hm
 cases hv
 have hn:n=ks.length:=(Nat.eq_of_mul_eq_mul_right hm0 hl).symm
 refine⟨⟨hk,fun hp=>h0 ?_,fun i hi=> ?_⟩,hn,hnc⟩
 · rcases Nat.eq_zero_or_pos ks.length with h1|h1
   · rw [List.eq_nil_of_length_eq_zero h1]at hp;simp at hp
   · omega
 · obtain⟨a,rfl,ha⟩:=hcell i (v8 (ks.flatten.getD i 0)) (by rw [catV,List.getElem?_map,List.getElem?_eq_getElem hi,List.getD_eq_getElem?_getD,List.getElem?_eq_getElem hi];rfl)
   exact ha
def Keeps(L:List Blk)(T F:World→Prop):Prop:=∀wx,(∀b∈L,Row wx b.g b.t b.cs)→T wx→F wx
def TabR(gt gb:Nat)(w:World):Prop:=Row w gt 88 (tcells gb mixT unmixT)∧Row w gb 113 (tabs.map v8)
theorem TabR.ext {gt gb:Nat}{w w':World}(h:TabR gt gb w)(hx:Ext w w'):TabR gt gb w':=⟨row_ext h.1 hx,row_ext h.2 hx⟩
theorem Own.rows {w0 w:World}{L:List Blk}(h:Own w0 w L):∀b∈L,Row w b.g b.t b.cs:=fun b hb=>(h.2.2 b hb).2
theorem slo_rdN {w0 w:World}{M R:List Blk}{p:Option Addr}{n c m:Nat}(hm0:0<m){e:TypeId}{ks:List (List Byte)}(h:SlO M e m (.slice p n c) n (catV ks))(hk:∀k∈ks,k.length=m)(hm:Own w0 w (M++R)):RdK w p m ks∧n=ks.length∧n≤c:=by
 have hl:=h.1
 rw [catV_length m ks hk]at hl
 obtain⟨_,_,hv,hnc,_,h0,hcell⟩:=h.cells hm
 cases hv
 have hn:n=ks.length:=(Nat.eq_of_mul_eq_mul_right hm0 hl).symm
 refine⟨⟨hk,fun hp=>h0 ?_,fun i hi=> ?_⟩,hn,hnc⟩
 · rcases Nat.eq_zero_or_pos ks.length with h1|h1
   · rw [List.eq_nil_of_length_eq_zero h1]at hp;simp at hp
   · omega
 · obtain⟨a,rfl,ha⟩:=hcell i (v8 (ks.flatten.getD i 0)) (by rw [catV,List.getElem?_map,List.getElem?_eq_getElem hi,List.getD_eq_getElem?_getD,List.getElem?_eq_getElem hi];rfl)
   exact ha
theorem flat_drop(n:Nat):∀(i:Nat)(ks:List (List Byte)),(∀k∈ks,k.length=n)→ks.flatten.drop (i*n)=(ks.drop i).flatten
 |0,ks,_=>by simp
 |i+1,[],_=>by simp
 | i+1,k::ks,h=>by
   rw [List.flatten_cons,dSC,←flat_drop n i ks (fun x hx=>h x (by simp [hx])),Nat.succ_mul,Nat.add_comm (i*n) n,←List.drop_drop]
   rw [List.drop_left' (h k (by simp))]
theorem flat_take(n:Nat):∀(i:Nat)(ks:List (List Byte)),(∀k∈ks,k.length=n)→ks.flatten.take (i*n)=(ks.take i).flatten
 |0,ks,_=>by simp
 |i+1,[],_=>by simp
 | i+1,k::ks,h=>by
   have hk:=h k (by simp)
   rw [List.flatten_cons,tSC,List.flatten_cons,←flat_take n i ks (fun x hx=>h x (by simp [hx])),Nat.succ_mul,Nat.add_comm (i*n) n,List.take_append,hk,Nat.add_sub_cancel_left,List.take_of_length_le (by omega)]
theorem RdK.seg {w:World}{a:Addr}{n:Nat}{ks:List (List Byte)}(h:RdK w (some a) n ks)(hn:0<n)(i m:Nat)(hm:0<m)(hi:i+m≤ks.length):RdK w (some (a.add (i*n))) n ((ks.drop i).take m):=by
 refine⟨fun k hk=>h.1 k (List.mem_of_mem_drop (List.mem_of_mem_take hk)), ?_⟩
 have hl:=flatten_length n ks h.1
 have hle:(i+m)*n≤ks.length*n:=Nat.mul_le_mul_right n hi
 rw [Nat.add_mul]at hle
 have:=h.2.sub (i*n) (m*n) (by omega) (Nat.mul_pos hm hn)
 rwa [flat_drop n i ks h.1,flat_take n m _ (fun k hk=>h.1 k (List.mem_of_mem_drop hk))]at this
def KeysN(m:Nat)(ks:List (List Byte)):Slot:=fun v w=>∃p c,v= .slice p ks.length c∧ks.length≤c∧RdK w p m ks
theorem KeysN.stable(m:Nat)(ks:List (List Byte)):Stable (KeysN m ks):=fun _ _ _ ⟨p,c,h1,h2,h3⟩ hx=>⟨p,c,h1,h2,h3.ext hx⟩
theorem rdK_row {w:World}{g m:Nat}{e:TypeId}{ks:List (List Byte)}(hk:∀k∈ks,k.length=m)(h:Row w g e (catV ks)):RdK w (some ⟨g,0,none⟩) m ks:=⟨hk,RdB.of_row h⟩
section
variable {P:Program} {ops:Array Oper} {Q:Exit→Act→World→Prop} {rest:List Oper} {dst:Option Tmp} {ty:TypeId} {pos:String} {aft:Array Edge} {gd:Option (Nat×Bool)} {a:Act} {w0 w:World} {L:List Blk} {T e:TypeId}
theorem gq_bsN1 {m:Nat}{u0:Value}{x0:Operand}{k:List Byte}(hk:k.length=m)(hb:(Instr.buildSlice T 1 #[(0,u0)]).run P w= .ok (.slice (some ⟨w.heap.size,0,none⟩) 1 1) (w.alloc (.cells (catV [k]).toArray e)))(hx0:a.eval x0=u0):gives P w (KeysN m [k]) ((execOp a.eval (Oper.mk dst (.buildSlice T 1 #[(0,x0)]) ty pos aft gd)).run P w):=by
 unfold execOp
 simp [hx0,hb]
 exact gives_val (Ext.alloc (Ext.refl _) _) ⟨_,_,rfl,Nat.le_refl _,rdK_row (by intro x hx;rw [List.mem_singleton.1 hx];exact hk) (row_new w e (catV [k]))⟩
theorem wq_mkN {x y:Operand}{N C:Int}{sz by_:Nat}(n m:Nat)(hT:P.underlying T=some (.slice e))(hE:Elem P e sz by_)(hm:Own w0 w L)(hgd:Region.wanted (Oper.mk dst (.makeSlice T x y) ty pos aft gd) (yielded ops a.tmps)=true)(hx:a.eval x= .int .i64 N)(hy:a.eval y= .int .i64 C)(hN:N=(n:Int))(hC:C=(m:Int))(hnm:n≤m)(hmm:by_*m≤281474976710656)(hm2:m≤281474976710656)
   (hr:∀g w' cur,cur.length=m*sz→Own w0 w' (⟨g,e,cur⟩::L)→wpList P ops Q rest (a.put dst (.slice (some ⟨g,0,none⟩) n m)) w'):wpList P ops Q ((Oper.mk dst (.makeSlice T x y) ty pos aft gd)::rest) a w:=
 wpList_want hgd fun K hK=>by
   subst hN hC
   obtain⟨i,z,hi,hz,hsz,hb,hzz,h0⟩:=hE.out
   have h:=run_make (P:=P) w T e i z hT hi hz .i64 .i64 n m (by omega) (by omega) (by rw [hb,←Int.natCast_mul];omega) (by omega)
   simp only [Int.toNat_natCast]at h
   unfold Oper.wp execOp
   simp only [hx,hy,Sem.run_bind,h,Result.andThen_ok,Sem.run_pure]
   exact hK _ _ (hr _ _ (madeCells z.cells (m*i.size)).toList (by rw [Array.length_toList,size_madeCells,hsz]) (hm.alloc e _))
theorem wq_build4 {v u0 u1 u2 u3:Value}{x0 x1 x2 x3:Operand}(hb:∀w,(Instr.build T #[(0,u0),(1,u1),(2,u2),(3,u3)]).run P w= .ok v w)(hgd:Region.wanted (Oper.mk dst (.build T #[(0,x0),(1,x1),(2,x2),(3,x3)]) ty pos aft gd) (yielded ops a.tmps)=true)(h0:a.eval x0=u0)(h1:a.eval x1=u1)(h2:a.eval x2=u2)(h3:a.eval x3=u3)(hr:wpList P ops Q rest (a.put dst v) w):wpList P ops Q ((Oper.mk dst (.build T #[(0,x0),(1,x1),(2,x2),(3,x3)]) ty pos aft gd)::rest) a w:=
 wq_buildN (by simpa [h0,h1,h2,h3]using hb) hgd hr
end
theorem len4(b:List Byte)(h:b.length=4):∃x0 x1 x2 x3,b=[x0,x1,x2,x3]:=by
 match b,h with
 |[x0,x1,x2,x3],_=>exact⟨x0,x1,x2,x3,rfl⟩
theorem bs_word(a:List Byte)(ha:a.length=4)(w:World):(Instr.buildSlice 155 1 #[(0,A8 a)]).run Tryz.prog w= .ok (.slice (some ⟨w.heap.size,0,none⟩) 1 1) (w.alloc (.cells (catV [a]).toArray 156)):=by
 obtain⟨a0,a1,a2,a3,rfl⟩:=len4 a ha
 kernel_rfl
theorem build_word(a b c d:Byte)(w:World):(Instr.build 156 #[(0,v8 a),(1,v8 b),(2,v8 c),(3,v8 d)]).run Tryz.prog w= .ok (A8 [a,b,c,d]) w:=by kernel_rfl
theorem build_key(gt:Nat)(w:World):(Instr.build 163 #[(0, .pointer (some ⟨gt,0,none⟩))]).run Tryz.prog w= .ok (.agg (aesC gt none 0 0).toArray) w:=by kernel_rfl
def KeyQ(k:List Byte):PSlot:=fun v vs w=>vs[0]? =some none→∃g e,v= .slice (some ⟨g,0,none⟩) 1 1∧Row w g e (catV [k])
theorem KeyQ.stable {w0:World}{R:List Blk}{e:TypeId}{sz:Nat}{v0:Value}{n0:Nat}{cs0:List Value}{n1:Nat}{cs1:List Value}(k:List Byte):PStable (JA1 w0 R e sz v0 n0 cs0 n1 cs1).Sp (KeyQ k) where
 ext:=fun _ _ _ _ h hx hn=>by obtain⟨g,e,h1,h2⟩:=h hn;exact⟨g,e,h1,row_ext h2 hx⟩
 mark:=fun v vs i x w w' h hn hS hn2=>by
   obtain⟨a,hs,_⟩:=hS
   by_cases e:i=0
   · subst e
     rw [List.getElem?_set_self (List.getElem?_eq_some_iff.1 hn).1]at hn2
     cases hn2
   · have:=(List.getElem?_eq_some_iff.1 hn).1
     have hl:(vs.set i (some x)).length=1:=by rw [hs];rfl
     rw [List.length_set]at hl
     omega
theorem gqp_bsK {P:Program}{T e:TypeId}{u0:Value}{x0:Operand}{k:List Byte}{vs:List (Option Value)}{dst:Option Tmp}{ty:TypeId}{pos:String}{aft:Array Edge}{gd:Option (Nat×Bool)}{a:Act}{w:World}(hb:(Instr.buildSlice T 1 #[(0,u0)]).run P w= .ok (.slice (some ⟨w.heap.size,0,none⟩) 1 1) (w.alloc (.cells (catV [k]).toArray e)))(hx0:a.eval x0=u0):
   gives P w (fun v w'=>KeyQ k v vs w') ((execOp a.eval (Oper.mk dst (.buildSlice T 1 #[(0,x0)]) ty pos aft gd)).run P w):=by
 unfold execOp
 simp [hx0,hb]
 exact gives_val (Ext.alloc (Ext.refl _) _) (fun _=>⟨_,_,rfl,row_new w e (catV [k])⟩)
theorem wq_mk268 {ops:Array Oper}{Q:Exit→Act→World→Prop}{rest:List Oper}{a:Act}{w0 w:World}{L:List Blk}{dst:Option Tmp}{ty:TypeId}{pos:String}{aft:Array Edge}{gd:Option (Nat×Bool)}(hm:Own w0 w L)(hgd:Region.wanted (Oper.mk dst (.makeSlice 165 (.const (.int .i64 268)) (.const (.int .i64 268))) ty pos aft gd) (yielded ops a.tmps)=true)
   (hr:∀g w',Own w0 w' (⟨g,70,(zer (n:=32) 268).map v32⟩::L)→wpList Tryz.prog ops Q rest (a.put dst (.slice (some ⟨g,0,none⟩) 268 268)) w'):wpList Tryz.prog ops Q ((Oper.mk dst (.makeSlice 165 (.const (.int .i64 268)) (.const (.int .i64 268))) ty pos aft gd)::rest) a w:=
 wpList_want hgd fun K hK=>by
   have hb:(execOp a.eval (Oper.mk dst (.makeSlice 165 (.const (.int .i64 268)) (.const (.int .i64 268))) ty pos aft gd)).run Tryz.prog w= .ok (.value (.slice (some ⟨w.heap.size,0,none⟩) 268 268)) (w.alloc (.cells ((zer (n:=32) 268).map v32).toArray 70)):=by kernel_rfl
   unfold Oper.wp
   rw [hb]
   exact hK _ _ (hr _ _ (hm.alloc 70 ((zer (n:=32) 268).map v32)))
def nhW(key:List Byte):List (BitVec 32):=tab 268 fun i=>wrd key (4*i)
theorem nhW_length(key:List Byte):(nhW key).length=268:=tab_length
theorem nwords_any(key:List Byte)(hk:key.length=1072)(p:Option Addr)(c:Nat)(w0:World)(hr:RdB w0 p key):Calls Tryz.prog 88 #[.slice p 1072 c] w0 fun e w'=>∃g,e= .returned (.tuple #[.slice (some ⟨g,0,none⟩) 268 268, .int .i64 0])∧w0.heap.size≤g∧Row w' g 70 ((nhW key).map v32)∧Ext w0 w':=by
 have hm:=Own.start w0
 have W1:=hid fun (k:Nat)(hk4:k<268)(w:World)(h:Ext w0 w)=>(show Gives Tryz.prog 84 #[.slice p 1072 c, .int .i64 (4*(k:Int))] w (v32 (wrd key (4*k)))from by
   have:=word_any key p c (4*(k:Int)) w (hr.ext h) (by omega) (by omega) (by omega)
   rw [hk]at this
   rw [wrd,show((4*k:Nat):Int)=4*(k:Int)from by omega]
   exact this)
 have EN:Hid (nhW key=part 268 268 (fun i=>wrd key (4*i)) fun _=>0):=hid part_all.symm
 have EZ:Hid (zer (n:=32) 268=part 268 0 (fun i=>wrd key (4*i)) fun _=>0):=hid zer_start
 generalize nhW key=NW at*
 clear hr hk
 go_enter Tryz.func88,Tryz.ntmps88
 go_wp2_with (first|((with_reducible apply wq_mk268 hm);exact rfl;clear hm;intro g1 w hm))
 rw [EZ.out]at hm
 go_loopw [12] (fun i wr=>∃k:Nat,k≤268∧i= .int .i64 k∧Own w0 wr [⟨g1,70,(part (n:=32) 268 k (fun i=>wrd key (4*i)) fun _=>0).map v32⟩]) (fun i _=>268-(intOf i).toNat)
 case atStart=>exact⟨0,by omega,rfl,hm⟩
 case round=>
   obtain⟨k,hk,rfl,hm⟩:=hrel
   by_cases hlt:k<268
   · have hd:decide ((k:Int)<268)=true:=decide_eq_true (by omega)
     have hd2:(k:Int)<268:=by omega
     have C1:=hid (W1.out k hlt)
     have PK:Hid (setN (part 268 k (fun i=>wrd key (4*i)) fun _=>0) k (wrd key (4*k))=part 268 (k+1) (fun i=>wrd key (4*i)) fun _=>0):=hid (part_set' hlt rfl)
     have lP:(part (n:=32) 268 k (fun i=>wrd key (4*i)) fun _=>0).length=268:=part_length
     generalize part 268 k (fun i=>wrd key (4*i)) (fun _=>0)=V at*
     generalize wrd key (4*k)=X at*
     go_wp2_with (first|(go_at_call 84;(with_reducible refine(C1.out _ hm.x).mono ?_);rintro e_ w ⟨rfl,hx_⟩;replace hm:=hm.ext hx_;clear hx_)|((with_reducible show qSt);refine zD hm ?_;clear hm;intro w hm))
     go_roundw
     case rel=>
       rw [PK.out]at hm
       exact⟨k+1,by omega,by go_num,hm⟩
     case measure=>simp [intOf]<;>omega
   · obtain rfl:k=268:=by omega
     have hd:decide (((268:Nat):Int)<268)=false:=decide_eq_false (by omega)
     rw [←EN.out]at hm
     go_wp2_with fail
     go_ret2
     exact⟨g1,rfl,hm.base .hd,hm.row .hd,hm.x⟩
def nhS(W:List (BitVec 32))(b:List Byte):Nat→List (BitVec 64)
 |0=>zer 4
 |k+1=>tab 4 fun p=>nth (nhS W b k) p+(proN (wrd b (16*k)) (nth W (4*k+4*p)) (wrd b (16*k+8)) (nth W (4*k+4*p+2))+proN (wrd b (16*k+4)) (nth W (4*k+4*p+1)) (wrd b (16*k+12)) (nth W (4*k+4*p+3)))
theorem nhS_length(W:List (BitVec 32))(b:List Byte)(k:Nat):(nhS W b k).length=4:=by
 cases k with
 |zero=>exact zer_length
 |succ k=>exact tab_length
def p8F(cur:List Byte)(t:List (BitVec 64)):Nat→List Byte
 |0=>cur
 |k+1=>over (p8F cur t k) (8*k) (putL (nth t k) 8)
theorem p8F_length(cur:List Byte)(t:List (BitVec 64))(k:Nat)(h:8*k≤cur.length):(p8F cur t k).length=cur.length:=by
 induction k with
 |zero=>rfl
 | succ k ih=>
   have:=ih (by omega)
   rw [p8F,over,List.length_append,List.length_append,List.length_take,List.length_drop,putL_length];omega
def nhL(W:List (BitVec 32))(b:List Byte):List Byte:=p8F (zer 32) (nhS W b (b.length/16)) 4
theorem nhL_length(W:List (BitVec 32))(b:List Byte):(nhL W b).length=32:=by rw [nhL,p8F_length _ _ _ (by rw [zer_length];omega),zer_length]
theorem build_m(a b c d:BitVec 32)(w:World):(Instr.build 282 #[(0,v32 a),(1,v32 b),(2,v32 c),(3,v32 d)]).run Tryz.prog w= .ok (.agg ([a,b,c,d].map v32).toArray) w:=by kernel_rfl
theorem nhash_any(gw n:Nat)(W:List (BitVec 32))(b:List Byte)(hW:W.length=268)(hb:b.length=16*n)(hn:n≤64)(p:Option Addr)(c:Nat)(w0:World)(hr:RdB w0 p b)(hw:Row w0 gw 70 (W.map v32)):
   Gives Tryz.prog 195 #[.slice (some ⟨gw,0,none⟩) 268 268, .slice p b.length c] w0 (.tuple #[A8 (nhL W b), .int .i64 0]):=by
 unfold Gives
 have hm:=Own.start w0
 have W1:=hid fun (k:Nat)(e:Int)(he:e=(k:Int))(hk:k+4≤b.length)(w:World)(h:Ext w0 w)=>(show Gives Tryz.prog 84 #[.slice p b.length c, .int .i64 e] w (v32 (wrd b k))from by
   subst he
   exact word_any b p c (k:Int) w (hr.ext h) (by omega) (by omega) (by omega))
 have lR:=nhL_length W b
 have ER:Hid (nhL W b=p8F (zer 32) (nhS W b n) 4):=hid (by rw [nhL,hb,Nat.mul_comm,Nat.mul_div_cancel _ (by omega)])
 have S0:Hid (nhS W b 0=zer 4):=hid rfl
 have SK:=hid fun k=>(show nhS W b (k+1)=part 4 4 (fun p=>nth (nhS W b k) p+(proN (wrd b (16*k)) (nth W (4*k+4*p)) (wrd b (16*k+8)) (nth W (4*k+4*p+2))+proN (wrd b (16*k+4)) (nth W (4*k+4*p+1)) (wrd b (16*k+12)) (nth W (4*k+4*p+3)))) (nth (nhS W b k))from part_all.symm)
 have LS:=hid (nhS_length W b)
 have RW:=hid fun wx (h:Ext w0 wx)=>row_ext hw h
 have EW:=hid fun k (h:k<268)=>(show(W.map v32)[k]? =some (v32 (nth W k))from map32_at _ (by omega))
 generalize nhL W b=RES at*
 generalize nhS W b=S at*
 have BM:=hid build_m
 have hb1:((b.length:Nat):Int)≤1024:=by omega
 generalize hL:b.length=L at*
 have hm16:(L:Int).tmod 16=0:=by subst hb;rw [Int.tmod_eq_emod_of_nonneg (by omega)];omega
 have hq:(L:Int).tdiv 16=(n:Int):=by subst hb;rw [Int.tdiv_eq_ediv_of_nonneg (by omega)];omega
 have hn1:(n:Int)≤64:=by omega
 have g1_:¬(1024:Int)<(L:Int):=by omega
 have g2_:decide ((L:Int)>1024)=false:=decide_eq_false (by omega)
 have g3_:¬(268:Int)<(n:Int)*4+12:=by omega
 have g4_:decide ((268:Int)<(n:Int)*4+12)=false:=decide_eq_false (by omega)
 have HLB:=hid hb
 clear hr hw hL hb
 go_enter Tryz.func195,Tryz.ntmps195
 go_wp2_with (first|(((with_reducible show qAl);refine zG hm ?_);clear hm;(first|(have hx_:=g1;clear hx_;(first|(have hx_:=g2;clear hx_;intro gx_)|intro g2))|intro g1);intro w hm))
 refine wp_scope_goto 0 (fun a_ w_=>∃(k ga gs:Nat)(A:Int)(u2 u3 u9 u10 u11 u12 u13 u14 u15 u16 u17 u18 u19 u20 u21 u22 u23 u24 u25 u26 u27 u28 u29 u30 u31 u32 u33 u34 u35 u36 u37 u38 u39 u40 u41 u42 u43 u44 u45 u46 u47 u48 u49 u50 u51 u52 u53 u54 u55 u56 u57 u58 u59 u60 u61 u62 u63 u64 u65 u66 u67 u68 u69 u70 u71 u72 u73 u74 u75 u76 u77 u78 u79 u80 u81 u82 u83 u84 u85 u86 u87 u88 u89 u90 u91 u92 u93 u94 u95 u96 u97 u98 u99 u100 u101 u102 u103 u104 u105 u106 u107 u108 u109 u110 u111:Value),a_={tmps:= #[(.slice (some ⟨gw,0,none⟩) 268 268),(.slice p L c),u2,u3,(.pointer (some ⟨g1,0,none⟩)),(.int .i64 0),(.pointer (some ⟨ga,0,none⟩)),(.pointer (some ⟨gs,0,none⟩)),(.int .i64 A),u9,u10,u11,u12,u13,u14,u15,u16,u17,u18,u19,u20,u21,u22,u23,u24,u25,u26,u27,u28,u29,u30,u31,u32,u33,u34,u35,u36,u37,u38,u39,u40,u41,u42,u43,u44,u45,u46,u47,u48,u49,u50,u51,u52,u53,u54,u55,u56,u57,u58,u59,u60,u61,u62,u63,u64,u65,u66,u67,u68,u69,u70,u71,u72,u73,u74,u75,u76,u77,u78,u79,u80,u81,u82,u83,u84,u85,u86,u87,u88,u89,u90,u91,u92,u93,u94,u95,u96,u97,u98,u99,u100,u101,u102,u103,u104,u105,u106,u107,u108,u109,u110,u111],defers:=[]}∧Own w0 w_ [⟨gs,281,(S k).map v64⟩,⟨ga,121,(zer 32).map v8⟩,⟨g1,121,(zer 32).map v8⟩]∧A=16*(k:Int)∧k≤n) (fun a_ _=>L-(intOf (a_.tmps.getD 8 undef)).toNat) rfl ?_ ?_
 · clear hm
   have key_:∀(P_:Act→World→Prop),(∀(w_:World)(k ga gs:Nat)(A:Int)(u2 u3 u9 u10 u11 u12 u13 u14 u15 u16 u17 u18 u19 u20 u21 u22 u23 u24 u25 u26 u27 u28 u29 u30 u31 u32 u33 u34 u35 u36 u37 u38 u39 u40 u41 u42 u43 u44 u45 u46 u47 u48 u49 u50 u51 u52 u53 u54 u55 u56 u57 u58 u59 u60 u61 u62 u63 u64 u65 u66 u67 u68 u69 u70 u71 u72 u73 u74 u75 u76 u77 u78 u79 u80 u81 u82 u83 u84 u85 u86 u87 u88 u89 u90 u91 u92 u93 u94 u95 u96 u97 u98 u99 u100 u101 u102 u103 u104 u105 u106 u107 u108 u109 u110 u111:Value),Own w0 w_ [⟨gs,281,(S k).map v64⟩,⟨ga,121,(zer 32).map v8⟩,⟨g1,121,(zer 32).map v8⟩]∧A=16*(k:Int)∧k≤n→P_ {tmps:= #[(.slice (some ⟨gw,0,none⟩) 268 268),(.slice p L c),u2,u3,(.pointer (some ⟨g1,0,none⟩)),(.int .i64 0),(.pointer (some ⟨ga,0,none⟩)),(.pointer (some ⟨gs,0,none⟩)),(.int .i64 A),u9,u10,u11,u12,u13,u14,u15,u16,u17,u18,u19,u20,u21,u22,u23,u24,u25,u26,u27,u28,u29,u30,u31,u32,u33,u34,u35,u36,u37,u38,u39,u40,u41,u42,u43,u44,u45,u46,u47,u48,u49,u50,u51,u52,u53,u54,u55,u56,u57,u58,u59,u60,u61,u62,u63,u64,u65,u66,u67,u68,u69,u70,u71,u72,u73,u74,u75,u76,u77,u78,u79,u80,u81,u82,u83,u84,u85,u86,u87,u88,u89,u90,u91,u92,u93,u94,u95,u96,u97,u98,u99,u100,u101,u102,u103,u104,u105,u106,u107,u108,u109,u110,u111],defers:=[]} w_)→∀(a_:Act)(w_:World),(∃(k ga gs:Nat)(A:Int)(u2 u3 u9 u10 u11 u12 u13 u14 u15 u16 u17 u18 u19 u20 u21 u22 u23 u24 u25 u26 u27 u28 u29 u30 u31 u32 u33 u34 u35 u36 u37 u38 u39 u40 u41 u42 u43 u44 u45 u46 u47 u48 u49 u50 u51 u52 u53 u54 u55 u56 u57 u58 u59 u60 u61 u62 u63 u64 u65 u66 u67 u68 u69 u70 u71 u72 u73 u74 u75 u76 u77 u78 u79 u80 u81 u82 u83 u84 u85 u86 u87 u88 u89 u90 u91 u92 u93 u94 u95 u96 u97 u98 u99 u100 u101 u102 u103 u104 u105 u106 u107 u108 u109 u110 u111:Value),a_={tmps:= #[(.slice (some ⟨gw,0,none⟩) 268 268),(.slice p L c),u2,u3,(.pointer (some ⟨g1,0,none⟩)),(.int .i64 0),(.pointer (some ⟨ga,0,none⟩)),(.pointer (some ⟨gs,0,none⟩)),(.int .i64 A),u9,u10,u11,u12,u13,u14,u15,u16,u17,u18,u19,u20,u21,u22,u23,u24,u25,u26,u27,u28,u29,u30,u31,u32,u33,u34,u35,u36,u37,u38,u39,u40,u41,u42,u43,u44,u45,u46,u47,u48,u49,u50,u51,u52,u53,u54,u55,u56,u57,u58,u59,u60,u61,u62,u63,u64,u65,u66,u67,u68,u69,u70,u71,u72,u73,u74,u75,u76,u77,u78,u79,u80,u81,u82,u83,u84,u85,u86,u87,u88,u89,u90,u91,u92,u93,u94,u95,u96,u97,u98,u99,u100,u101,u102,u103,u104,u105,u106,u107,u108,u109,u110,u111],defers:=[]}∧Own w0 w_ [⟨gs,281,(S k).map v64⟩,⟨ga,121,(zer 32).map v8⟩,⟨g1,121,(zer 32).map v8⟩]∧A=16*(k:Int)∧k≤n)→P_ a_ w_:=
     fun P_ h_ a_ w_ z=>z.elim fun k z=>z.elim fun ga z=>z.elim fun gs z=>z.elim fun A z=>z.elim fun u2 z=>z.elim fun u3 z=>z.elim fun u9 z=>z.elim fun u10 z=>z.elim fun u11 z=>z.elim fun u12 z=>z.elim fun u13 z=>z.elim fun u14 z=>z.elim fun u15 z=>z.elim fun u16 z=>z.elim fun u17 z=>z.elim fun u18 z=>z.elim fun u19 z=>z.elim fun u20 z=>z.elim fun u21 z=>z.elim fun u22 z=>z.elim fun u23 z=>z.elim fun u24 z=>z.elim fun u25 z=>z.elim fun u26 z=>z.elim fun u27 z=>z.elim fun u28 z=>z.elim fun u29 z=>z.elim fun u30 z=>z.elim fun u31 z=>z.elim fun u32 z=>z.elim fun u33 z=>z.elim fun u34 z=>z.elim fun u35 z=>z.elim fun u36 z=>z.elim fun u37 z=>z.elim fun u38 z=>z.elim fun u39 z=>z.elim fun u40 z=>z.elim fun u41 z=>z.elim fun u42 z=>z.elim fun u43 z=>z.elim fun u44 z=>z.elim fun u45 z=>z.elim fun u46 z=>z.elim fun u47 z=>z.elim fun u48 z=>z.elim fun u49 z=>z.elim fun u50 z=>z.elim fun u51 z=>z.elim fun u52 z=>z.elim fun u53 z=>z.elim fun u54 z=>z.elim fun u55 z=>z.elim fun u56 z=>z.elim fun u57 z=>z.elim fun u58 z=>z.elim fun u59 z=>z.elim fun u60 z=>z.elim fun u61 z=>z.elim fun u62 z=>z.elim fun u63 z=>z.elim fun u64 z=>z.elim fun u65 z=>z.elim fun u66 z=>z.elim fun u67 z=>z.elim fun u68 z=>z.elim fun u69 z=>z.elim fun u70 z=>z.elim fun u71 z=>z.elim fun u72 z=>z.elim fun u73 z=>z.elim fun u74 z=>z.elim fun u75 z=>z.elim fun u76 z=>z.elim fun u77 z=>z.elim fun u78 z=>z.elim fun u79 z=>z.elim fun u80 z=>z.elim fun u81 z=>z.elim fun u82 z=>z.elim fun u83 z=>z.elim fun u84 z=>z.elim fun u85 z=>z.elim fun u86 z=>z.elim fun u87 z=>z.elim fun u88 z=>z.elim fun u89 z=>z.elim fun u90 z=>z.elim fun u91 z=>z.elim fun u92 z=>z.elim fun u93 z=>z.elim fun u94 z=>z.elim fun u95 z=>z.elim fun u96 z=>z.elim fun u97 z=>z.elim fun u98 z=>z.elim fun u99 z=>z.elim fun u100 z=>z.elim fun u101 z=>z.elim fun u102 z=>z.elim fun u103 z=>z.elim fun u104 z=>z.elim fun u105 z=>z.elim fun u106 z=>z.elim fun u107 z=>z.elim fun u108 z=>z.elim fun u109 z=>z.elim fun u110 z=>z.elim fun u111 z=>Eq.subst (motive:=fun z_=>P_ z_ w_) z.1.symm (h_ w_ k ga gs A u2 u3 u9 u10 u11 u12 u13 u14 u15 u16 u17 u18 u19 u20 u21 u22 u23 u24 u25 u26 u27 u28 u29 u30 u31 u32 u33 u34 u35 u36 u37 u38 u39 u40 u41 u42 u43 u44 u45 u46 u47 u48 u49 u50 u51 u52 u53 u54 u55 u56 u57 u58 u59 u60 u61 u62 u63 u64 u65 u66 u67 u68 u69 u70 u71 u72 u73 u74 u75 u76 u77 u78 u79 u80 u81 u82 u83 u84 u85 u86 u87 u88 u89 u90 u91 u92 u93 u94 u95 u96 u97 u98 u99 u100 u101 u102 u103 u104 u105 u106 u107 u108 u109 u110 u111 z.2)
   refine key_ _ ?_
   clear key_
   intro w k ga gs A u2 u3 u9 u10 u11 u12 u13 u14 u15 u16 u17 u18 u19 u20 u21 u22 u23 u24 u25 u26 u27 u28 u29 u30 u31 u32 u33 u34 u35 u36 u37 u38 u39 u40 u41 u42 u43 u44 u45 u46 u47 u48 u49 u50 u51 u52 u53 u54 u55 u56 u57 u58 u59 u60 u61 u62 u63 u64 u65 u66 u67 u68 u69 u70 u71 u72 u73 u74 u75 u76 u77 u78 u79 u80 u81 u82 u83 u84 u85 u86 u87 u88 u89 u90 u91 u92 u93 u94 u95 u96 u97 u98 u99 u100 u101 u102 u103 u104 u105 u106 u107 u108 u109 u110 u111
   rintro ⟨hm,hA,hk⟩
   have hA0:(0:Int)≤A:=by omega
   have hA1:A≤1024:=by omega
   have t0:A.tdiv 16=(k:Int):=by rw [hA,Int.tdiv_eq_ediv_of_nonneg (by omega)];omega
   by_cases hlt:k<n
   · have hd : decide (A<(L:Int))=true:=decide_eq_true (by rw [HLB.out];omega)
     have hd2:A<(L:Int):=by rw [HLB.out];omega
     have C0:=hid fun w h=>W1.out (16*k) A (by omega) (by rw [HLB.out];omega) w h
     have C1:=hid fun w h=>W1.out (16*k+4) (A+4) (by omega) (by rw [HLB.out];omega) w h
     have C2:=hid fun w h=>W1.out (16*k+8) (A+8) (by omega) (by rw [HLB.out];omega) w h
     have C3:=hid fun w h=>W1.out (16*k+12) (A+12) (by omega) (by rw [HLB.out];omega) w h
     have lS:=LS.out k
     obtain⟨m0,h0_⟩:=exq (wrd b (16*k))
     obtain⟨m1,h1_⟩:=exq (wrd b (16*k+4))
     obtain⟨m2,h2_⟩:=exq (wrd b (16*k+8))
     obtain⟨m3,h3_⟩:=exq (wrd b (16*k+12))
     obtain⟨MM,hMM⟩:=exq ([m0,m1,m2,m3])
     obtain⟨f,hf⟩:∃f,f=fun p=>nth (S k) p+(proN (nth MM 0) (nth W (4*k+4*p)) (nth MM 2) (nth W (4*k+4*p+2))+proN (nth MM 1) (nth W (4*k+4*p+1)) (nth MM 3) (nth W (4*k+4*p+3))):=⟨_,rfl⟩
     have SKk:Hid (S (k+1)=part 4 4 f (nth (S k))):=hid (by rw [SK.out k,hf,hMM,←h0_,←h1_,←h2_,←h3_];rfl)
     have BMk:=hid (BM.out m0 m1 m2 m3)
     rw [←hMM]at BMk
     rw [←h0_]at C0
     rw [←h1_]at C1
     rw [←h2_]at C2
     rw [←h3_]at C3
     have lM:MM.length=4:=by rw [hMM];rfl
     clear h0_ h1_ h2_ h3_ hMM
     obtain⟨V,hV⟩:=exq (S k)
     rw [←hV]at SKk lS hm hf
     clear hV
     have HF:=hid hf
     have V0:Hid (V=part 4 0 f (nth V)):=hid (part_start lS)
     have HA:=hid hA
     have HLT:=hid hlt
     clear hf hA
     go_wp2_with (first|(go_at_call 84;(with_reducible refine(C0.out _ hm.x).mono ?_);rintro e_ w ⟨rfl,hx_⟩;replace hm:=hm.ext hx_;clear hx_)|(go_at_call 84;(with_reducible refine(C1.out _ hm.x).mono ?_);rintro e_ w ⟨rfl,hx_⟩;replace hm:=hm.ext hx_;clear hx_)|(go_at_call 84;(with_reducible refine(C2.out _ hm.x).mono ?_);rintro e_ w ⟨rfl,hx_⟩;replace hm:=hm.ext hx_;clear hx_)|(go_at_call 84;(with_reducible refine(C3.out _ hm.x).mono ?_);rintro e_ w ⟨rfl,hx_⟩;replace hm:=hm.ext hx_;clear hx_)|((with_reducible apply wq_build4 BMk.out);exact rfl;exact rfl;exact rfl;exact rfl;exact rfl)|((with_reducible show qSt);refine zE hm ?_;clear hm;intro w hm)|(((with_reducible show qAl);refine zG hm ?_);clear hm;(first|(have hx_:=g1;clear hx_;(first|(have hx_:=g2;clear hx_;intro gx_)|intro g2))|intro g1);intro w hm))
     rw [V0.out]at hm
     go_loopw [56] (fun vi wr=>∃q:Nat,q≤4∧vi= .int .i64 q∧Own w0 wr [⟨g2,282,MM.map v32⟩,⟨gs,281,(part 4 q f (nth V)).map v64⟩,⟨ga,121,(zer 32).map v8⟩,⟨g1,121,(zer 32).map v8⟩]) (fun vi _=>4-(intOf vi).toNat)
     case atStart=>exact⟨0,by omega,rfl,hm⟩
     case round =>
       obtain⟨q,hq4,rfl,hm⟩:=hrel
       by_cases hql:q<4
       · have hd:decide ((q:Int)<4)=true:=decide_eq_true (by omega)
         have hd2:(q:Int)<4:=by omega
         obtain⟨O,hO⟩:∃O,O=4*k+4*q:=⟨_,rfl⟩
         have PS:Hid (setN (part 4 q f (nth V)) q (nth (part 4 q f (nth V)) q+(proN (nth MM 0) (nth W O) (nth MM 2) (nth W (O+2))+proN (nth MM 1) (nth W (O+1)) (nth MM 3) (nth W (O+3))))=part 4 (q+1) f (nth V)):=hid (by
           rw [nth_part_ge hql (Nat.le_refl _),hO]
           exact part_set' hql (by rw [HF.out]))
         have O1:O+4≤268:=by have:=HLT.out;omega
         have t1:((k:Int)*4+(q:Int)*4).toNat=O:=by omega
         have x1:(0:Int)≤(k:Int)*4+(q:Int)*4:=by omega
         have x2:(k:Int)*4+(q:Int)*4≤268:=by omega
         have x3:¬268=O:=by omega
         obtain⟨LN,hLN⟩:∃x,268-O=x:=⟨_,rfl⟩
         have z0:0<LN:=by omega
         have z1:1<LN:=by omega
         have z2:2<LN:=by omega
         have z3:3<LN:=by omega
         have y0:(0:Int)<(LN:Int):=by omega
         have y1:(1:Int)<(LN:Int):=by omega
         have y2:(2:Int)<(LN:Int):=by omega
         have y3:(3:Int)<(LN:Int):=by omega
         have e0:=hid (EW.out O (by omega))
         have e1:=hid (EW.out (O+1) (by omega))
         have e2:=hid (EW.out (O+2) (by omega))
         have e3:=hid (EW.out (O+3) (by omega))
         have P1:=hid fun wx=>Gives.of_same (product_any (nth MM 0) (nth W O) (nth MM 2) (nth W (O+2)) wx)
         have P2:=hid fun wx=>Gives.of_same (product_any (nth MM 1) (nth W (O+1)) (nth MM 3) (nth W (O+3)) wx)
         have lP:(part 4 q f (nth V)).length=4:=part_length
         obtain⟨PV,hPV⟩:=exq (part 4 q f (nth V))
         rw [←hPV]at PS lP hm
         clear hPV hO
         go_wp2_with fail
         have R1:=hid fun wx (h:Ext wr wx)=>RW.out wx (hm.x.trans h)
         refine rgE 28 112 ?_
         simp only [zTa]
         repeat (first
             | (apply walk_is rfl rfl rfl
                · (intro wx hwx;(with_reducible apply gq_row1 ((R1.out) wx hwx));infer_instance;exact rfl;(first|exact e0.out|exact e1.out|exact e2.out|exact e3.out))
                · (simp only [zPu];rfl))
             | (apply walk_is rfl rfl rfl
                · (intro wx hwx;first|((with_reducible show qGl);exact zJ (hm.ext hwx))|(go_simp;(try go_bits);first|exact gives_same|exact gives_skip|with_reducible exact gives_call (P1.out wx)|with_reducible exact gives_call (P2.out wx)))
                · (simp only [zPu];rfl))
             | (apply walk_not rfl rfl rfl
                · (simp only [zPu];rfl)))
         intro wz hwz
         simp only [zZi]
         repeat (first|rw [fin_is]|(rw [fin_cons];intro _ _))
         rw [fin_nil]
         try (replace hm:=hm.ext hwz)
         simp only [zPu]
         go_wp2_with (first|((with_reducible show qSt);refine zD hm ?_;clear hm;intro w hm))
         go_roundw
         case rel=>exact⟨q+1,by omega,by go_num,by rw [←PS.out];exact hm⟩
         case measure=>simp [intOf]<;>omega
       · obtain rfl:q=4:=by omega
         have hd:decide (((4:Nat):Int)<4)=false:=decide_eq_false (by omega)
         rw [←SKk.out]at hm
         go_wp2_with fail
         go_step3
         refine⟨rfl,⟨_,_,_,_,_,_,_,_,_,_,_,_,_,_,_,_,_,_,_,_,_,_,_,_,_,_,_,_,_,_,_,_,_,_,_,_,_,_,_,_,_,_,_,_,_,_,_,_,_,_,_,_,_,_,_,_,_,_,_,_,_,_,_,_,_,_,_,_,_,_,_,_,_,_,_,_,_,_,_,_,_,_,_,_,_,_,_,_,_,_,_,_,_,_,_,_,_,_,_,_,_,_,_,_,_,_,_,_,_,rfl,⟨hm.drop,by have:=HA.out;omega,by have:=HLT.out;omega⟩⟩, ?_⟩
         simp [intOf]
         have:=HA.out
         have:=HLT.out
         have:=HLB.out
         omega
   · obtain rfl :k=n:=by omega
     have hd:decide (A<(L:Int))=false:=decide_eq_false (by rw [HLB.out];omega)
     have hd2:¬A<(L:Int):=by rw [HLB.out];omega
     have lS:=LS.out k
     obtain⟨V,hV⟩:=exq (S k)
     rw [←hV]at ER lS hm
     clear hV
     have lV:=lS
     go_wp2_with (first|((with_reducible show qLd);refine zB hm ?_))
     have P0:Hid (p8F (zer 32) V 0=zer 32):=hid rfl
     have PK:=hid fun k m (h:8≤m)=>(show over (p8F (zer 32) V k) (8*k) ((putL (nth V k) 8).take m)=p8F (zer 32) V (k+1)from by rw [List.take_of_length_le (by rw [putL_length];exact h)];rfl)
     have LP:=hid fun k (h:k≤4)=>(show(p8F (zer 32) V k).length=32 by rw [p8F_length _ _ _ (by rw [zer_length];omega),zer_length])
     obtain⟨F,hF⟩:∃F,F=p8F (zer 32) V:=⟨_,rfl⟩
     rw [←hF]at P0 PK LP ER
     clear hF
     rw [←P0.out]at hm
     go_loopw [99] (fun vi wr=>∃q:Nat,q≤4∧vi= .int .i64 q∧Own w0 wr [⟨gs,281,V.map v64⟩,⟨ga,121,(F q).map v8⟩,⟨g1,121,(F 0).map v8⟩]) (fun vi _=>4-(intOf vi).toNat)
     case atStart=>exact⟨0,by omega,rfl,hm⟩
     case round =>
       obtain⟨q,hq4,rfl,hm⟩:=hrel
       have lF:=LP.out q hq4
       by_cases hql:q<4
       · have hd:decide ((q:Int)<4)=true:=decide_eq_true (by omega)
         have hd2:(q:Int)<4:=by omega
         have PKq:=hid (PK.out q)
         obtain⟨FQ,hFQ⟩:=exq (F q)
         rw [←hFQ]at PKq lF hm
         clear hFQ
         have s0:(0:Int)≤8*(q:Int):=by omega
         have s1:8*(q:Int)≤32:=by omega
         have s2:(8*(q:Int)).toNat=8*q:=by omega
         have s3:¬32=8*q:=by omega
         go_wp2_with (first|((with_reducible apply wq_idx (l:=V) (k:=q) Tryz.underlying281);infer_instance;exact rfl;exact rfl;exact rfl;exact lS;exact hql)|(go_at_call 11;(with_reducible refine(putlong_any' _ _).mono ?_);rintro e_ w ⟨rfl,hx_⟩;replace hm:=hm.ext hx_;clear hx_)|((with_reducible show qSt);refine zE hm ?_;clear hm;intro w hm)|(((with_reducible show qAl);refine zG hm ?_);clear hm;(first|(have hx_:=g1;clear hx_;(first|(have hx_:=g2;clear hx_;intro gx_)|intro g2))|intro g1);intro w hm))
         refine rgE 4 112 ?_
         simp only [zTa]
         repeat (first
             | (apply walk_is rfl rfl rfl
                · (intro wx hwx;go_simp;(try go_bits);first|exact gives_same|exact gives_skip)
                · (simp only [zPu];rfl))
             | (apply walk_not rfl rfl rfl
                · (simp only [zPu];rfl)))
         intro wz hwz
         simp only [zZi]
         repeat (first|rw [fin_is]|(rw [fin_cons];intro _ _))
         rw [fin_nil]
         try (replace hm:=hm.ext hwz)
         simp only [zPu]
         ((with_reducible show wpList _ _ _ (Oper.mk _ (Op.call _) _ _ _ _::_) _ _);refine wpl_cp8 hm rfl rfl rfl rfl Tryz.underlying22 (by kernel_rfl) (by repeat (first|exact Swap.hd|assumption|apply Swap.tl)) (hm.rdB (l:=putL (nth V q) 8) .hd) (putL_length _ _).symm ((PKq.out _ (by omega))) (by omega) ?_;clear hm;intro w hm)
         go_wp2_with fail
         go_roundw
         case rel=>exact⟨q+1,by omega,by go_num,hm.drop⟩
         case measure=>simp [intOf]<;>omega
       · obtain rfl:q=4:=by omega
         have hd:decide (((4:Nat):Int)<4)=false:=decide_eq_false (by omega)
         rw [←ER.out]at hm
         have l0:=LP.out 0 (by omega)
         have l1:=Nat.le_of_eq l0
         have l2:=Nat.le_of_eq l0.symm
         have l3:=Nat.le_of_eq lR
         have l4:=Nat.le_of_eq lR.symm
         go_wp2_with (first|((with_reducible show qLd);refine zB hm ?_)|((with_reducible show qSt);refine zE hm ?_;clear hm;intro w hm))
         try simp only [Exit.jump]
         exact ret_own2 hm rfl rfl rfl (by infer_instance) (by repeat (first|exact Has.hd|assumption|apply Has.tl)) (by rw [List.length_map];exact lR) rfl ⟨rfl,hm.x⟩
 · intro hp
   go_wp2_with (first|(((with_reducible show qAl);refine zG hm ?_);clear hm;(first|(have hx_:=g1;clear hx_;(first|(have hx_:=g2;clear hx_;intro gx_)|intro g2))|intro g1);intro w hm))
   go_step3
   rename_i hK
   exact hK _ _ (hp _ _ ⟨_,_,_,_,_,_,_,_,_,_,_,_,_,_,_,_,_,_,_,_,_,_,_,_,_,_,_,_,_,_,_,_,_,_,_,_,_,_,_,_,_,_,_,_,_,_,_,_,_,_,_,_,_,_,_,_,_,_,_,_,_,_,_,_,_,_,_,_,_,_,_,_,_,_,_,_,_,_,_,_,_,_,_,_,_,_,_,_,_,_,_,_,_,_,_,_,_,_,_,_,_,_,_,_,_,_,_,_,_,rfl,⟨by rw [S0.out];exact hm,rfl,Nat.zero_le _⟩⟩)
def twL(n:Nat):List Byte:=putL (BitVec.ofNat 64 n) 8++putL 0#64 8
theorem v64_nat(n:Nat)(h:n<18446744073709551616):v64 (BitVec.ofNat 64 n)= .int .u64 (n:Int):=by
 show Value.int .u64 ((BitVec.ofNat 64 n).toNat:Int)=_
 rw [BitVec.toNat_ofNat,Nat.mod_eq_of_lt h]
theorem least3(g:Nat)(t:TypeId)(v:Value)(w0:World)(h:Row w0 g t [.int .i64 3,v]):Calls Tryz.prog 39 #[.pointer (some ⟨g,0,none⟩)] w0 fun e w'=>e= .returned (.int .i64 1)∧w0=w':=by
 have c1:w0.cell? ⟨g,0,none⟩=some (.int .i64 3):=by rw [row_cell h];rfl
 go_enter Tryz.func39,Tryz.ntmps39
 go_wp2
 go_ret
 exact⟨rfl,rfl⟩
theorem least12(g:Nat)(t:TypeId)(v:Value)(a:Int)(ha:a=1∨a=2)(w0:World)(h:Row w0 g t [.int .i64 a,v]):Calls Tryz.prog 39 #[.pointer (some ⟨g,0,none⟩)] w0 fun e w'=>e= .returned (.int .i64 16)∧w0=w':=by
 have c1:w0.cell? ⟨g,0,none⟩=some (.int .i64 a):=by rw [row_cell h];rfl
 rcases ha with rfl|rfl
 · go_enter Tryz.func39,Tryz.ntmps39
   go_wp2
   go_ret
   exact⟨rfl,rfl⟩
 · go_enter Tryz.func39,Tryz.ntmps39
   go_wp2
   go_ret
   exact⟨rfl,rfl⟩
theorem awrong_any(g:Nat)(p:Option Addr)(n c:Nat)(hn:16≤n)(w:World):Calls Tryz.prog 175 #[.pointer (some ⟨g,0,none⟩), .slice p n c] w fun e w'=>e= .returned (.int .i64 0)∧w=w':=by
 have d1:decide ((n:Int)<16)=false:=decide_eq_false (by omega)
 have d2:¬(n:Int)<16:=by omega
 go_enter Tryz.func175,Tryz.ntmps175
 go_wp2
 go_ret
 exact⟨rfl,rfl⟩
end Go.Proofs.YtneacgpmjlocjaaGreatDoor
