/-
  Texts of the program, walked, and plain ones. Conditions: those written in each theorem.
-/
import Derived.Test.YtneacgpmjlocjaaGreatDoorZTopWrapped0
import Derived.Test.YtneacgpmjlocjaaGreatDoorZTopWrapped8
import Derived.Test.YtneacgpmjlocjaaGreatDoorZTopWrapped12
import Derived.Test.YtneacgpmjlocjaaGreatDoorZTopWrapped9
import Derived.Lib.AppendZerosOnto
import Derived.Test.YtneacgpmjlocjaaGreatDoorZTopWrapped5
import Derived.Test.YtneacgpmjlocjaaGreatDoorZTopWrapped2
import Derived.Test.YtneacgpmjlocjaaGreatDoorZTopWrapped4
import Derived.Test.YtneacgpmjlocjaaGreatDoorZTopWrapped3
import Derived.Test.YtneacgpmjlocjaaGreatDoorZTopWrapped11
set_option linter.unusedSimpArgs false
set_option linter.unusedVariables false
set_option maxHeartbeats 16000000
open Go.Lib (hid)
namespace Go.Proofs.YtneacgpmjlocjaaGreatDoor
open Go Go.RowKit
set_option maxRecDepth 100000
theorem wq_growZ {ops:Array Oper}{Q:Exit→Act→World→Prop}{rest:List Oper}{o:Oper}{a:Act}{w0 w:World}{L:List Blk}{s x:Operand}{N:Int}(n:Nat)(h0:0<n)(hn:n≤70368744177664)(hm:Own w0 w L)(hgd:o.guard=none)(ho:o.op= .call {callee:= .builtin .append,args:= #[s,x],argTypes:= #[22,3]})(hs:a.eval s= .slice none 0 0)(hx:a.eval x= .int .i64 N)(hN:N=(n:Int))
   (hr:∀g w' G cur,n≤G→G≤maxLen→cur.length=G→Own w0 w' (⟨g,5,cur⟩::L)→wpList Tryz.prog ops Q rest (a.put o.dst (.slice (some ⟨g,0,none⟩) n G)) w'):wpList Tryz.prog ops Q (o::rest) a w:=by
 subst hN
 obtain⟨i,hi,hz,hsz,hb⟩:=info_byte
 refine wpList_plain hgd fun K hK=> ?_
 have h:=Lib.run_append_grow_zeros (P:=Tryz.prog) w 22 3 o.type 5 i (.int .u8 0) .i64 .i64 Tryz.underlying22 Tryz.underlying3 hi hz none 0 0 [] (by simp [Builtin.firstCells]) n h0 (by omega) (by omega) (by omega) (by rw [hb];omega) (by rw [hb,Nat.zero_add,nextslicecap_zero h0];omega)
 rw [Nat.zero_add]at h
 have hG:=grownCap_ge w n 0 5
 have hM:=grownCap_le_maxLen w n 0 5 (by unfold maxLen;omega)
 obtain⟨G,hGe⟩:∃G,G=grownCap w n 0 5:=⟨_,rfl⟩
 rw [←hGe]at h hG hM
 obtain⟨X,hX⟩:∃X,X=([]:List Value).toArray++Builtin.zeroCells (Value.int .u8 0).cells n++Builtin.zeroCells (Value.int .u8 0).cells (G-n):=⟨_,rfl⟩
 rw [←hX]at h
 have hl:X.toList.length=G:=by
   rw [hX]
   simp only [Array.length_toList,Array.size_append,size_zeroCells]
   simp [Value.cells]
   omega
 have ho2:=hm.drew.alloc 5 X.toList
 rw [Array.toArray_toList]at ho2
 unfold Oper.wp
 simp only [execOp,ho,resolve,invoke,builtin,hs,hx,Sem.run_bind,Sem.run_pure,Result.andThen_ok,List.map_toArray,mCo,mNi,h]
 exact hK _ _ (hr _ _ G X.toList hG hM hl ho2)
theorem grow_any(n:Nat)(hn:n≤70368744177664)(w0:World):Calls Tryz.prog 63 #[.slice none 0 0, .int .i64 (n:Int)] w0 fun e w'=>∃v M,e= .returned v∧Own w0 w' (M++[])∧SlO M 5 1 v 0 []:=by
 have hm:=Own.start w0
 have i0:(0:Int)≤(n:Int):=by omega
 have i1:(n:Int)≤70368744177664:=by omega
 by_cases h0:n=0
 · subst h0
   go_enter Tryz.func63,Tryz.ntmps63
   go_wp2_with fail
   go_ret
   exact⟨_,[],rfl,hm,SlO.nil _ _⟩
 · have hp:(0:Int)<(n:Int):=by omega
   have hp2:0<n:=by omega
   go_enter Tryz.func63,Tryz.ntmps63
   go_wp2_with (first|((with_reducible show wpList _ _ _ (Oper.mk _ (Op.call _) _ _ _ _::_) _ _);refine wq_growZ n hp2 hn hm rfl rfl rfl rfl rfl ?_;clear hm;intro g1 w G cur hG hM hcur hm))
   go_ret
   exact⟨_,_,rfl,hm,SlO.room g1 _ 1 G cur (by omega) hM⟩
theorem flat_step(ls:List (List Byte))(k:Nat)(h:k<ls.length):(ls.take (k+1)).flatten=(ls.take k).flatten++ls.getD k []:=by
 rw [List.take_succ_eq_append_getElem h,List.flatten_append,List.getD_eq_getElem?_getD,List.getElem?_eq_getElem h];simp
theorem flat_le(ls:List (List Byte))(k:Nat):(ls.take k).flatten.length≤ls.flatten.length:=by
 have:=congrArg (fun l=>l.flatten.length) (List.take_append_drop k ls)
 simp only [List.flatten_append,List.length_append]at this
 omega
theorem concat_any(ls:List (List Byte))(p:Option Addr)(c:Nat)(w0:World)(hr:RdR w0 p ls)(hl:ls.length≤1000000)(hf:ls.flatten.length≤35184372088832):Calls Tryz.prog 43 #[.slice p ls.length c] w0 fun e w'=>∃v M,e= .returned v∧Own w0 w' (M++[])∧SlO M 5 1 v ls.flatten.length (ls.flatten.map v8):=by
 have hm:=Own.start w0
 have HR:=hid hr
 have FS:=hid (flat_step ls)
 have FL:=hid (flat_le ls)
 have FE:Hid ((ls.take ls.length).flatten=ls.flatten):=hid (by rw [List.take_length])
 have F0:Hid ((ls.take 0).flatten=[]):=hid rfl
 have HF:=hid hf
 have GR:=hid fun (n:Nat)(hn:n≤70368744177664) w=>grow_any n hn w
 obtain⟨F,hF⟩:∃F:Nat→List Byte,F=fun k=>(ls.take k).flatten:=⟨_,rfl⟩
 have FS2:Hid (∀k,k<ls.length→F (k+1)=F k++ls.getD k []):=hid (by rw [hF];exact FS.out)
 have FL2:Hid (∀k,(F k).length≤ls.flatten.length):=hid (by rw [hF];exact FL.out)
 have FE2:Hid (F ls.length=ls.flatten):=hid (by rw [hF];exact FE.out)
 have F02:Hid (F 0=[]):=hid (by rw [hF];exact F0.out)
 clear hF FS FL FE F0 hr hf
 obtain⟨N,hN⟩:∃N,N=ls.length:=⟨_,rfl⟩
 rw [←hN]at FS2 FE2 hl⊢
 have HN:=hid hN
 clear hN
 go_enter Tryz.func43,Tryz.ntmps43
 go_wp2_with fail
 go_loopw [3,11] (fun va vi wr=>∃k:Nat,k≤N∧vi= .int .i64 k∧va= .int .i64 ((F k).length:Int)∧Own w0 wr []) (fun _ vi _=>N-(intOf vi).toNat)
 case atStart=>exact⟨0,by omega,rfl,by rw [F02.out];rfl,hm⟩
 case round=>
   obtain⟨k,hk,rfl,rfl,hm⟩:=hrel
   by_cases hlt:k<N
   · have hd:decide ((k:Int)<(N:Int))=true:=decide_eq_true (by omega)
     have hd2:(k:Int)<(N:Int):=by omega
     obtain⟨a,rfl,q,d,hcell,_,_,_⟩:=(HR.out.ext hm.x).row k (by rw [←HN.out];exact hlt)
     have hsum:(F (k+1)).length=(F k).length+(ls.getD k []).length:=by rw [FS2.out k hlt,List.length_append]
     have hle:=FL2.out (k+1)
     have hff:=HF.out
     obtain⟨TK,hTK⟩:=exq ((F k).length)
     obtain⟨LK,hLK⟩:=exq ((ls.getD k []).length)
     rw [←hTK,←hLK]at hsum
     rw [←hLK]at hcell
     rw [←hTK]
     have HS:=hid hsum
     have i1:(TK:Int)+(LK:Int)≤35184372088832:=by omega
     have i2:(0:Int)≤(TK:Int)+(LK:Int):=by omega
     clear hsum hle hff hTK hLK
     go_wp2_with fail
     go_roundw
     case rel=>exact⟨k+1,by omega,by go_num,by rw [HS.out];go_num,hm⟩
     case measure=>simp [intOf]<;>omega
   · obtain rfl:k=N:=by omega
     have hd:decide ((k:Int)<(k:Int))=false:=decide_eq_false (by omega)
     obtain⟨TN,hTN⟩:=exq ((F k).length)
     rw [←hTN]
     have hff:=HF.out
     have hTN2:TN=ls.flatten.length:=by rw [hTN,FE2.out]
     have GRn:=hid (GR.out TN (by omega))
     clear hTN hff hTN2
     go_wp2_with fail
     refine(GRn.out _).mono ?_
     rintro e_ w ⟨v,M,rfl,hm1,hso⟩
     replace hm:=hm1.rebase hm.x
     clear hm1
     obtain⟨pv,cv,rfl⟩:=hso.form
     have HSO:=hid hso
     clear hso
     go_wp2_with fail
     go_loopw [6,27] (fun va vi wr=>∃(i:Nat)(r:Option Addr)(d:Nat)(M:List Blk),i≤k∧vi= .int .i64 i∧va= .slice r (F i).length d∧SlO M 5 1 (.slice r (F i).length d) (F i).length ((F i).map v8)∧Own w0 wr (M++[])) (fun _ vi _=>k-(intOf vi).toNat)
     case atStart=>exact⟨0,pv,cv,M,by omega,rfl,by rw [F02.out];rfl,by rw [F02.out];exact HSO.out,hm⟩
     case round=>
       obtain⟨i,r,d,M2,hi,rfl,rfl,hso,hm⟩:=hrel
       have HSO2:=hid hso
       by_cases hlt2:i<k
       · have hd:decide ((i:Int)<(k:Int))=true:=decide_eq_true (by omega)
         have hd2:(i:Int)<(k:Int):=by omega
         obtain⟨a,rfl,q,e,hcell,hrd,hle2,_⟩:=(HR.out.ext hm.x).row i (by rw [←HN.out];exact hlt2)
         have HS2:=hid (FS2.out i hlt2)
         have hsum:(F (i+1)).length=(F i).length+(ls.getD i []).length:=by rw [FS2.out i hlt2,List.length_append]
         have hle:=FL2.out (i+1)
         have hff:=HF.out
         have LX:=hid (show((ls.getD i []).map v8).length=(ls.getD i []).length*1 by rw [List.length_map,Nat.mul_one])
         obtain⟨X,hX⟩:=exq (ls.getD i [])
         rw [←hX]at hcell hrd hle2 HS2 hsum LX
         obtain⟨FI,hFI⟩:=exq (F i)
         rw [←hFI]at HSO2 HS2 hsum⊢
         have HRD:=hid hrd
         have HSUM:=hid hsum
         have FIT:=hid (show(FI.length+X.length)*(1+1)≤140737488355328 by omega)
         clear hso hX hFI hsum hle hff hrd
         go_wp2_with (first|((with_reducible show wpList _ _ _ (Oper.mk _ (Op.call _) _ _ _ _::_) _ _);refine wplO_app (M:=M2) (R:=_) (ds:=X.map v8) hm HSO2.out rfl rfl rfl rfl Tryz.underlying22 LX.out (cells_b HRD.out) (one_map _) FIT.out ?_;clear hm;intro v1 w M1 hm hs1;obtain⟨p_v1,c_v1,rfl⟩:=hs1.form))
         go_roundw
         case rel=>exact⟨i+1,_,_,M1,by omega,by go_num,by rw [HSUM.out],by rw [HSUM.out,HS2.out,List.map_append];exact hs1,hm⟩
         case measure=>simp [intOf]<;>omega
       · obtain rfl:i=k:=by omega
         have hd:decide ((i:Int)<(i:Int))=false:=decide_eq_false (by omega)
         go_wp2_with fail
         go_ret
         rw [FE2.out]at hso
         refine⟨.slice r (F i).length d,M2,rfl,hm, ?_⟩
         rw [FE2.out]
         exact hso
theorem ret_own3 {P:Program}{w0 w:World}{L:List Blk}{T t:TypeId}{g:Nat}{cs:List Value}{a:Act}{fn:Func}{R:Ending→World→Prop}{p u:Tmp}{n:Nat}{v:Value}(hm:Own w0 w L)(h:fn.results= #[.tmp u, .cell p T])(hp:a.tmps.getD p undef= .pointer (some ⟨g,0,none⟩))(hu:a.tmps.getD u undef=v)(hT:Many P T n)(hh:Has L ⟨g,t,cs⟩)(hn:cs.length=n)
   (hf:a.defers=[]) (hR:R (.returned (.tuple #[v, .agg cs.toArray])) w):bodyPost P fn R .ret a w:=by
 obtain⟨d,hd1,hd2⟩:=Option.map_eq_some_iff.1 hT.row
 subst hu
 refine bodyPost_ret (v:= .tuple #[a.tmps.getD u undef, .agg cs.toArray]) ?_ hf hR
 have hl:=run_loadVar_row w g t T cs.toArray (0,0) d (hm.row hh) hd1 (by cases d<;>simp_all) (by rw [List.size_toArray,hn];exact hT.size)
 have hp':a.tmps[p]?.getD undef= .pointer (some ⟨g,0,none⟩):=by simpa using hp
 simp [results,h,hp',asAddr,hl]
def rgt(m:List Byte)(n:Nat):List Byte:=(m.drop n).take 16
theorem aparts_any(m:List Byte)(n:Nat)(hl:m.length=n+16)(hn:n<400)(p:Option Addr)(c:Nat)(hc:n+16≤c)(w0:World)(hr:RdB w0 p m):
   Calls Tryz.prog 176 #[.slice p (n+16) c] w0 fun e w'=>∃v M R,e= .returned (.tuple #[v,WV (num (rgt m n) 0 8) (num (rgt m n) 8 8)])∧Own w0 w' (M++R)∧SlO M 5 1 v n ((m.take n).map v8):=by
 have hm:=Own.start w0
 obtain⟨f1,f2,f3⟩:=fl_16_at n hn
 have cv:=conv_if f2.of
 have O1:=hid fun w (hx:Ext w0 w)=>(show Calls Tryz.prog 149 #[.slice p (n+16) c, .complex .f64 0 (flv n)] w fun e w'=>∃v M,e= .returned (.tuple #[v, .bool true])∧Own w w' (M++[])∧SlO M 5 1 v n ((m.take n).map v8)from by
   have:=of_own m p c 0 0 (flv n) n (flv (n+16)) (by rw [hl];exact f1) (by rw [hl];exact f2) (by omega) (by omega) (by omega) w (hr.ext hx)
   rwa [hl,dZe]at this)
 have O2:=hid fun w (hx:Ext w0 w)=>(show Calls Tryz.prog 149 #[.slice p (n+16) c, .complex .f64 (flv n) 4625196817309499392] w fun e w'=>∃v M,e= .returned (.tuple #[v, .bool true])∧Own w w' (M++[])∧SlO M 5 1 v 16 ((rgt m n).map v8)from by
   have:=of_own m p c (flv n) n 4625196817309499392 16 (flv (n+16)) (by rw [hl];exact f2) (by rw [hl];exact f3) (by omega) (by omega) (by omega) w (hr.ext hx)
   rwa [hl]at this)
 have lR:(rgt m n).length=16:=by rw [rgt,List.length_take,List.length_drop];omega
 have lB:(m.take n).length=n:=by rw [List.length_take];omega
 obtain⟨Rg,hRg⟩:=exq (rgt m n)
 obtain⟨Bk,hBk⟩:=exq (m.take n)
 rw [←hRg]at O2 lR⊢
 rw [←hBk]at O1 lB⊢
 have LD:=hid fun (w:World)(q:Option Addr)(d:Nat)(h:RdB w q Rg)=>(show Gives Tryz.prog 183 #[.slice q 16 d] w (WV (num Rg 0 8) (num Rg 8 8))from by
   have:=load_any Rg q d w h (by omega);rwa [lR]at this)
 have LR:=hid lR
 have LB:=hid lB
 obtain⟨FN,hFN⟩:=exq (flv n)
 rw [←hFN]at cv O1 O2
 clear f1 f2 f3 hr hl lR lB hRg hBk hFN
 go_enter Tryz.func176,Tryz.ntmps176
 go_wp2_with (first|(go_at_call 149;(with_reducible refine(O1.out _ hm.x).mono ?_);rintro e_ w ⟨v1,M1,rfl,hm1,hs1⟩;rw [List.append_nil]at hm1;replace hm:=hm.join hm1;obtain⟨p1,c1,rfl⟩:=hs1.form;clear hm1)|(go_at_call 149;(with_reducible refine(O2.out _ hm.x).mono ?_);rintro e_ w ⟨v2,M2,rfl,hm1,hs2⟩;rw [List.append_nil]at hm1;replace hm:=hm.join hm1;obtain⟨p2,c2,rfl⟩:=hs2.form;clear hm1)|(go_at_call 183;(with_reducible refine(LD.out _ _ _ (slo_rdZ hs2 hm)).mono ?_);rintro e_ w ⟨rfl,hx_⟩;replace hm:=hm.ext hx_;clear hx_)|((with_reducible show qSt);refine zE hm ?_;clear hm;intro w hm)|(((with_reducible show qAl);refine zG hm ?_);clear hm;intro gx_;intro w hm))
 exact ret_own3 hm rfl rfl rfl (by infer_instance) (by repeat (first|exact Has.hd|assumption|apply Has.tl|apply Has.app)) rfl rfl ⟨_,M1,_,rfl,hm.dropN,hs1⟩
section
variable {P:Program} {ops:Array Oper} {Q:Exit→Act→World→Prop} {rest:List Oper} {dst:Option Tmp} {ty:TypeId} {pos:String} {aft:Array Edge} {gd:Option (Nat×Bool)} {a:Act} {w0 w:World} {L:List Blk} {T e:TypeId}
theorem wq_bs2g {u0 u1:Value}{x0 x1:Operand}{cs:List Value}(hb:∀w,(Instr.buildSlice T 2 #[(0,u0),(1,u1)]).run P w= .ok (.slice (some ⟨w.heap.size,0,none⟩) 2 2) (w.alloc (.cells cs.toArray e)))(hm:Own w0 w L)(hgd:Region.wanted (Oper.mk dst (.buildSlice T 2 #[(0,x0),(1,x1)]) ty pos aft gd) (yielded ops a.tmps)=true)(hx0:a.eval x0=u0)(hx1:a.eval x1=u1)(hr:∀g w',Own w0 w' (⟨g,e,cs⟩::L)→wpList P ops Q rest (a.put dst (.slice (some ⟨g,0,none⟩) 2 2)) w'):wpList P ops Q ((Oper.mk dst (.buildSlice T 2 #[(0,x0),(1,x1)]) ty pos aft gd)::rest) a w:=
 wpList_want hgd fun K hK=>by
   unfold Oper.wp execOp
   simp [hx0,hx1,hb,Sem.run_bind,Result.andThen_ok,Sem.run_pure]
   exact hK _ _ (hr _ _ (hm.alloc e cs))
theorem wq_bs3g {u0 u1 u2:Value}{x0 x1 x2:Operand}{cs:List Value}(hb:∀w,(Instr.buildSlice T 3 #[(0,u0),(1,u1),(2,u2)]).run P w= .ok (.slice (some ⟨w.heap.size,0,none⟩) 3 3) (w.alloc (.cells cs.toArray e)))(hm:Own w0 w L)(hgd:Region.wanted (Oper.mk dst (.buildSlice T 3 #[(0,x0),(1,x1),(2,x2)]) ty pos aft gd) (yielded ops a.tmps)=true)(hx0:a.eval x0=u0)(hx1:a.eval x1=u1)(hx2:a.eval x2=u2)(hr:∀g w',Own w0 w' (⟨g,e,cs⟩::L)→wpList P ops Q rest (a.put dst (.slice (some ⟨g,0,none⟩) 3 3)) w'):wpList P ops Q ((Oper.mk dst (.buildSlice T 3 #[(0,x0),(1,x1),(2,x2)]) ty pos aft gd)::rest) a w:=
 wpList_want hgd fun K hK=>by
   unfold Oper.wp execOp
   simp [hx0,hx1,hx2,hb,Sem.run_bind,Result.andThen_ok,Sem.run_pure]
   exact hK _ _ (hr _ _ (hm.alloc e cs))
end
theorem bs_s2(p q:Option Addr)(n c m d:Nat)(w:World):(Instr.buildSlice 48 2 #[(0, .slice p n c),(1, .slice q m d)]).run Tryz.prog w= .ok (.slice (some ⟨w.heap.size,0,none⟩) 2 2) (w.alloc (.cells [.slice p n c, .slice q m d].toArray 22)):=by kernel_rfl
theorem bs_s3(p q r:Option Addr)(n c m d k e:Nat)(w:World):(Instr.buildSlice 48 3 #[(0, .slice p n c),(1, .slice q m d),(2, .slice r k e)]).run Tryz.prog w= .ok (.slice (some ⟨w.heap.size,0,none⟩) 3 3) (w.alloc (.cells [.slice p n c, .slice q m d, .slice r k e].toArray 22)):=by kernel_rfl
theorem rdR2 {w:World}{g:Nat}{t:TypeId}{p q:Option Addr}{a b:List Byte}{c d:Nat}(h:Row w g t [.slice p a.length c, .slice q b.length d])(ha:RdB w p a)(hb:RdB w q b)(hc:a.length≤c)(hd:b.length≤d)(la:a.length≤maxLen)(lb:b.length≤maxLen):RdR w (some ⟨g,0,none⟩) [a,b]:=by
 refine⟨fun _=>rfl,fun i hi=> ?_⟩
 have hcell:∀k,w.cell? (((some (⟨g,0,none⟩:Addr)).getD default).add k)=w.cell? ⟨g,k,none⟩:=fun k=>by rw [show((some (⟨g,0,none⟩:Addr)).getD default).add k=⟨g,k,none⟩from by simp [Addr.add];exact fun h=>h.symm]
 match i,hi with
 |0,_=>exact⟨p,c,(hcell 0).trans (row_cell h 0),ha,hc,la⟩
 |1,_=>exact⟨q,d,(hcell 1).trans (row_cell h 1),hb,hd,lb⟩
theorem rdR3 {w:World}{g:Nat}{t:TypeId}{p q r:Option Addr}{a b x:List Byte}{c d e:Nat}(h:Row w g t [.slice p a.length c, .slice q b.length d, .slice r x.length e])(ha:RdB w p a)(hb:RdB w q b)(hx:RdB w r x)(hc:a.length≤c)(hd:b.length≤d)(he:x.length≤e)(la:a.length≤maxLen)(lb:b.length≤maxLen)(lx:x.length≤maxLen):RdR w (some ⟨g,0,none⟩) [a,b,x]:=by
 refine⟨fun _=>rfl,fun i hi=> ?_⟩
 have hcell:∀k,w.cell? (((some (⟨g,0,none⟩:Addr)).getD default).add k)=w.cell? ⟨g,k,none⟩:=fun k=>by rw [show((some (⟨g,0,none⟩:Addr)).getD default).add k=⟨g,k,none⟩from by simp [Addr.add];exact fun h=>h.symm]
 match i,hi with
 |0,_=>exact⟨p,c,(hcell 0).trans (row_cell h 0),ha,hc,la⟩
 |1,_=>exact⟨q,d,(hcell 1).trans (row_cell h 1),hb,hd,lb⟩
 |2,_=>exact⟨r,e,(hcell 2).trans (row_cell h 2),hx,he,lx⟩
theorem ajoined_any(b:List Byte)(lo hi:BitVec 64)(hb:b.length≤1000000)(q:Option Addr)(d:Nat)(hd:b.length≤d)(w0:World)(hr:RdB w0 q b):
   Calls Tryz.prog 179 #[.slice q b.length d,WV lo hi] w0 fun e w'=>∃v M R,e= .returned v∧Own w0 w' (M++R)∧SlO M 5 1 v (b.length+16) ((b++(putL lo 8++putL hi 8)).map v8):=by
 have hm:=Own.start w0
 have BB:=hid fun w=>bytes_any lo hi w
 have lP:(putL lo 8++putL hi 8).length=16:=by rw [List.length_append,putL_length,putL_length]
 obtain⟨Pb,hPb⟩:=exq (putL lo 8++putL hi 8)
 rw [←hPb]at BB lP⊢
 have BS:=hid fun g=>bs_s2 q (some ⟨g,0,none⟩) b.length d 16 16
 have RR:=hid fun (g g2:Nat)(t:TypeId)(w:World)(hx:Ext w0 w)(h:Row w g t [.slice q b.length d, .slice (some ⟨g2,0,none⟩) 16 16])(h2:RdB w (some ⟨g2,0,none⟩) Pb)=>(rdR2 (a:=b) (b:=Pb) (by rw [lP];exact h) (hr.ext hx) h2 hd (by omega) (by unfold maxLen;omega) (by unfold maxLen;omega))
 have lF:[b,Pb].flatten.length=b.length+16:=by simp [lP]
 have eF:Hid ([b,Pb].flatten=b++Pb):=hid (by simp)
 have CC:=hid fun (w:World)(p:Option Addr)(h:RdR w p [b,Pb])=>(show Calls Tryz.prog 43 #[.slice p 2 2] w fun e w'=>∃v M,e= .returned v∧Own w w' (M++[])∧SlO M 5 1 v (b.length+16) ((b++Pb).map v8)from by
   have:=concat_any [b,Pb] p 2 w h (by simp) (by rw [lF];omega)
   rwa [lF,eF.out]at this)
 have h1:=Nat.le_of_eq lP
 have h2:=Nat.le_of_eq lP.symm
 obtain⟨BL,hBL⟩:=exq (b.length)
 rw [←hBL]at BS RR CC⊢
 clear hr hPb hb hd hBL lF
 go_enter Tryz.func179,Tryz.ntmps179
 go_wp2_with (first|(go_at_call 186;(with_reducible refine(BB.out _).mono ?_);rintro e_ w ⟨rfl,hx_⟩;replace hm:=hm.ext hx_;clear hx_)|((with_reducible apply wq_bs2g (BS.out _) hm);exact rfl;exact rfl;exact rfl;clear hm;intro gb w hm)|(go_at_call 43;(with_reducible refine(CC.out _ _ (RR.out gb g2 _ _ hm.x (hm.row .hd) (hm.rdB (g:=g2) (l:=Pb) (.tl .hd)))).mono ?_);rintro e_ w ⟨v2,M2,rfl,hm1,hs2⟩;rw [List.append_nil]at hm1;replace hm:=hm.join hm1;clear hm1)|((with_reducible show qLd);refine zB hm ?_)|((with_reducible show qSt);refine zE hm ?_;clear hm;intro w hm)|((first|((with_reducible show qAl);refine zG hm ?_)|((with_reducible show qBx);refine zH hm ?_));clear hm;(first|(have hx_:=g1;clear hx_;(first|(have hx_:=g2;clear hx_;intro gx_)|intro g2))|intro g1);intro w hm))
 go_ret
 exact⟨_,M2,_,rfl,hm,hs2⟩
theorem wpl_cpC {P:Program}{ops:Array Oper}{Q:Exit→Act→World→Prop}{rest:List Oper}{o:Oper}{a:Act}{w0 w:World}{L L':List Blk}{g k:Nat}{t:TypeId}{x y:Operand}{cs cs':List Value}{dT sT elem:TypeId}{dLen dCap sCap n:Nat}{p:Option Addr}{l:List Byte}(hm:Own w0 w L)(hgd:Region.wanted o (yielded ops a.tmps)=true)(ho:o.op= .call {callee:= .builtin .copy,args:= #[x,y],argTypes:= #[dT,sT]})(hx:a.eval x= .slice (some ⟨g,k,Option.none⟩) dLen dCap)(hy:a.eval y= .slice p n sCap)
   (hu:P.underlying dT=some (.slice elem)) (he:(P.info? elem).map (·.size)=some 1) (hs:Swap L ⟨g,t,cs⟩ ⟨g,t,cs'⟩ L') (hr:RdB w p l) (hn:n=l.length) (hc:cs.take k++(l.take dLen).map v8++cs.drop (k+min l.length dLen)=cs') (hfit:k+min l.length dLen≤cs.length)
   (h:∀w',Own w0 w' L'→wpList P ops Q rest (a.put o.dst (goInt (min l.length dLen:Nat))) w'):wpList P ops Q (o::rest) a w:=
 wpList_want hgd fun K hK=>by
   subst hn
   have hrun :(Builtin.copy_ #[dT,sT] o.type #[.slice (some ⟨g,k,Option.none⟩) dLen dCap, .slice p l.length sCap]).run P w= .ok (goInt (min l.length dLen:Nat)) (w.setRow g cs'.toArray):=by
     cases p with
     | none=>
       have:=hr.none;subst this
       obtain⟨i,hi1,hi2⟩:=Option.map_eq_some_iff.1 he
       have e:cs'=cs:=by rw [←hc];simp
       rw [e,setRow_self w g _ t (0,0) (hm.row hs.has)]
       simp [Builtin.copy_,run_underlying hu,Builtin.lenOf,Builtin.firstCells,sizeOf,typeInfo,hi1,storeCells]
     | some ad=>
       have hl:((l.take dLen).map v8).length=min l.length dLen:=by rw [List.length_map,List.length_take,Nat.min_comm]
       have h:=run_copy_row (P:=P) w dT sT o.type elem g k dLen dCap ad l.length sCap cs.toArray t ((l.take dLen).map v8) hu he (hm.row hs.has) hl
         (fun j v hj=>by
           simp only [List.getElem?_map,List.getElem?_take]at hj
           by_cases hjd:j<dLen
           · rw [if_pos hjd]at hj
             obtain⟨x,hx,rfl⟩:=Option.map_eq_some_iff.1 hj
             obtain⟨hlt,hx'⟩:=List.getElem?_eq_some_iff.1 hx
             have:=hr.2 j hlt
             simp only [Option.getD_some]at this
             rw [this];simp [hlt,hx']
           · rw [if_neg hjd]at hj;simp at hj)
         (by rw [hl];simpa using hfit) (one_v8 _)
       rw [h,hl]
       simp only [List.toList_toArray]at hc⊢
       rw [hc]
   unfold Oper.wp execOp
   simp only [ho,resolve,invoke,builtin,Sem.run_bind,Sem.run_pure,Result.andThen_ok,List.map_toArray,mCo,mNi,hx,hy,hrun]
   exact hK _ _ (h _ (hm.turn hs))
theorem wq_st1e {P:Program}{ops:Array Oper}{Q:Exit→Act→World→Prop}{rest:List Oper}{dst:Option Tmp}{ty:TypeId}{pos:String}{aft:Array Edge}{gd:Option (Nat×Bool)}{a:Act}{w0 w:World}{L L':List Blk}{T t:TypeId}{x y:Operand}{g k:Nat}{cs cs':List Value}{v:Value}(he:cs.set k v=cs')(hk:k<cs.length)(hm:Own w0 w L)(hgd:Region.wanted (Oper.mk dst (.store T x y) ty pos aft gd) (yielded ops a.tmps)=true)(hT:One1 P T)(hx:a.eval x= .pointer (some ⟨g,k,none⟩))(hy:a.eval y=v)(hval:v.cells= #[v])(h1:v.oneCell'=true)(hs:Swap L ⟨g,t,cs⟩ ⟨g,t,cs'⟩ L')(hr:∀w',Own w0 w' L'→wpList P ops Q rest (a.put dst undef) w'):wpList P ops Q ((Oper.mk dst (.store T x y) ty pos aft gd)::rest) a w:=by
 subst he
 exact wq_st1 hm hgd hT hx hy hval h1 hs hk hr
theorem psC_read(b v:List (BitVec 32))(r:List Byte)(m:Nat)(hb:b.length=5)(hv:v.length=5)(hr:r.length=16):((psC b v r m).drop 10).take 16=r.map v8:=by
 have e:(psC b v r m).drop 10=r.map v8++[.int .i64 (m:Int)]:=by
   rw [psC,←List.append_assoc];exact List.drop_left' (by simp [hb,hv])
 rw [e];exact List.take_left' (by simp [hr])
theorem psC_rest(b v:List (BitVec 32))(r l:List Byte)(m:Nat)(hb:b.length=5)(hv:v.length=5)(hr:r.length=16)(hl:l.length≤16):(psC b v r m).take 10++l.map v8++(psC b v r m).drop (10+l.length)=psC b v (over r 0 l) m:=by
 have e1:(psC b v r m).take 10=b.map v32++v.map v32:=by
   rw [psC,←List.append_assoc];exact List.take_left' (by simp [hb,hv])
 have e2:(psC b v r m).drop (10+l.length)=(r.drop l.length).map v8++[.int .i64 (m:Int)]:=by
   rw [←List.drop_drop,psC,←List.append_assoc,List.drop_left' (by simp [hb,hv]),List.drop_append_of_le_length (by rw [List.length_map];omega),List.map_drop]
 rw [e1,e2,psC,over,tZe,List.nil_append,Nat.zero_add,List.map_append]
 simp only [List.append_assoc]
theorem psC_setm(b v:List (BitVec 32))(r:List Byte)(m n:Nat)(hb:b.length=5)(hv:v.length=5)(hr:r.length=16):(psC b v r m).set 26 (.int .i64 (n:Int))=psC b v r n:=by
 rw [psC,psC,List.set_append_right _ _ (by simp [hb]),List.set_append_right _ _ (by simp [hb,hv]),List.set_append_right _ _ (by simp [hb,hv,hr])]
 simp [hb,hv,hr]
def pvF(y:List (BitVec 32))(b:List Byte)(v:List (BitVec 32)):Nat→List (BitVec 32)
 |0=>v
 |k+1=>timL (plsL (pvF y b v k) (ofL ((b.drop (16*k)).take 16) 1#32)) y
theorem pvF_length(y:List (BitVec 32))(b:List Byte)(v:List (BitVec 32))(k:Nat)(h:v.length=5):(pvF y b v k).length=5:=by
 cases k with
 |zero=>exact h
 |succ k=>exact timL_length _ _
def rsF(r b:List Byte):Nat→List Byte
 |0=>r
 |k+1=>(b.drop (16*k)).take 16
theorem rsF_length(r b:List Byte)(k:Nat)(h:r.length=16)(hk:16*k≤b.length):(rsF r b k).length=16:=by
 cases k with
 |zero=>exact h
 |succ k=>rw [rsF,List.length_take,List.length_drop];omega
def pwR(r b:List Byte):List Byte:=over (rsF r b (b.length/16)) 0 (b.drop (16*(b.length/16)))
theorem pwR_length(r b:List Byte)(h:r.length=16):(pwR r b).length=16:=by
 have:=rsF_length r b (b.length/16) h (by omega)
 rw [pwR,over_length _ _ _ (by rw [List.length_drop];omega),this]
theorem pwrite_any(g:Nat)(y v:List (BitVec 32))(r b:List Byte)(hy:y.length=5)(hv:v.length=5)(hr:r.length=16)(hbl:b.length≤70368744177000)(p:Option Addr)(c:Nat)(hc:b.length≤c)(w0 w:World)(R:List Blk)(hrd:∀wx X,Own w0 wx (X::R)→RdB wx p b)(hm:Own w0 w (⟨g,279,psC y v r 0⟩::R)):
   Calls Tryz.prog 191 #[.pointer (some ⟨g,0,none⟩), .slice p b.length c] w fun e w'=>e= .returned (.tuple #[])∧Own w0 w' (⟨g,279,psC y (pvF y b v (b.length/16)) (pwR r b) (b.length%16)⟩::R):=by
 have HRD:=hid hrd
 have LV:=hid fun k=>pvF_length y b v k hv
 have LR:=hid fun k (h:k≤b.length/16)=>rsF_length r b k hr (by omega)
 have PK:=hid fun k=>(show pvF y b v (k+1)=timL (plsL (pvF y b v k) (ofL ((b.drop (16*k)).take 16) 1#32)) y from rfl)
 have RK:=hid fun k=>(show rsF r b (k+1)=(b.drop (16*k)).take 16 from rfl)
 have P0:Hid (pvF y b v 0=v):=hid rfl
 have R0:Hid (rsF r b 0=r):=hid rfl
 have PE:Hid (pwR r b=over (rsF r b (b.length/16)) 0 (b.drop (16*(b.length/16)))):=hid rfl
 have HC:=hid hc
 have HBL:=hid hbl
 have HY:=hid hy
 clear hrd hc hbl
 go_enter Tryz.func191,Tryz.ntmps191
 go_wp2_with fail
 refine wp_scope_goto 0 (fun a_ w_=>∃(k L e:Nat)(q:Option Addr)(u2 u3 u4 u5 u6 u7 u8 u9 u10 u11 u12 u13 u14 u15 u16 u17 u18 u19 u20 u21 u22 u23 u24 u25 u26 u27 u28 u29 u30 u31 u32 u33 u34 u35 u36 u37 u38 u39 u40 u41 u42:Value),a_={tmps:= #[(.pointer (some ⟨g,0,none⟩)),(.slice q L e),u2,u3,u4,u5,u6,u7,u8,u9,u10,u11,u12,u13,u14,u15,u16,u17,u18,u19,u20,u21,u22,u23,u24,u25,u26,u27,u28,u29,u30,u31,u32,u33,u34,u35,u36,u37,u38,u39,u40,u41,u42],defers:=[]}∧L=b.length-16*k∧k≤b.length/16∧L≤e∧(∀wx X,Own w0 wx (X::R)→RdB wx q (b.drop (16*k)))∧Own w0 w_ (⟨g,279,psC y (pvF y b v k) (rsF r b k) 0⟩::R)) (fun a_ _=>slen (a_.tmps.getD 1 undef)) rfl ?_ ?_
 · clear hm
   rintro a' w ⟨k,L,e,q,u2,u3,u4,u5,u6,u7,u8,u9,u10,u11,u12,u13,u14,u15,u16,u17,u18,u19,u20,u21,u22,u23,u24,u25,u26,u27,u28,u29,u30,u31,u32,u33,u34,u35,u36,u37,u38,u39,u40,u41,u42,rfl,⟨hL,hk,hLe,hrd,hm⟩⟩
   have lV:=LV.out k
   have lR:=LR.out k hk
   obtain⟨V,hV⟩:=exq (pvF y b v k)
   obtain⟨S,hS⟩:=exq (rsF r b k)
   obtain⟨D,hD⟩:=exq (b.drop (16*k))
   have lD:D.length=L:=by rw [hD,List.length_drop,hL]
   rw [←hV]at lV
   rw [←hS]at lR
   rw [←hV,←hS]at hm
   rw [←hD]at hrd
   obtain⟨M,hM⟩:∃m,m=min L 16:=⟨_,rfl⟩
   have lT:(D.take 16).length=M:=by rw [List.length_take,lD,hM,Nat.min_comm]
   have T1:=hid (psC_rest y V S (D.take 16) 0 hy lV lR (by rw [lT];omega))
   rw [lT]at T1
   have lO:(over S 0 (D.take 16)).length=16:=by rw [over_length _ _ _ (by rw [lT,lR];omega),lR]
   have C0:=hid (psC_many y V S 0 hy lV lR)
   have C1:=hid (psC_many y V (over S 0 (D.take 16)) 0 hy lV lO)
   have C2:=hid (psC_many y V (over S 0 (D.take 16)) M hy lV lO)
   have S1:=hid (psC_setm y V (over S 0 (D.take 16)) 0 M hy lV lO)
   have L0:=hid (psC_length y V S 0 hy lV lR)
   have L1:=hid (psC_length y V (over S 0 (D.take 16)) 0 hy lV lO)
   have RDM:=hid hrd
   have RD2:=hid fun wx X (h:Own w0 wx (X::R))=>(hrd wx X h).slL e M (by rw [lD];exact hLe)
   have M0:M≤L:=by omega
   have M16:M≤16:=by omega
   have HM:=hid hM
   have HL:=hid hL
   have HLE:=hid hLe
   have LD:=hid lD
   have HV:=hid hV
   have HS:=hid hS
   have HD:=hid hD
   have HK:=hid hk
   have LO:=hid lO
   have LVV:=hid lV
   clear hL hLe hrd hM lD hV hS hD lR lO lT hk lV
   go_wp2_with fail
   refine rgE 9 43 ?_
   simp only [zTa]
   repeat (first
       |(apply walk_is rfl rfl rfl;(intro wx hwx;(with_reducible apply gq_ld1 (hm.ext hwx));infer_instance;exact rfl;(focus (repeat first|exact .hd|assumption|apply Has.tl);done);(exact C0.out));(simp only [zPu];rfl))
       | (apply walk_is rfl rfl rfl
          · (intro wx hwx;go_simp;(try go_bits);first|exact gives_same|exact gives_skip)
          · (simp only [zPu];rfl))
       | (apply walk_not rfl rfl rfl
          · (simp only [zPu];rfl)))
   intro wz hwz
   simp only [zZi]
   repeat (first|rw [fin_is]|(rw [fin_cons];intro _ _))
   rw [fin_nil]
   try (replace hm:=hm.ext hwz)
   simp only [zPu]
   refine wpl_cpC hm rfl rfl rfl rfl Tryz.underlying22 (by kernel_rfl) .hd (RDM.out _ _ hm) LD.out.symm (show _=psC y V (over S 0 (D.take 16)) 0 from by rw [LD.out,←HM.out];exact T1.out) (by rw [L0.out];omega) ?_
   clear hm
   intro w hm
   rw [LD.out,←HM.out]
   obtain⟨O,hO⟩:=exq (over S 0 (D.take 16))
   have HO:=hid hO
   rw [←hO]at hm C1 C2 S1 L1 LO
   clear hO T1 C0 L0
   have RO:=hid (psC_read y V O M HY.out LVV.out LO.out)
   have L27:=hid (show 26<(psC y V O 0).length by rw [L1.out];omega)
   by_cases h16:M=16
   · subst h16
     have EO:O=D.take 16:=by
       have h1:=HM.out
       have h2:=HO.out
       rw [h2,over,tZe,List.nil_append,List.drop_of_length_le,List.append_nil]
       have h3:(D.take 16).length=min 16 D.length:=List.length_take
       have h4:=LD.out
       rw [h3,h4]
       have h5:=LR.out k HK.out
       rw [←HS.out]at h5
       rw [h5]
       omega
     have PT:=hid fun (w:World)(hm:Own w0 w (⟨g,279,psC y V O 16⟩::R))=>ppart_any g y V (ofL O 1#32) O 16 HY.out LVV.out LO.out (ofL_length O 1#32) w0 w R hm
     have OF:=hid fun w=>(show Gives Tryz.prog 197 #[A8 O, .int .u32 1] w (P32 (ofL O 1#32))from pof_any O LO.out 1#32 w)
     have PKk:=hid (PK.out k)
     have RKk:=hid (RK.out k)
     rw [←HD.out,←EO]at PKk RKk
     rw [←HV.out]at PKk
     clear EO
     obtain⟨N5,hN5⟩:=exq (ofL O 1#32)
     rw [←hN5]at PT OF PKk
     have l5:(timL (plsL V N5) y).length=5:=timL_length _ _
     obtain⟨V2,hV2⟩:=exq (timL (plsL V N5) y)
     rw [←hV2]at l5 PT PKk
     clear hV2 hN5
     have S2:=hid (show(psC y V2 O 16).set 26 (.int .i64 0)=psC y V2 O 0 from psC_setm y V2 O 16 0 HY.out l5 LO.out)
     have L28:=hid (show 26<(psC y V2 O 16).length by rw [psC_length y V2 O 16 HY.out l5 LO.out];omega)
     go_wp2_with (first|((with_reducible apply wq_ld1 hm);exact rfl;infer_instance;exact rfl;(focus (repeat first|exact .hd|assumption|apply Has.tl);done);(exact C1.out))|((with_reducible apply wq_st1e S1.out L27.out hm);exact rfl;infer_instance;exact rfl;exact rfl;exact rfl;exact rfl;exact .hd;clear hm;intro w hm)|((with_reducible apply wq_slL Tryz.underlying22);infer_instance;exact rfl;exact rfl;exact rfl;exact M0;exact rfl)|((with_reducible apply wq_ld1 hm);exact rfl;infer_instance;exact rfl;(focus (repeat first|exact .hd|assumption|apply Has.tl);done);(exact C2.out))|((with_reducible apply wq_ldN hm);exact rfl;infer_instance;exact rfl;(focus (repeat first|exact .hd|assumption|apply Has.tl);done);(exact RO.out);(exact(by rw [List.length_map];exact LO.out)))|(go_at_call 197;(with_reducible refine(OF.out _).mono ?_);rintro e_ w ⟨rfl,hx_⟩;replace hm:=hm.ext hx_;clear hx_))
     refine(PT.out _ hm).mono ?_
     rintro e_ w ⟨rfl,hm1⟩
     replace hm:=hm1
     clear hm1
     go_wp2_with (first|((with_reducible apply wq_st1e S2.out L28.out hm);exact rfl;infer_instance;exact rfl;exact rfl;exact rfl;exact rfl;exact .hd;clear hm;intro w hm))
     go_step3
     refine⟨rfl,⟨_,_,_,_,_,_,_,_,_,_,_,_,_,_,_,_,_,_,_,_,_,_,_,_,_,_,_,_,_,_,_,_,_,_,_,_,_,_,_,_,_,_,_,_,_,rfl,⟨(show L-16=b.length-16*(k+1)from by rw [HL.out];omega),(show k+1≤b.length/16 from by have:=HL.out;omega),(by have:=HLE.out;omega),fun wx X h=>(show RdB wx (slP q e 16) (b.drop (16*(k+1)))from by have h1:=RD2.out wx X h;rwa [HD.out,List.drop_drop,show 16*k+16=16*(k+1)from by omega]at h1),(show Own w0 w (⟨g,279,psC y (pvF y b v (k+1)) (rsF r b (k+1)) 0⟩::R)from by rw [PKk.out,RKk.out];exact hm)⟩⟩, ?_⟩
     show L-16<L
     omega
   · have hm16:M<16:=by omega
     have hi16:(M:Int)<16:=by omega
     have hd16:decide ((M:Int)<16)=true:=decide_eq_true hi16
     go_wp2_with (first|((with_reducible apply wq_ld1 hm);exact rfl;infer_instance;exact rfl;(focus (repeat first|exact .hd|assumption|apply Has.tl);done);(exact C1.out))|((with_reducible apply wq_st1e S1.out L27.out hm);exact rfl;infer_instance;exact rfl;exact rfl;exact rfl;exact rfl;exact .hd;clear hm;intro w hm)|((with_reducible apply wq_slL Tryz.underlying22);infer_instance;exact rfl;exact rfl;exact rfl;exact M0;exact rfl)|((with_reducible apply wq_ld1 hm);exact rfl;infer_instance;exact rfl;(focus (repeat first|exact .hd|assumption|apply Has.tl);done);(exact C2.out)))
     simp only [Exit.jump]
     refine bodyPost_ret (results_none rfl _ _ _) rfl ?_
     have e1:k=b.length/16:=by have:=HL.out;have:=HM.out;have:=HK.out;omega
     have e2:M=b.length%16:=by have:=HL.out;have:=HM.out;omega
     have e3:O=pwR r b:=by
       have h1:D.take 16=D:=List.take_of_length_le (by rw [LD.out];have:=HM.out;omega)
       rw [HO.out,h1,PE.out,HS.out,HD.out,←e1]
     rw [e3,e2,HV.out,e1]at hm
     exact⟨rfl,hm⟩
 · intro hp
   go_wp2_with fail
   go_step3
   rename_i hK
   exact hK _ _ (hp _ _ ⟨_,_,_,_,_,_,_,_,_,_,_,_,_,_,_,_,_,_,_,_,_,_,_,_,_,_,_,_,_,_,_,_,_,_,_,_,_,_,_,_,_,_,_,_,_,rfl,⟨rfl,Nat.zero_le _,HC.out,fun wx X h=>HRD.out wx X h,by rw [P0.out,R0.out];exact hm⟩⟩)
def pmk(r:List Byte)(m:Nat):List Byte:=setN (over (zer 16) 0 (r.take m)) m 1#8
theorem pmk_length(r:List Byte)(m:Nat)(hm:m≤16):(pmk r m).length=16:=by
 rw [pmk,setN_length,over_length _ _ _ (by rw [List.length_take,zer_length];omega),zer_length]
def pvE(y v:List (BitVec 32))(r:List Byte)(m:Nat):List (BitVec 32):=if m=0 then v else timL (plsL v (ofL (pmk r m) 0#32)) y
theorem pvE_length(y v:List (BitVec 32))(r:List Byte)(m:Nat)(h:v.length=5):(pvE y v r m).length=5:=by
 unfold pvE;split
 · exact h
 · exact timL_length _ _
theorem psC_rd {w:World}{g:Nat}{y v:List (BitVec 32)}{r:List Byte}{m:Nat}(hy:y.length=5)(hv:v.length=5)(hr:r.length=16)(h:Row w g 279 (psC y v r m)):RdB w (some ⟨g,10,none⟩) r:=⟨fun _=>rfl,fun i hi=>by
 have h1:=row_cell h (10+i)
 have h2:((psC y v r m).drop 10)[i]? =some (v8 (r.getD i 0)):=by
   have h3:(((psC y v r m).drop 10).take 16)[i]? =some (v8 (r.getD i 0)):=by rw [psC_read y v r m hy hv hr];exact map8_at _ hi
   rwa [List.getElem?_take,if_pos (by omega)]at h3
 rw [List.getElem?_drop]at h2
 rw [show((some (⟨g,10,none⟩:Addr)).getD default).add i=⟨g,10+i,none⟩from by simp [Addr.add],h1,h2]⟩
theorem pvalueM_any(g m:Nat)(y v:List (BitVec 32))(r:List Byte)(hm0:0<m)(hm16:m<16)(hy:y.length=5)(hv:v.length=5)(hr:r.length=16)(w0:World)(h:Row w0 g 279 (psC y v r m)):Gives Tryz.prog 205 #[.pointer (some ⟨g,0,none⟩)] w0 (P32 (timL (plsL v (ofL (pmk r m) 0#32)) y)):=by
 unfold Gives
 have hm:=Own.start w0
 have HR:=hid fun w (hx:Ext w0 w)=>row_ext h hx
 have EM:=hid (psC_many y v r m hy hv hr)
 have RD:=hid fun w (hx:Ext w0 w)=>(psC_rd hy hv hr (row_ext h hx)).take m
 have EA:=hid (show((psC y v r m).drop 0).take 27=psC y v r m by rw [dZe,List.take_of_length_le (by rw [psC_length y v r m hy hv hr];exact Nat.le_refl _)])
 have LA:=hid (psC_length y v r m hy hv hr)
 have PO:=hid (show∀c∈psC y v r m,c.oneCell'=true from by
   intro c hc
   simp only [psC,List.mem_append,List.mem_singleton]at hc
   rcases hc with hc|hc|hc|hc
   · exact one_map y c hc
   · exact one_map v c hc
   · exact one_map r c hc
   · rw [hc];rfl)
 have lK:=pmk_length r m (by omega)
 have OF:=hid fun w=>(show Gives Tryz.prog 197 #[A8 (pmk r m), .int .u32 0] w (P32 (ofL (pmk r m) 0#32))from pof_any (pmk r m) lK 0#32 w)
 have lN:=ofL_length (pmk r m) 0#32
 have EK:Hid (setN (over (zer 16) 0 (r.take m)) m 1#8=pmk r m):=hid rfl
 have lO:(over (zer 16) 0 (r.take m)).length=16:=by rw [over_length _ _ _ (by rw [List.length_take,zer_length];omega),zer_length]
 have lT:(r.take m).length=m:=by rw [List.length_take];omega
 have ET:Hid (over (zer 16) 0 ((r.take m).take 16)=over (zer 16) 0 (r.take m)):=hid (by rw [List.take_of_length_le (l:=r.take m) (by omega)])
 obtain⟨N,hN⟩:=exq (ofL (pmk r m) 0#32)
 rw [←hN]at OF lN⊢
 have PT:=hid fun (g2:Nat)(w:World)(R:List Blk)(hm:Own w0 w (⟨g2,279,psC y v r m⟩::R))=>ppart_any g2 y v N r m hy hv hr lN w0 w R hm
 have lV2:=timL_length (plsL v N) y
 obtain⟨V2,hV2⟩:=exq (timL (plsL v N) y)
 rw [←hV2]at PT lV2⊢
 have EV:=hid (psC_v y V2 r m hy lV2)
 have LV2:=hid lV2
 have LT:=hid lT
 have h1:=Nat.le_of_eq lV2
 have h2:=Nat.le_of_eq lV2.symm
 have h3:=Nat.le_of_eq lK
 have h4:=Nat.le_of_eq lK.symm
 have h5:=Nat.le_of_eq lO
 have h6:=Nat.le_of_eq lO.symm
 obtain⟨KB,hKB⟩:=exq (pmk r m)
 rw [←hKB]at OF EK h3 h4
 obtain⟨OB,hOB⟩:=exq (over (zer 16) 0 (r.take m))
 rw [←hOB]at EK ET h5 h6
 obtain⟨PC,hPC⟩:=exq (psC y v r m)
 obtain⟨PD,hPD⟩:=exq (psC y V2 r m)
 rw [←hPC]at HR EM EA LA PO
 rw [←hPC,←hPD]at PT
 rw [←hPD]at EV
 have b1:¬(m:Int)=0:=by omega
 have b2:((m:Int)==0)=false:=by rw [beq_eq_false_iff_ne];omega
 have b3:(m:Int)<16:=by omega
 have b4:(m:Int)≤16:=by omega
 rw [←EK.out]at OF
 clear h hv hr hy lN lV2 hN hV2 hKB hOB hPC hPD lK lO lT
 go_enter Tryz.func205,Tryz.ntmps205
 go_wp2_with (first|((with_reducible apply wq_row1 (HR.out _ hm.x));exact rfl;infer_instance;exact rfl;exact EM.out)|(((with_reducible show qAl);refine zG hm ?_);clear hm;(first|(have hx_:=g1;clear hx_;(first|(have hx_:=g2;clear hx_;intro gx_)|intro g2))|intro g1);intro w hm))
 have R1:=hid fun wx (hx:Ext w wx)=>HR.out wx (hm.x.trans hx)
 refine rgE 9 40 ?_
 simp only [zTa]
 repeat (first
     | (apply walk_is rfl rfl rfl
        · (intro wx hwx;(with_reducible apply gq_row1 ((R1.out) wx hwx));infer_instance;exact rfl;(exact EM.out))
        · (simp only [zPu];rfl))
     | (apply walk_is rfl rfl rfl
        · (intro wx hwx;go_simp;(try go_bits);first|exact gives_same|exact gives_skip)
        · (simp only [zPu];rfl))
     | (apply walk_not rfl rfl rfl
        · (simp only [zPu];rfl)))
 intro wz hwz
 simp only [zZi]
 repeat (first|rw [fin_is]|(rw [fin_cons];intro _ _))
 rw [fin_nil]
 try (replace hm:=hm.ext hwz)
 simp only [zPu]
 ((with_reducible show wpList _ _ _ (Oper.mk _ (Op.call _) _ _ _ _::_) _ _);refine wpl_cp8 hm rfl rfl rfl rfl Tryz.underlying22 (by kernel_rfl) (by repeat (first|exact Swap.hd|assumption|apply Swap.tl)) (RD.out _ hm.x) LT.out.symm (ET.out) (by rw [zer_length];omega) ?_;clear hm;intro w hm)
 go_wp2_with (first|((with_reducible apply wq_row1 (HR.out _ hm.x));exact rfl;infer_instance;exact rfl;exact EM.out)|((with_reducible apply wq_rowN (HR.out _ hm.x));exact rfl;infer_instance;exact rfl;exact EA.out;exact LA.out)|((with_reducible apply wq_stW hm);exact rfl;infer_instance;exact rfl;exact rfl;exact .hd;exact LA.out;(focus (simp;done));exact PO.out;clear hm;intro w hm)|(go_at_call 197;(with_reducible refine(OF.out _).mono ?_);rintro e_ w ⟨rfl,hx_⟩;replace hm:=hm.ext hx_;clear hx_)|((with_reducible show qLd);refine zB hm ?_)|((((with_reducible show qSt);first|((with_reducible apply wq_st8i hm);exact rfl;infer_instance;exact rfl;exact rfl;(focus (repeat first|exact .hd|assumption|apply Swap.tl);done);(focus omega);(focus (first|omega|(simp;omega)|(refine ltB ?_;first|omega|(simp;done)|(simp;omega)))))));clear hm;intro w hm)|(((with_reducible show qAl);refine zG hm ?_);clear hm;(first|(have hx_:=g1;clear hx_;(first|(have hx_:=g2;clear hx_;intro gx_)|intro g2))|intro g1);intro w hm))
 refine(PT.out _ _ _ hm).mono ?_
 rintro e_ w ⟨rfl,hm1⟩
 replace hm:=hm1
 clear hm1
 go_wp2_with (first|((with_reducible apply wq_ldN hm);exact rfl;infer_instance;exact rfl;(focus (repeat first|exact .hd|assumption|apply Has.tl);done);(exact EV.out);(exact(by rw [List.length_map];exact LV2.out)))|((with_reducible show qSt);refine zE hm ?_;clear hm;intro w hm))
 refine rtO hm rfl rfl ⟨rfl,hm.x⟩
theorem pvalueE_any(g m:Nat)(y v:List (BitVec 32))(r:List Byte)(hm16:m<16)(hy:y.length=5)(hv:v.length=5)(hr:r.length=16)(w0:World)(h:Row w0 g 279 (psC y v r m)):Gives Tryz.prog 205 #[.pointer (some ⟨g,0,none⟩)] w0 (P32 (pvE y v r m)):=by
 by_cases h0:m=0
 · subst h0
   exact pvalue_any g y v r hy hv hr w0 h
 · rw [pvE,if_neg h0]
   exact pvalueM_any g m y v r (by omega) hm16 hy hv hr w0 h
theorem ptagE_any(g m:Nat)(y v:List (BitVec 32))(r:List Byte)(hm16:m<16)(hy:y.length=5)(hv:v.length=5)(hr:r.length=16)(w0:World)(h:Row w0 g 279 (psC y v r m)):Gives Tryz.prog 200 #[.pointer (some ⟨g,0,none⟩)] w0 (A8 (lowB (pvE y v r m))):=by
 unfold Gives
 have hm:=Own.start w0
 have C1:=hid fun w (hx:Ext w0 w)=>pvalueE_any g m y v r hm16 hy hv hr w (row_ext h hx)
 have lP:=pvE_length y v r m hv
 generalize pvE y v r m=V at*
 have C2:=hid fun w=>plow_any V lP w
 have lB:=lowB_length V
 generalize lowB V=F at*
 have h1:=Nat.le_of_eq lB
 have h2:=Nat.le_of_eq lB.symm
 clear h
 go_enter Tryz.func200,Tryz.ntmps200
 go_wp2_with (first|(go_at_call 205;(with_reducible refine(C1.out _ hm.x).mono ?_);rintro e_ w ⟨rfl,hx_⟩;replace hm:=hm.ext hx_;clear hx_)|(go_at_call 206;(with_reducible refine(C2.out _).mono ?_);rintro e_ w ⟨rfl,hx_⟩;replace hm:=hm.ext hx_;clear hx_)|((with_reducible show qSt);refine zE hm ?_;clear hm;intro w hm)|(((with_reducible show qAl);refine zG hm ?_);clear hm;intro gx_;intro w hm))
 refine rtO hm rfl rfl ⟨rfl,hm.x⟩
theorem anumberE_any(g m:Nat)(b v:List (BitVec 32))(r:List Byte)(hm16:m<16)(hb:b.length=5)(hv:v.length=5)(hr:r.length=16)(w0:World)(h:Row w0 g 279 (psC b v r m)):Gives Tryz.prog 192 #[.pointer (some ⟨g,0,none⟩)] w0 (WV (num (lowB (pvE b v r m)) 0 8) (num (lowB (pvE b v r m)) 8 8)):=by
 unfold Gives
 have hm:=Own.start w0
 have C1:=hid fun w (hx:Ext w0 w)=>ptagE_any g m b v r hm16 hb hv hr w (row_ext h hx)
 have lB:=lowB_length (pvE b v r m)
 generalize lowB (pvE b v r m)=F at*
 have L1:=hid fun (w:World)(p:Option Addr)(c:Nat)(hr:RdB w p F)=>show Gives Tryz.prog 183 #[.slice p 16 c] w (WV (num F 0 8) (num F 8 8))from by
   have:=load_any F p c w hr (by omega);rwa [lB]at this
 generalize num F 0 8=lo at*
 generalize num F 8 8=hi at*
 have h1:=Nat.le_of_eq lB
 have h2:=Nat.le_of_eq lB.symm
 clear h
 go_enter Tryz.func192,Tryz.ntmps192
 go_wp2_with (first|(go_at_call 200;(with_reducible refine(C1.out _ hm.x).mono ?_);rintro e_ w ⟨rfl,hx_⟩;replace hm:=hm.ext hx_;clear hx_)|(go_at_call 183;(with_reducible refine(L1.out _ _ _ (hm.rdB (g:=g2) (l:=F) (by repeat (first|exact Has.hd|assumption|apply Has.tl)))).mono ?_);rintro e_ w ⟨rfl,hx_⟩;replace hm:=hm.ext hx_;clear hx_)|((with_reducible show qSt);refine zE hm ?_;clear hm;intro w hm)|(((with_reducible show qAl);refine zG hm ?_);clear hm;(first|(have hx_:=g1;clear hx_;(first|(have hx_:=g2;clear hx_;intro gx_)|intro g2))|intro g1);intro w hm))
 refine rtO hm rfl rfl ⟨rfl,hm.x⟩
open Go
def rotl32(x:BitVec 32)(k:Nat):BitVec 32:=(x<<<k)|||(x>>>(32-k))
def csD(a b d:BitVec 32)(n:Nat):BitVec 32:=rotl32 (d^^^(a+b)) n
def qA1(a b:BitVec 32):BitVec 32:=a+b
def qD1(a b d:BitVec 32):BitVec 32:=csD a b d 16
def qC1(a b c d:BitVec 32):BitVec 32:=c+qD1 a b d
def qB1(a b c d:BitVec 32):BitVec 32:=csD c (qD1 a b d) b 12
def qA2(a b c d:BitVec 32):BitVec 32:=qA1 a b+qB1 a b c d
def qD2(a b c d:BitVec 32):BitVec 32:=csD (qA1 a b) (qB1 a b c d) (qD1 a b d) 8
def qC2(a b c d:BitVec 32):BitVec 32:=qC1 a b c d+qD2 a b c d
def qB2(a b c d:BitVec 32):BitVec 32:=csD (qC1 a b c d) (qD2 a b c d) (qB1 a b c d) 7
def quaL(v:List (BitVec 32))(i j k l:Nat):List (BitVec 32):=
 setN (setN (setN (setN v i (qA2 (nth v i) (nth v j) (nth v k) (nth v l))) j (qB2 (nth v i) (nth v j) (nth v k) (nth v l))) k (qC2 (nth v i) (nth v j) (nth v k) (nth v l))) l (qD2 (nth v i) (nth v j) (nth v k) (nth v l))
theorem quaL_length(v:List (BitVec 32))(i j k l:Nat):(quaL v i j k l).length=v.length:=by simp [quaL]
def slaF(v:List (BitVec 32))(by_:Nat):Nat→List (BitVec 32)
 |0=>v
 |i+1=>quaL (slaF v by_ i) i (4+(i+by_)%4) (8+(i+2*by_)%4) (12+(i+3*by_)%4)
theorem slaF_length(v:List (BitVec 32))(by_ i:Nat):(slaF v by_ i).length=v.length:=by
 induction i with
 |zero=>rfl
 |succ i ih=>rw [slaF,quaL_length,ih]
def mixC(v:List (BitVec 32)):Nat→List (BitVec 32)
 |0=>v
 |r+1=>slaF (slaF (mixC v r) 0 4) 1 4
theorem mixC_length(v:List (BitVec 32))(r:Nat):(mixC v r).length=v.length:=by
 induction r with
 |zero=>rfl
 |succ r ih=>rw [mixC,slaF_length,slaF_length,ih]
def wordsC:List Byte:=[101#8,120#8,112#8,97#8,110#8,100#8,32#8,51#8,50#8,45#8,98#8,121#8,116#8,101#8,32#8,107#8]
def wrd(l:List Byte)(at_:Nat):BitVec 32:=(num l (at_:Int) 4).setWidth 32
def staF(key inp:List Byte):Nat→List (BitVec 32)
 |0=>zer 16
 |i+1=>setN (setN (setN (setN (staF key inp i) i (wrd wordsC (4*i))) (4+i) (wrd key (4*i))) (8+i) (wrd key (4*i+16))) (12+i) (wrd inp (4*i))
theorem staF_length(key inp:List Byte)(i:Nat):(staF key inp i).length=16:=by
 induction i with
 |zero=>exact zer_length
 |succ i ih=>simp [staF,ih]
def putC(l:List (BitVec 32)):List Byte:=l.flatMap fun n=>putL (n.setWidth 64) 4
def blkC5(key inp:List Byte)(rounds:Nat):List Byte:=putC (tab 16 fun i=>nth (mixC (staF key inp 4) (rounds/2)) i+nth (staF key inp 4) i)
def shoC(key inp:List Byte)(rounds:Nat):List Byte:=putC ((mixC (staF key inp 4) (rounds/2)).take 4)++putC ((mixC (staF key inp 4) (rounds/2)).drop 12)
theorem pos_mask(n:Nat)(h1:n≤31):bits BinOp.and IntKind.u64 (n:Int) 31=(n:Int)∧IntKind.u64.wrap (32-(n:Int))=((32-n:Nat):Int):=by
 have:∀k:Fin 32,bits BinOp.and IntKind.u64 (k.val:Int) 31=(k.val:Int)∧IntKind.u64.wrap (32-(k.val:Int))=((32-k.val:Nat):Int):=by decide+kernel
 exact this ⟨n,by omega⟩
theorem rot32_any(x:BitVec 32)(n:Nat)(h1:n≤31)(w:World):Calls Tryz.prog 154 #[v32 x, .int .i64 (n:Int)] w fun e w'=>e= .returned (v32 (rotl32 x n))∧w=w':=by
 obtain⟨hb,hw⟩:=pos_mask n h1
 obtain⟨q,hq⟩:∃q:Nat,32-n=q:=⟨_,rfl⟩
 rw [hq]at hw
 have E:=hid (show rotl32 x n=(x<<<n)|||(x>>>q)by rw [rotl32,hq])
 clear hq
 go_enter Tryz.func154,Tryz.ntmps154
 go_wp2
 go_ret
 exact⟨by rw [E.out];rfl,rfl⟩
theorem cstep_any(a b d:BitVec 32)(n:Nat)(h1:n≤31)(w:World):Calls Tryz.prog 151 #[v32 a,v32 b,v32 d, .int .i64 (n:Int)] w fun e w'=>e= .returned (.tuple #[v32 (a+b),v32 (csD a b d n)])∧w=w':=by
 have E:=hid (show csD a b d n=rotl32 (d^^^(a+b)) n from rfl)
 have R:=hid fun y wx=>rot32_any y n h1 wx
 go_enter Tryz.func151,Tryz.ntmps151
 go_wp2_with (go_at_call 154;refine(R.out _ _).mono ?_;rintro e_ w_ ⟨rfl,rfl⟩)
 go_ret2
 exact⟨by rw [E.out];rfl,rfl⟩
theorem results_tmp4 {fn:Func}{t u v x:Tmp}(h:fn.results= #[.tmp t, .tmp u, .tmp v, .tmp x])(tmps:Array Value)(P:Program)(w:World):
   (results fn tmps).run P w= .ok (.tuple #[tmps.getD t undef,tmps.getD u undef,tmps.getD v undef,tmps.getD x undef]) w:=by
 simp [results,h,go_sem]
theorem quarter_any(a b c d:BitVec 32)(w:World):Calls Tryz.prog 144 #[v32 a,v32 b,v32 c,v32 d] w fun e w'=>e= .returned (.tuple #[v32 (qA2 a b c d),v32 (qB2 a b c d),v32 (qC2 a b c d),v32 (qD2 a b c d)])∧w=w':=by
 have S1:=hid fun (wx:World)=>show Calls Tryz.prog 151 #[v32 a,v32 b,v32 d, .int .i64 16] wx fun e w'=>e= .returned (.tuple #[v32 (qA1 a b),v32 (qD1 a b d)])∧wx=w' from cstep_any a b d 16 (by omega) wx
 have S2:=hid fun (wx:World)=>show Calls Tryz.prog 151 #[v32 c,v32 (qD1 a b d),v32 b, .int .i64 12] wx fun e w'=>e= .returned (.tuple #[v32 (qC1 a b c d),v32 (qB1 a b c d)])∧wx=w' from cstep_any c (qD1 a b d) b 12 (by omega) wx
 have S3:=hid fun (wx:World)=>show Calls Tryz.prog 151 #[v32 (qA1 a b),v32 (qB1 a b c d),v32 (qD1 a b d), .int .i64 8] wx fun e w'=>e= .returned (.tuple #[v32 (qA2 a b c d),v32 (qD2 a b c d)])∧wx=w' from cstep_any (qA1 a b) (qB1 a b c d) (qD1 a b d) 8 (by omega) wx
 have S4:=hid fun (wx:World)=>show Calls Tryz.prog 151 #[v32 (qC1 a b c d),v32 (qD2 a b c d),v32 (qB1 a b c d), .int .i64 7] wx fun e w'=>e= .returned (.tuple #[v32 (qC2 a b c d),v32 (qB2 a b c d)])∧wx=w' from cstep_any (qC1 a b c d) (qD2 a b c d) (qB1 a b c d) 7 (by omega) wx
 generalize qA2 a b c d=a2 at*
 generalize qB2 a b c d=b2 at*
 generalize qC2 a b c d=c2 at*
 generalize qD2 a b c d=d2 at*
 generalize qC1 a b c d=c1 at*
 generalize qB1 a b c d=b1 at*
 generalize qD1 a b d=d1 at*
 generalize qA1 a b=a1 at*
 go_enter Tryz.func144,Tryz.ntmps144
 go_wp2_with (first|(go_at_call 151;(with_reducible refine(S1.out _).mono ?_);rintro e_ w_ ⟨rfl,rfl⟩)|(go_at_call 151;(with_reducible refine(S2.out _).mono ?_);rintro e_ w_ ⟨rfl,rfl⟩)|(go_at_call 151;(with_reducible refine(S3.out _).mono ?_);rintro e_ w_ ⟨rfl,rfl⟩)|(go_at_call 151;(with_reducible refine(S4.out _).mono ?_);rintro e_ w_ ⟨rfl,rfl⟩))
 refine bodyPost_ret (results_tmp4 rfl _ _ _) rfl ?_
 exact⟨rfl,rfl⟩
def Sq7(w0:World)(R:List Blk)(g:Nat)(T:TypeId)(V:List (BitVec 32))(k1 k2 k3 k4:Nat)(z1 z2 z3:BitVec 32)(s:List (Option Value))(w:World):Prop:=
 ∃ a b c d e f h,s=[a,b,c,d,e,f,h]∧((∀x,a=some x→x=v32 (nth V k1))∧(∀x,b=some x→x=v32 (nth V k2))∧(∀x,c=some x→x=v32 (nth V k3))∧∀x,d=some x→x=v32 (nth V k4))∧
   ((e=none∧f=none∧h=none∧Own w0 w (⟨g,T,(V).map v32⟩::R))∨((∃x y z u,a=some x∧b=some y∧c=some z∧d=some u)∧∃x,e=some x∧((f=none∧h=none∧Own w0 w (⟨g,T,(setN V k1 z1).map v32⟩::R))∨∃y,f=some y∧((h=none∧Own w0 w (⟨g,T,(setN (setN V k1 z1) k2 z2).map v32⟩::R))∨∃z,h=some z∧Own w0 w (⟨g,T,(setN (setN (setN V k1 z1) k2 z2) k3 z3).map v32⟩::R)))))
section
variable {w0 w w':World} {R:List Blk} {g:Nat} {T:TypeId} {V:List (BitVec 32)} {k1 k2 k3 k4:Nat} {z1 z2 z3:BitVec 32} {s:List (Option Value)} {x:Value}
theorem Sq7.ext(s:List (Option Value))(w w':World)(hs:Sq7 w0 R g T V k1 k2 k3 k4 z1 z2 z3 s w)(hx:Ext w w'):Sq7 w0 R g T V k1 k2 k3 k4 z1 z2 z3 s w':=by
 obtain⟨a,b,c,d,e,f,h,rfl,hv,hc⟩:=hs
 refine⟨a,b,c,d,e,f,h,rfl,hv, ?_⟩
 rcases hc with ⟨h1,h2,h3,h4⟩|⟨hl,x,h1,h2⟩
 · exact .inl ⟨h1,h2,h3,h4.ext hx⟩
 · refine .inr ⟨hl,x,h1, ?_⟩
   rcases h2 with ⟨h3,h4,h5⟩|⟨y,h3,h4⟩
   · exact .inl ⟨h3,h4,h5.ext hx⟩
   · refine .inr ⟨y,h3, ?_⟩
     rcases h4 with ⟨h5,h6⟩|⟨z,h5,h6⟩
     · exact .inl ⟨h5,h6.ext hx⟩
     · exact .inr ⟨z,h5,h6.ext hx⟩
theorem Sq7.start(hm:Own w0 w (⟨g,T,V.map v32⟩::R)):Sq7 w0 R g T V k1 k2 k3 k4 z1 z2 z3 (List.replicate 7 none) w:=⟨none,none,none,none,none,none,none,rfl,⟨by simp,by simp,by simp,by simp⟩, .inl ⟨rfl,rfl,rfl,hm⟩⟩
theorem Sq7.l0(hs:Sq7 w0 R g T V k1 k2 k3 k4 z1 z2 z3 s w)(hn:s[0]? =some none):Own w0 w (⟨g,T,(V).map v32⟩::R)∧Sq7 w0 R g T V k1 k2 k3 k4 z1 z2 z3 (s.set 0 (some (v32 (nth V k1)))) w:=by
 obtain⟨a,b,c,d,e,f,h,rfl,hv,hc⟩:=hs
 obtain rfl:a=none:=by simpa using hn
 rcases hc with ⟨h1,h2,h3,h4⟩|⟨⟨x,y,z,u,e1,e2,e3,e4⟩,_⟩
 · exact⟨h4,some (v32 (nth V k1)),b,c,d,e,f,h,rfl,⟨fun x e=>(Option.some.inj e).symm,fun x e=>hv.2.1 x e,fun x e=>hv.2.2.1 x e,fun x e=>hv.2.2.2 x e⟩, .inl ⟨h1,h2,h3,h4⟩⟩
 · cases e1
theorem Sq7.v0(hs:Sq7 w0 R g T V k1 k2 k3 k4 z1 z2 z3 s w)(hx:s[0]? =some (some x)):x=v32 (nth V k1):=by
 obtain⟨a,b,c,d,e,f,h,rfl,hv,hc⟩:=hs
 exact hv.1 x (by simpa using hx)
theorem Sq7.l1(hs:Sq7 w0 R g T V k1 k2 k3 k4 z1 z2 z3 s w)(hn:s[1]? =some none):Own w0 w (⟨g,T,(V).map v32⟩::R)∧Sq7 w0 R g T V k1 k2 k3 k4 z1 z2 z3 (s.set 1 (some (v32 (nth V k2)))) w:=by
 obtain⟨a,b,c,d,e,f,h,rfl,hv,hc⟩:=hs
 obtain rfl:b=none:=by simpa using hn
 rcases hc with ⟨h1,h2,h3,h4⟩|⟨⟨x,y,z,u,e1,e2,e3,e4⟩,_⟩
 · exact⟨h4,a,some (v32 (nth V k2)),c,d,e,f,h,rfl,⟨fun x e=>hv.1 x e,fun x e=>(Option.some.inj e).symm,fun x e=>hv.2.2.1 x e,fun x e=>hv.2.2.2 x e⟩, .inl ⟨h1,h2,h3,h4⟩⟩
 · cases e2
theorem Sq7.v1(hs:Sq7 w0 R g T V k1 k2 k3 k4 z1 z2 z3 s w)(hx:s[1]? =some (some x)):x=v32 (nth V k2):=by
 obtain⟨a,b,c,d,e,f,h,rfl,hv,hc⟩:=hs
 exact hv.2.1 x (by simpa using hx)
theorem Sq7.l2(hs:Sq7 w0 R g T V k1 k2 k3 k4 z1 z2 z3 s w)(hn:s[2]? =some none):Own w0 w (⟨g,T,(V).map v32⟩::R)∧Sq7 w0 R g T V k1 k2 k3 k4 z1 z2 z3 (s.set 2 (some (v32 (nth V k3)))) w:=by
 obtain⟨a,b,c,d,e,f,h,rfl,hv,hc⟩:=hs
 obtain rfl:c=none:=by simpa using hn
 rcases hc with ⟨h1,h2,h3,h4⟩|⟨⟨x,y,z,u,e1,e2,e3,e4⟩,_⟩
 · exact⟨h4,a,b,some (v32 (nth V k3)),d,e,f,h,rfl,⟨fun x e=>hv.1 x e,fun x e=>hv.2.1 x e,fun x e=>(Option.some.inj e).symm,fun x e=>hv.2.2.2 x e⟩, .inl ⟨h1,h2,h3,h4⟩⟩
 · cases e3
theorem Sq7.v2(hs:Sq7 w0 R g T V k1 k2 k3 k4 z1 z2 z3 s w)(hx:s[2]? =some (some x)):x=v32 (nth V k3):=by
 obtain⟨a,b,c,d,e,f,h,rfl,hv,hc⟩:=hs
 exact hv.2.2.1 x (by simpa using hx)
theorem Sq7.l3(hs:Sq7 w0 R g T V k1 k2 k3 k4 z1 z2 z3 s w)(hn:s[3]? =some none):Own w0 w (⟨g,T,(V).map v32⟩::R)∧Sq7 w0 R g T V k1 k2 k3 k4 z1 z2 z3 (s.set 3 (some (v32 (nth V k4)))) w:=by
 obtain⟨a,b,c,d,e,f,h,rfl,hv,hc⟩:=hs
 obtain rfl:d=none:=by simpa using hn
 rcases hc with ⟨h1,h2,h3,h4⟩|⟨⟨x,y,z,u,e1,e2,e3,e4⟩,_⟩
 · exact⟨h4,a,b,c,some (v32 (nth V k4)),e,f,h,rfl,⟨fun x e=>hv.1 x e,fun x e=>hv.2.1 x e,fun x e=>hv.2.2.1 x e,fun x e=>(Option.some.inj e).symm⟩, .inl ⟨h1,h2,h3,h4⟩⟩
 · cases e4
theorem Sq7.v3(hs:Sq7 w0 R g T V k1 k2 k3 k4 z1 z2 z3 s w)(hx:s[3]? =some (some x)):x=v32 (nth V k4):=by
 obtain⟨a,b,c,d,e,f,h,rfl,hv,hc⟩:=hs
 exact hv.2.2.2 x (by simpa using hx)
theorem Sq7.s4(hs:Sq7 w0 R g T V k1 k2 k3 k4 z1 z2 z3 s w)(hn:s[4]? =some none)(hD:∀i'∈[0,1,2,3],∃x,s[i']? =some (some x)):Own w0 w (⟨g,T,(V).map v32⟩::R)∧∀u w',Own w0 w' (⟨g,T,(setN V k1 z1).map v32⟩::R)→Sq7 w0 R g T V k1 k2 k3 k4 z1 z2 z3 (s.set 4 (some u)) w':=by
 obtain⟨a,b,c,d,e,f,h,rfl,hv,hc⟩:=hs
 obtain rfl:e=none:=by simpa using hn
 obtain⟨x,hx⟩:=hD 0 (by simp)
 obtain⟨y,hy⟩:=hD 1 (by simp)
 obtain⟨z,hz⟩:=hD 2 (by simp)
 obtain⟨u,hu⟩:=hD 3 (by simp)
 simp at hx hy hz hu
 rcases hc with ⟨h1,h2,h3,h4⟩|⟨_,x,e5,_⟩
 · exact⟨h4,fun q w' hm=>⟨a,b,c,d,some q,f,h,rfl,hv, .inr ⟨⟨x,y,z,u,hx,hy,hz,hu⟩,q,rfl, .inl ⟨h2,h3,hm⟩⟩⟩⟩
 · cases e5
theorem Sq7.s5(hs:Sq7 w0 R g T V k1 k2 k3 k4 z1 z2 z3 s w)(hn:s[5]? =some none)(hD:∀i'∈[4],∃x,s[i']? =some (some x)):Own w0 w (⟨g,T,(setN V k1 z1).map v32⟩::R)∧∀u w',Own w0 w' (⟨g,T,(setN (setN V k1 z1) k2 z2).map v32⟩::R)→Sq7 w0 R g T V k1 k2 k3 k4 z1 z2 z3 (s.set 5 (some u)) w':=by
 obtain⟨a,b,c,d,e,f,h,rfl,hv,hc⟩:=hs
 obtain rfl:f=none:=by simpa using hn
 obtain⟨x,hx⟩:=hD 4 (by simp)
 simp at hx
 subst hx
 rcases hc with ⟨h1,_⟩|⟨hl,x,h1,h2⟩
 · cases h1
 · rcases h2 with ⟨h3,h4,h5⟩|⟨y,h3,h4⟩
   · exact⟨h5,fun q w' hm=>⟨a,b,c,d,_,some q,h,rfl,hv, .inr ⟨hl,x,h1, .inr ⟨q,rfl, .inl ⟨h4,hm⟩⟩⟩⟩⟩
   · cases h3
theorem Sq7.s6(hs:Sq7 w0 R g T V k1 k2 k3 k4 z1 z2 z3 s w)(hn:s[6]? =some none)(hD:∀i'∈[5],∃x,s[i']? =some (some x)):Own w0 w (⟨g,T,(setN (setN V k1 z1) k2 z2).map v32⟩::R)∧∀u w',Own w0 w' (⟨g,T,(setN (setN (setN V k1 z1) k2 z2) k3 z3).map v32⟩::R)→Sq7 w0 R g T V k1 k2 k3 k4 z1 z2 z3 (s.set 6 (some u)) w':=by
 obtain⟨a,b,c,d,e,f,h,rfl,hv,hc⟩:=hs
 obtain rfl:h=none:=by simpa using hn
 obtain⟨x,hx⟩:=hD 5 (by simp)
 simp at hx
 subst hx
 rcases hc with ⟨_,h1,_⟩|⟨hl,x,h1,h2⟩
 · cases h1
 · rcases h2 with ⟨h3,h4,h5⟩|⟨y,h3,h4⟩
   · cases h3
   · rcases h4 with ⟨h5,h6⟩|⟨z,h5,h6⟩
     · exact⟨h6,fun q w' hm=>⟨a,b,c,d,_,_,some q,rfl,hv, .inr ⟨hl,x,h1, .inr ⟨y,h3, .inr ⟨q,rfl,hm⟩⟩⟩⟩⟩
     · cases h5
theorem Sq7.fin(hs:Sq7 w0 R g T V k1 k2 k3 k4 z1 z2 z3 s w)(hl:∀i,i<7→∃x,s[i]? =some (some x)):Own w0 w (⟨g,T,(setN (setN (setN V k1 z1) k2 z2) k3 z3).map v32⟩::R):=by
 obtain⟨a,b,c,d,e,f,h,rfl,hv,hc⟩:=hs
 obtain⟨x,hx⟩:=hl 4 (by omega)
 obtain⟨y,hy⟩:=hl 5 (by omega)
 obtain⟨z,hz⟩:=hl 6 (by omega)
 simp at hx hy hz
 subst hx;subst hy;subst hz
 rcases hc with ⟨h1,_⟩|⟨_,_,_,h2⟩
 · cases h1
 · rcases h2 with ⟨h3,_⟩|⟨_,_,h4⟩
   · cases h3
   · rcases h4 with ⟨h5,_⟩|⟨_,_,h6⟩
     · cases h5
     · exact h6
end
theorem mod4_int(k b q:Nat)(h:(k+b)%4=q):((k:Int)+(b:Int)).tmod 4=(q:Int):=by rw [Int.tmod_eq_emod_of_nonneg (by omega)];omega
theorem mod4_mul(k m b q:Nat)(h:(k+m*b)%4=q):((k:Int)+(m:Int)*(b:Int)).tmod 4=(q:Int):=by
 rw [Int.tmod_eq_emod_of_nonneg (by rw [←Int.natCast_mul];omega),←Int.natCast_mul];omega
theorem slanted_any(g:Nat)(l:List (BitVec 32))(b:Nat)(hb:b≤1)(hl:l.length=16)(w0 w:World)(L L':List Blk)(hm:Own w0 w L)(hs:Swap L ⟨g,182,l.map v32⟩ ⟨g,182,(slaF l b 4).map v32⟩ L'):
   Calls Tryz.prog 129 #[.pointer (some ⟨g,0,none⟩), .int .i64 (b:Int)] w fun e w'=>e= .returned (.tuple #[])∧Own w0 w' L':=by
 obtain⟨R,p1,p2⟩:=hs.front
 replace hm:=hm.perm p1
 have P2:=hid p2.symm
 have HL:=hid hl
 have QC:=hid fun (a b c d:BitVec 32)(wx:World)=>(show Gives Tryz.prog 144 #[v32 a,v32 b,v32 c,v32 d] wx (.tuple #[v32 (qA2 a b c d),v32 (qB2 a b c d),v32 (qC2 a b c d),v32 (qD2 a b c d)])from .of_same (quarter_any a b c d wx))
 have b0:(0:Int)≤(b:Int):=by omega
 have b1:(b:Int)≤1:=by omega
 clear hs p1 p2 hl
 go_enter Tryz.func129,Tryz.ntmps129
 go_wp2_with fail
 go_loopw [8] (fun i wr=>∃k:Nat,k≤4∧i= .int .i64 k∧Own w0 wr (⟨g,182,(slaF l b k).map v32⟩::R)) (fun i _=>4-(intOf i).toNat)
 case atStart=>exact⟨0,by omega,rfl,hm⟩
 case round =>
   obtain⟨k,hk,rfl,hm⟩:=hrel
   by_cases hlt:k<4
   · have hd:decide ((k:Int)<4)=true:=decide_eq_true (by omega)
     have hd2:(k:Int)<4:=by omega
     obtain⟨j1,h1⟩:∃q,(k+b)%4=q:=⟨_,rfl⟩
     obtain⟨j2,h2⟩:∃q,(k+2*b)%4=q:=⟨_,rfl⟩
     obtain⟨j3,h3⟩:∃q,(k+3*b)%4=q:=⟨_,rfl⟩
     have m1:=mod4_int k b j1 h1
     have m2:((k:Int)+2*(b:Int)).tmod 4=(j2:Int):=mod4_mul k 2 b j2 h2
     have m3:((k:Int)+3*(b:Int)).tmod 4=(j3:Int):=mod4_mul k 3 b j3 h3
     have EV:Hid (slaF l b (k+1)=quaL (slaF l b k) k (4+j1) (8+j2) (12+j3)):=hid (by rw [slaF,h1,h2,h3])
     have lV:(slaF l b k).length=16:=by rw [slaF_length];exact HL.out
     have q1:j1<4:=by omega
     have q2:j2<4:=by omega
     have q3:j3<4:=by omega
     clear h1 h2 h3
     generalize slaF l b k=V at*
     go_wp2_with fail
     have t1:(4+(j1:Int)).toNat=4+j1:=by omega
     have t2:(8+(j2:Int)).toNat=8+j2:=by omega
     have t3:(12+(j3:Int)).toNat=12+j3:=by omega
     have x1:(k:Int)<16:=by omega
     have x2:4+(j1:Int)<16:=by omega
     have x3:8+(j2:Int)<16:=by omega
     have x4:12+(j3:Int)<16:=by omega
     refine pregion 45 (Marks.of (Sq7 w0 R g 182 V k (4+j1) (8+j2) (12+j3) (qA2 (nth V k) (nth V (4+j1)) (nth V (8+j2)) (nth V (12+j3))) (qB2 (nth V k) (nth V (4+j1)) (nth V (8+j2)) (nth V (12+j3))) (qC2 (nth V k) (nth V (4+j1)) (nth V (8+j2)) (nth V (12+j3)))) Sq7.ext) [12,17,22,27,36,39,42] 71 (by kernel_rfl) (by kernel_rfl) rfl (Sq7.start (hm.ext (drew_ext _))) ?_
     simp only [zTa]
     repeat (first
         | (apply pwalk_mark (T:=[]) 0 [] rfl rfl rfl (by kernel_rfl) rfl
            · (intro vs_ wx hJ_ hn_ hD_;simp only [pwithS];obtain⟨hm,hK_⟩:=Sq7.l0 hJ_ hn_;refine⟨rfl, ?_⟩;(with_reducible apply wq_ldv hm);exact rfl;infer_instance;exact rfl;(exact .hd);(focus omega);exact mark_end rfl hK_))
         | (apply pwalk_mark (T:=[]) 1 [] rfl rfl rfl (by kernel_rfl) rfl
            · (intro vs_ wx hJ_ hn_ hD_;simp only [pwithS];obtain⟨hm,hK_⟩:=Sq7.l1 hJ_ hn_;refine⟨rfl, ?_⟩;(with_reducible apply wq_ldv hm);exact rfl;infer_instance;exact rfl;(exact .hd);(focus omega);exact mark_end rfl hK_))
         | (apply pwalk_mark (T:=[]) 2 [] rfl rfl rfl (by kernel_rfl) rfl
            · (intro vs_ wx hJ_ hn_ hD_;simp only [pwithS];obtain⟨hm,hK_⟩:=Sq7.l2 hJ_ hn_;refine⟨rfl, ?_⟩;(with_reducible apply wq_ldv hm);exact rfl;infer_instance;exact rfl;(exact .hd);(focus omega);exact mark_end rfl hK_))
         | (apply pwalk_mark (T:=[]) 3 [] rfl rfl rfl (by kernel_rfl) rfl
            · (intro vs_ wx hJ_ hn_ hD_;simp only [pwithS];obtain⟨hm,hK_⟩:=Sq7.l3 hJ_ hn_;refine⟨rfl, ?_⟩;(with_reducible apply wq_ldv hm);exact rfl;infer_instance;exact rfl;(exact .hd);(focus omega);exact mark_end rfl hK_))
         |(apply pwalk_from (T:=[(56,PMk 3),(51,PMk 2),(46,PMk 1),(41,PMk 0)]) rfl rfl rfl;(intro vs_ wx hJ_;simp only [pwithS];intro x3_ h3_ x2_ h2_ x1_ h1_ x0_ h0_;obtain rfl:=Sq7.v0 hJ_ h0_;obtain rfl:=Sq7.v1 hJ_ h1_;obtain rfl:=Sq7.v2 hJ_ h2_;obtain rfl:=Sq7.v3 hJ_ h3_;refine⟨rfl, ?_⟩;go_simp;with_reducible exact gives_call (QC.out _ _ _ _ wx));(simp only [zPu];rfl))
         | (apply pwalk_mark (T:=[]) 4 [0,1,2,3] rfl rfl rfl (by kernel_rfl) rfl
            · (intro vs_ wx hJ_ hn_ hD_;simp only [pwithS];obtain⟨hm,hK_⟩:=Sq7.s4 hJ_ hn_ hD_;refine⟨rfl, ?_⟩;(with_reducible apply wq_stv hm);exact rfl;infer_instance;exact rfl;(exact .hd);infer_instance;exact rfl;(focus (first|omega|(simp only [setN_length];omega)));clear hm;intro w_ hm;exact mark_end rfl (fun u_=>hK_ u_ _ hm)))
         | (apply pwalk_mark (T:=[]) 5 [4] rfl rfl rfl (by kernel_rfl) rfl
            · (intro vs_ wx hJ_ hn_ hD_;simp only [pwithS];obtain⟨hm,hK_⟩:=Sq7.s5 hJ_ hn_ hD_;refine⟨rfl, ?_⟩;(with_reducible apply wq_stv hm);exact rfl;infer_instance;exact rfl;(exact .hd);infer_instance;exact rfl;(focus (first|omega|(simp only [setN_length];omega)));clear hm;intro w_ hm;exact mark_end rfl (fun u_=>hK_ u_ _ hm)))
         | (apply pwalk_mark (T:=[]) 6 [5] rfl rfl rfl (by kernel_rfl) rfl
            · (intro vs_ wx hJ_ hn_ hD_;simp only [pwithS];obtain⟨hm,hK_⟩:=Sq7.s6 hJ_ hn_ hD_;refine⟨rfl, ?_⟩;(with_reducible apply wq_stv hm);exact rfl;infer_instance;exact rfl;(exact .hd);infer_instance;exact rfl;(focus (first|omega|(simp only [setN_length];omega)));clear hm;intro w_ hm;exact mark_end rfl (fun u_=>hK_ u_ _ hm)))
         | (apply pwalk_is rfl rfl rfl rfl
            · (intro vs_ wx hJ_;skip;first|((with_reducible show qGl);first|(exact zJ hm)|(exact zK hm)|(exact zL hm))|(go_simp;(try go_bits);first|exact gives_same|exact gives_skip))
            · (simp only [zPu];rfl)))
     intro vs_ wz hJ_ hl_ hall_
     simp only [zZi]
     repeat rw [pfin_is]
     rw [pfin_cons];intro x41 hx41
     repeat rw [pfin_is]
     rw [pfin_cons];intro x46 hx46
     repeat rw [pfin_is]
     rw [pfin_cons];intro x51 hx51
     repeat rw [pfin_is]
     rw [pfin_cons];intro x56 hx56
     repeat rw [pfin_is]
     rw [pfin_cons];intro y1 hy1
     repeat rw [pfin_is]
     rw [pfin_cons];intro y2 hy2
     repeat rw [pfin_is]
     rw [pfin_cons];intro y3 hy3
     repeat rw [pfin_is]
     rw [pfin_nil]
     simp only [zPu]
     clear hm
     have hm:=Sq7.fin hJ_ (fun i hi=>hall_ i hi)
     obtain rfl:=Sq7.v0 hJ_ hx41
     obtain rfl:=Sq7.v1 hJ_ hx46
     obtain rfl:=Sq7.v2 hJ_ hx51
     obtain rfl:=Sq7.v3 hJ_ hx56
     clear hJ_ hl_ hall_ hx41 hx46 hx51 hx56 hy1 hy2 hy3
     go_wp2_with (first|((with_reducible show qSt);refine zD hm ?_;clear hm;intro w hm))
     go_roundw
     case rel=>exact⟨k+1,by omega,by go_num,by rw [EV.out];exact hm⟩
     case measure=>simp [intOf]<;>omega
   · obtain rfl:k=4:=by omega
     have hd:decide (((4:Nat):Int)<4)=false:=decide_eq_false (by omega)
     replace hm:=hm.perm P2.out
     go_wp2_with fail
     go_end0
     exact⟨rfl,hm⟩
end Go.Proofs.YtneacgpmjlocjaaGreatDoor
