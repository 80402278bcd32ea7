/-
  Texts of the program, walked, and plain ones. Conditions: those written in each theorem.
-/
import Derived.Test.YtneacgpmjlocjaaGreatDoorZTopText0
import Derived.Test.YtneacgpmjlocjaaGreatDoorZTopText18
import Derived.Test.YtneacgpmjlocjaaGreatDoorZTopText3
import Derived.RangeFuncNested
import Derived.RangeFuncBound
import Derived.RangeFuncCalls
import Derived.RangeFuncLeaves
import Derived.OrdersIn
import Derived.Test.YtneacgpmjlocjaaGreatDoorZTopText11
import Derived.Shelf.Abstract
import Derived.WalkKit
import Derived.OwnWalkIn
import Derived.TacticsInMore
import Derived.LoopNIn
import Derived.LoopIn
set_option linter.unusedSimpArgs false
set_option linter.unusedVariables false
set_option maxHeartbeats 16000000
open Go.Lib (hid)
namespace Go.Proofs.YtneacgpmjlocjaaGreatDoor
open Go Go.RowKit
set_option maxRecDepth 100000
section
variable {P:Program} {ops:Array Oper} {Q:Exit→Act→World→Prop} {rest:List Oper} {dst:Option Tmp} {ty:TypeId} {pos:String} {aft:Array Edge} {gd:Option (Nat×Bool)} {a:Act} {w0 w:World} {L L':List Blk} {T t:TypeId} {x y:Operand} {g k:Nat} {cs cs':List Value} {v:Value}
theorem wq_stfT(hm:Own w0 w L)(hgd:Region.wanted (Oper.mk dst (.store T x y) ty pos aft gd) (yielded ops a.tmps)=true)(hT:One1 P T)(hx:a.eval x= .pointer (some ⟨g,k,none⟩))(hy:a.eval y=v)(hval:v.cells= #[v])(h1:v.oneCell'=true)(hs:Swap L ⟨g,t,cs⟩ ⟨g,t,cs'⟩ L')(he:cs.set k v=cs')(hk:k<cs.length)(hr:∀w',Own w0 w' L'→wpList P ops Q rest (a.put dst undef) w'):wpList P ops Q ((Oper.mk dst (.store T x y) ty pos aft gd)::rest) a w:=wpl_st1 hm hgd rfl hx hy hval h1 hs hk he hr
end
theorem sl_first {M:List Blk}{e:TypeId}{p:Option Addr}{c:Nat}{l:List Byte}(h:SlO M e 1 (.slice p l.length c) l.length (l.map v8))(h0:0<l.length):∃(g o:Nat)(cur:List Value),p=some ⟨g,o,none⟩∧M=[⟨g,e,cur⟩]∧cur[o]? =some (v8 (nth l 0))∧o<cur.length∧l.length≤c∧∀x:Byte,SlO [⟨g,e,cur.set o (v8 x)⟩] e 1 (.slice p l.length c) l.length ((setN l 0 x).map v8):=by
 obtain⟨hl,h⟩:=h
 rcases h with ⟨_,h1,_⟩|⟨g,o,cap,cur,he,rfl,h1,h2,h3,h4⟩
 · omega
 · cases he
   have ho:o<cur.length:=by omega
   rw [Nat.mul_one]at h4
   refine⟨g,o,cur,rfl,rfl, ?_,ho,h1,fun x=>⟨by simp [setN_length], .inr ⟨g,o,c,_,rfl,rfl,h1,h2,by rw [List.length_set];exact h3, ?_⟩⟩⟩
   · have h5:((cur.drop o).take l.length)[0]? =(l.map v8)[0]? :=by rw [h4]
     rw [List.getElem?_take,if_pos h0,List.getElem?_drop,Nat.add_zero]at h5
     rw [h5];exact map8_at l h0
   · rw [Nat.mul_one,List.drop_set,if_neg (by omega),Nat.sub_self,List.take_set,h4]
     exact map8_set l x
theorem flip_sl(g:Nat)(F:Int→Int→List Byte→List Byte)(hF:∀j m x,(F j m x).length=16)(h:List Byte)(hh:h.length=16)(l:List Byte)(p:Option Addr)(c:Nat)(hl:l.length≤1000)(w0:World)(hr:RdB w0 p l)
   (CE:∀wx,Ext w0 wx→∀(j m:Int)(x:List Byte),x.length=16→j≤9223372036854775807→m≤9223372036854775807→Gives Tryz.prog 98 #[.pointer (some ⟨g,0,none⟩), .int .i64 j, .int .i64 m,A8 x] wx (A8 (F j m x))):
   Calls Tryz.prog 112 #[.pointer (some ⟨g,0,none⟩),A8 h, .slice p l.length c] w0 fun e w'=>∃v M,e= .returned v∧SlO M 5 1 v l.length ((flipL F h l).map v8)∧Own w0 w' M:=by
 have hm:=Own.start w0
 have CL:=hid fun w (hx:Ext w0 w)=>clone_sl l p c w (hr.ext hx) (by omega)
 by_cases hs:l.length=0∨16≤l.length
 · have eF:flipL F h l=l:=if_pos hs
   rw [eF]
   clear eF hr CE hF
   by_cases h0:l.length=0
   · have a1:((l.length:Int)==0)=true:=by rw [h0];rfl
     have a2:(l.length:Int)=0:=by omega
     have H0:=hid h0
     clear h0 hs
     go_enter Tryz.func112,Tryz.ntmps112
     go_wp2_with (first|((first|((with_reducible show qBx);first|(refine zH hm ?_)));clear hm;intro gx_;intro w hm))
     refine(CL.out _ hm.x).mono ?_
     rintro e w ⟨v1,M1,rfl,hs1,hmM⟩
     obtain⟨p1,c1,rfl⟩:=hs1.form
     have HS1:=hid hs1
     have hm2:=Own.join hm hmM
     clear hm hmM hs1
     have hm:=hm2
     clear hm2
     go_wp2_with fail
     go_ret
     exact⟨_,M1,rfl,HS1.out,(hm.perm List.perm_append_comm).dropN⟩
   · have a1:((l.length:Int)==0)=false:=by rw [beq_eq_false_iff_ne];omega
     have a2:¬(l.length:Int)=0:=by omega
     have a3:decide ((16:Int)≤(l.length:Int))=true:=decide_eq_true (by omega)
     have a4:(16:Int)≤(l.length:Int):=by omega
     have a5:decide ((l.length:Int)≥16)=true:=decide_eq_true (by omega)
     clear hs
     go_enter Tryz.func112,Tryz.ntmps112
     go_wp2_with (first|((first|((with_reducible show qBx);first|(refine zH hm ?_)));clear hm;intro gx_;intro w hm))
     refine(CL.out _ hm.x).mono ?_
     rintro e w ⟨v1,M1,rfl,hs1,hmM⟩
     obtain⟨p1,c1,rfl⟩:=hs1.form
     have HS1:=hid hs1
     have hm2:=Own.join hm hmM
     clear hm hmM hs1
     have hm:=hm2
     clear hm2
     go_wp2_with fail
     go_ret
     exact⟨_,M1,rfl,HS1.out,(hm.perm List.perm_append_comm).dropN⟩
 · have eF:flipL F h l=setN l 0 (nth l 0^^^(nth (F 0 3 (topB h l)) 0&&&128#8)):=if_neg hs
   have a1:((l.length:Int)==0)=false:=by rw [beq_eq_false_iff_ne];omega
   have a2:¬(l.length:Int)=0:=by omega
   have a3:decide ((16:Int)≤(l.length:Int))=false:=decide_eq_false (by omega)
   have a4:¬(16:Int)≤(l.length:Int):=by omega
   have a5:decide ((l.length:Int)≥16)=false:=decide_eq_false (by omega)
   have B1:=hid fun w (hx:Ext w0 w)=>oblock_any l p c w (hr.ext hx)
   obtain⟨B,hB⟩:∃B,B=blk l:=⟨_,rfl⟩
   obtain⟨S,hS⟩:∃S,S=bothL (setN B 0 (nth B 0|||128#8)) h:=⟨_,rfl⟩
   obtain⟨X,hX⟩:∃X,X=F 0 3 S:=⟨_,rfl⟩
   rw [←hB]at B1
   have lB:B.length=16:=by rw [hB];exact blk_length _
   have lB2:(setN B 0 (nth B 0|||128#8)).length=16:=by rw [setN_length];exact lB
   have lS:S.length=16:=by rw [hS];exact bothL_length _ _
   have lX:X.length=16:=by rw [hX];exact hF _ _ _
   have eF2:flipL F h l=setN l 0 (nth l 0^^^(nth X 0&&&128#8)):=by rw [eF,hX,hS,hB];rfl
   rw [eF2]
   have E1:=hid fun w (hx:Ext w0 w)=>hX ▸ CE w hx 0 3 S lS (by omega) (by omega)
   have P1:=hid fun (w:World)(p:Option Addr)(c:Nat)(hc:2≤c)(hk:RdK w p 16 [setN B 0 (nth B 0|||128#8),h])=>show Gives Tryz.prog 134 #[.slice p 2 c] w (A8 S)from hS ▸ tplus_two _ _ lB2 p c w hk hc
   have k1:=hid (show∀q∈[setN B 0 (nth B 0|||128#8),h],q.length=16 from by simp [lB2,hh])
   have h0:0<l.length:=by omega
   clear hB hS hX eF eF2 hr CE hF hs
   go_enter Tryz.func112,Tryz.ntmps112
   go_wp2_with (first|((first|((with_reducible show qBx);first|(refine zH hm ?_)));clear hm;intro gx_;intro w hm))
   refine(CL.out _ hm.x).mono ?_
   rintro e w ⟨v1,M1,rfl,hs1,hmM⟩
   obtain⟨p1,c1,rfl⟩:=hs1.form
   obtain⟨go,o,cur,rfl,rfl,hc1,ho,hlc,hset⟩:=sl_first hs1 h0
   have HSET:=hid hset
   have HC1:=hid hc1
   have hm2:=Own.join hm hmM
   clear hm hmM hs1 hset hc1
   simp only [List.cons_append,List.nil_append]at hm2
   have hm:=hm2
   clear hm2
   have b1:(0:Int)<(l.length:Int):=by omega
   go_wp2_with (first|(go_at_call 69;(with_reducible refine(B1.out _ hm.x).mono ?_);rintro e_ w ⟨rfl,hx_⟩;replace hm:=hm.ext hx_;clear hx_)|((with_reducible apply wq_bs2 hm (bs_run2 (setN B 0 (nth B 0|||128#8)) h lB2 hh _));exact rfl;exact rfl;exact rfl;clear hm;intro gq w hm)|(go_at_call 134;(with_reducible refine(P1.out _ _ _ (Nat.le_refl 2) (hm.rdK (by repeat (first|exact Has.hd|assumption|apply Has.tl|apply Has.app)) k1.out)).mono ?_);rintro e_ w ⟨rfl,hx_⟩;replace hm:=hm.ext hx_;clear hx_)|(go_at_call 98;(with_reducible refine(E1.out _ hm.x).mono ?_);rintro e_ w ⟨rfl,hx_⟩;replace hm:=hm.ext hx_;clear hx_)|((with_reducible show qLd);first|(refine zA hm ?_)|(refine zB hm ?_))|((((with_reducible show qSt);first|(refine zD hm ?_)|(refine zE hm ?_)));clear hm;intro w hm)|((first|((with_reducible show qAl);first|(refine zG hm ?_)));clear hm;intro gx_;intro w hm))
   refine rgE 8 44 ?_
   simp only [tSC,tZe,dSC,dZe,mCo,mNi]
   repeat (first
       |(apply walk_is rfl rfl rfl;(intro wx hwx;(with_reducible apply gq_ld1 (hm.ext hwx));infer_instance;exact rfl;(focus ((repeat (first|exact .hd|assumption|apply Has.tl|apply Has.app));done));(exact HC1.out));(simp only [Act.put,sIB,sCS,sCZ];rfl))
       | (apply walk_is rfl rfl rfl
          · (intro wx hwx;first|((with_reducible show qGl);first|(exact zJ (hm.ext hwx)))|(go_simp;(try go_bits);first|exact gives_same|exact gives_skip))
          · (simp only [Act.put,sIB,sCS,sCZ];rfl))
       | (apply walk_not rfl rfl rfl
          · (simp only [Act.put,sIB,sCS,sCZ];rfl)))
   intro wz hwz
   simp only [zCC,zNR]
   repeat (first|rw [fin_is]|(rw [fin_cons];intro _ _))
   rw [fin_nil]
   try (replace hm:=hm.ext hwz)
   simp only [Act.put,sIB,sCS,sCZ]
   go_wp2_with (first|((with_reducible show qSt);(with_reducible apply wq_stfT (v:=v8 (nth l 0^^^(nth X 0&&&128#8))) hm);exact rfl;infer_instance;exact rfl;exact rfl;exact rfl;exact rfl;(focus ((repeat (first|exact .hd|apply Swap.tl|apply Swap.app));done));exact rfl;(first|exact ho|omega);clear hm;intro w hm))
   go_ret
   exact⟨_,_,rfl,HSET.out _,own_subT hm (by repeat (first|exact List.Sublist.refl _|exact List.nil_sublist _|apply List.Sublist.cons_cons|apply List.Sublist.cons))⟩
section
variable {P:Program} {ops:Array Oper} {Q:Exit→Act→World→Prop}
theorem rowsIn_round(lp n:Nat){row:String}{args:Array Value}{w:World}{R:Value→World→Prop}(h:Rows P row args w R):RowsIn (Fence.wide.inRound lp) n P row args w R:=
 fun c cs _=>let ⟨v,w',r,s⟩:=h c cs;⟨v,w',r,stepsIn_wide.2 s⟩
theorem callsIn_round(lp n:Nat){f:FuncId}{args:Array Value}{w:World}{R:Ending→World→Prop}(h:Calls P f args w R):CallsIn (Fence.wide.inRound lp) n P f args w R:=
 CallsIn.inRound lp (callsIn_wide.2 h)
theorem uponIn_round(lp n:Nat){o:Oper}{a:Act}{K:Act→World→Prop}{r:Result Next}(h:o.upon P a K Q r):o.uponIn (Fence.wide.inRound lp) n P a K Q r:=by
 cases r with
 | ok x w=>
   cases x with
   |value v=>exact h
   |skip=>exact h
   |defer d=>exact h
   |enter f args=>exact⟨fun hd=>(by cases hd),(callsIn_round lp (n-1) h).mono fun e w' he=>by cases e<;>exact he⟩
   |row r args=>exact⟨fun hd=>(by cases hd),rowsIn_round lp (n-1) h⟩
   |_=>exact h.elim
 |halt x w=>cases x<;>first|exact h|exact h.elim
def noDefer(l:List Oper):Bool:=l.all fun o=>match o.op with| .defer _=>false|_=>true
theorem noDefer_out {l:List Oper}(h:noDefer l=true):∀(i:Nat)(o:Oper),l.toArray[i]? =some o→∀c,o.op≠ .defer c:=fun i o ho c hc=>by
 have hm:o∈l:=by simpa using Array.mem_of_getElem? ho
 have:=List.all_eq_true.1 h o hm
 rw [hc]at this
 simp at this
theorem opIn_round(lp n:Nat)(hQ:¬LetsOut Q)(hd:∀(i:Nat)(o:Oper),ops[i]? =some o→∀c,o.op≠ .defer c){i:Nat}{K:Act→World→Prop}{a:Act}{w:World}(h:wpOp P ops Q i K a w):wpOpIn (Fence.wide.inRound lp) n P ops Q i K a w:=by
 unfold wpOp at h
 unfold wpOpIn
 cases ho:ops[i]? with
 |none=>simp only [ho]at h⊢;exact h
 | some o=>
   simp only [ho]at h⊢
   by_cases hw:Region.wanted o (yielded ops a.tmps)=true
   · simp only [hw,if_true]at h⊢
     rcases h with h|h
     · refine⟨fun _ _=>trivial, ?_⟩
       rw [Oper.semAt_eq _ _ _ (hd i o ho)]
       exact uponIn_round lp n h
     · exact(hQ h.2).elim
   · simp only [hw]at h⊢
     exact⟨fun _ _=>trivial,h⟩
theorem anyIn_round(lp n:Nat)(hQ:¬LetsOut Q)(hd:∀(i:Nat)(o:Oper),ops[i]? =some o→∀c,o.op≠ .defer c){md:Region.Mode}:∀(fuel:Nat)(listed:Array Bool)(a:Act)(w:World),wpAny P md ops Q fuel listed a w→wpAnyIn (Fence.wide.inRound lp) n P md ops Q fuel listed a w
 |0,_,_,_,h=>h
 |fuel+1,_,_,_,⟨h1,h2⟩=>⟨h1,fun i hi=>wpOpIn_mono (fun _ _=>anyIn_round lp n hQ hd fuel _ _ _) (opIn_round lp n hQ hd (h2 i hi))⟩
theorem region_walkIn(lp n:Nat)(hQ:¬LetsOut Q){id:Nat}{pre suf:List Oper}{a0:Act}{w0:World}(H:World→Prop)(hm:P.follows .mixedOrders=true)(hnd:noDefer (pre++suf)=true)
   (hB:orderOk (pre++suf).toArray pre.length a0.tmps.size=true) (hH:∀w w',H w→Ext w w'→H w') (hw:H w0.drew)
   (h:walkA P (pre++suf).toArray H pre (fun t=>Is (a0.tmps.getD t undef)) (fun Vs=>∀w',H w'→fin (fun a w=>Apart (newsOf pre) a→wpList P (pre++suf).toArray Q suf a w) ((pre.map (·.dst)).zip Vs) a0 w')):
   (Code.region id (pre++suf).toArray true).wpIn (Fence.wide.inRound lp) n P Q a0 w0:=by
 obtain⟨Vs,hVl,hfin,hob⟩:=walkA_out _ _ _ h
 refine wpIn_region_any hm (anyIn_round lp n hQ (noDefer_out hnd) _ _ _ _ ?_)
 refine head_ok hVl (orderOk_out hB) hH hob hfin _ _ _ _ (by simp) (fun j _=>by simp [Array.getElem?_replicate];split<;>rfl) ?_ ⟨hw,rfl,rfl, ?_, ?_,fun _ _=>rfl, ?_⟩
 · unfold left;refine Nat.le_trans (List.length_filter_le _ _) (by simp)
 · intro i o e hoi hli
   simp [Array.getElem?_replicate]at hli
   split at hli<;>simp at hli
 · intro i o V hoi hVi hli
   simp [Array.getElem?_replicate]at hli
   split at hli<;>simp at hli
 · intro i o d hoi _ hli
   simp [Array.getElem?_replicate]at hli
   split at hli<;>simp at hli
theorem region_SIn(lp nn:Nat)(hQ:¬LetsOut Q){id:Nat}{pre suf:List Oper}{a0:Act}{w0:World}(H:World→Prop)(sz:Nat)(hm:P.follows .mixedOrders=true)(hnd:noDefer (pre++suf)=true)
   (hB:(orderOk (pre++suf).toArray pre.length sz&&Region.noSelect (pre++suf).toArray)=true) (hsz:a0.tmps.size=sz) (hH:∀w w',H w→Ext w w'→H w') (hw:H w0.drew)
   (h:walkS P (pre++suf).toArray H sz pre a0 [] (fun Vs=>∀w',H w'→fin (fun a w=>Apart (newsOf pre) a→wpList P (pre++suf).toArray Q suf a w) ((pre.map (·.dst)).zip Vs) a0 w')):
   (Code.region id (pre++suf).toArray true).wpIn (Fence.wide.inRound lp) nn P Q a0 w0:=by
 rw [Bool.and_eq_true]at hB
 subst hsz
 refine region_walkIn lp nn hQ H hm hnd hB.1 hH hw (walkA_of_S pre a0 [] _ _ (fun o ho cs b=> ?_) (fun t=>rfl) (by simp) (by simp) rfl h)
 obtain⟨i,hi,he⟩:=List.getElem_of_mem ho
 exact Region.noSelect_spec hB.2 i o cs b (by rw [←he];simp [List.getElem?_append_left hi])
theorem region_in(lp nn:Nat)(hQ:¬LetsOut Q){id:Nat}{l:List Oper}{a0:Act}{w0:World}(n:Nat)(H:World→Prop)(sz:Nat)(hm:P.follows .mixedOrders=true)(hnd:noDefer l=true)
   (hB:(orderOk l.toArray (l.take n).length sz&&Region.noSelect l.toArray)=true) (hsz:a0.tmps.size=sz) (hH:∀w w',H w→Ext w w'→H w') (hw:H w0.drew)
   (h:walkS P l.toArray H sz (l.take n) a0 [] (fun Vs=>∀w',H w'→fin (wpList P l.toArray Q (l.drop n)) (((l.take n).map (·.dst)).zip Vs) a0 w')):
   (Code.region id l.toArray true).wpIn (Fence.wide.inRound lp) nn P Q a0 w0:=by
 have e:=List.take_append_drop n l
 have:=region_SIn lp nn hQ (id:=id) (pre:=l.take n) (suf:=l.drop n) (a0:=a0) (w0:=w0) (Q:=Q) (P:=P) H sz hm (by rw [e];exact hnd) (by rw [e];exact hB) hsz hH hw (by
   rw [e]
   exact walkS_mono _ _ _ _ _ (fun _ hF w' hw'=>fin_mono (Q2:=fun a w=>Apart (newsOf (l.take n)) a→wpList P l.toArray Q (l.drop n) a w) (fun _ _ q _=>q) _ _ _ (hF w' hw')) h)
 rwa [e]at this
end
open Go Go.RowKit Go.Shelf
attribute [local go_sem] Oper.semAt_some
theorem Ext.others {w w':World}(h:Ext w w'):KeepsOthers w w':=⟨h.size,fun _ _ hk _=>h.block hk⟩
theorem Own.kept {w0 A B:World}{L:List Blk}{row:Option Nat}(h:Own w0 A L)(hg:A.grownBy B row)(hr:∀r,row=some r→w0.heap.size≤r∧∃o:Obj,A.heap[r]? =some o∧o.isCells=false):Own w0 B L:=
 ⟨Below.grown h.1 hg h.1.size (fun k e=>(hr k e).1),h.2.1,fun b hb=>⟨(h.2.2 b hb).1,(grownBy_keeps_cells hg (fun r e=>(hr r e).2) (h.2.2 b hb).2 rfl).trans (h.2.2 b hb).2⟩⟩
section
variable {P:Program} {ops:Array Oper} {Q:Exit→Act→World→Prop} {rest:List Oper} {dst:Option Tmp} {ty:TypeId} {pos:String} {aft:Array Edge} {gd:Option (Nat×Bool)} {a:Act} {w0 w:World} {L L':List Blk} {T t:TypeId} {x y:Operand} {g n:Nat} {cs cs':List Value}
theorem wq_stWK(hm:Own w0 w L)(hgd:Region.wanted (Oper.mk dst (.store T x y) ty pos aft gd) (yielded ops a.tmps)=true)(hT:Many P T n)(hx:a.eval x= .pointer (some ⟨g,0,none⟩))(hy:a.eval y= .agg cs'.toArray)(hs:Swap L ⟨g,t,cs⟩ ⟨g,t,cs'⟩ L')(hl:cs'.length=n)(hl2:cs.length=n)(h1:∀v∈cs',v.oneCell'=true)
   (hr:∀w',Own w0 w' L'→KeepsOthers w w'→Below w0.heap.size w w'→wpList P ops Q rest (a.put dst undef) w'):wpList P ops Q ((Oper.mk dst (.store T x y) ty pos aft gd)::rest) a w:=
 wpList_want hgd fun K hK=>by
   have hrow:=hm.row hs.has
   have hrun:=run_storeAt_row (P:=P) (T:=T) hrow (by rw [hl,hl2]) (by rw [hl];exact hT.size) h1
   unfold Oper.wp execOp
   simp only [hx,hy,Sem.run_bind,hrun,Result.andThen_ok]
   refine hK _ _ (hr _ (hm.turn hs) ⟨by simp,fun k o hk ho=> ?_⟩ (below_setRow (Below.refl _ _) g _ (hm.2.2 _ hs.has.mem).1))
   rw [setRow_other]
   · exact hk
   · rintro rfl
     rw [hrow]at hk;cases hk;cases ho
theorem retM_own {F:Fence}{nn:Nat}{fn:Func}{R:Ending→World→Prop}{p:Tmp}{D:Nat}(hm:Own w0 w L)(h:fn.results= #[.cell p T])(hp:a.tmps.getD p undef= .pointer (some ⟨g,0,none⟩))(hT:Many P T n)(hh:Has L ⟨g,t,cs⟩)(hn:cs.length=n)
   (hf:a.defers=[{target:= .collected D,args:= #[]}]) (hD:w0.heap.size≤D) (hK:w.heap[D]? =some (.deferred (some []))) (hR:∀w',Ext w0 w'→R (.returned (.agg cs.toArray)) w'):bodyPostM F nn P fn R .ret a w:=by
 obtain⟨d,hu,hd⟩:=Option.map_eq_some_iff.1 hT.row
 have hm2:Own w0 (w.putObj D (.deferred none)) L:=hm.kept (grownBy_putObj' w D _) (fun r e=>by cases e;exact⟨hD,_,hK,rfl⟩)
 show LeavesInM F nn P fn a.tmps R a.defers .returning w
 rw [hf]
 refine⟨by simp, .inl ⟨_,_,rfl,run_takeDeferred hK, ?_⟩⟩
 exact⟨_,results_cell_row h _ _ g t cs.toArray (0,0) d hp (hm2.row hh) hu (by cases d<;>simp_all) (by rw [List.size_toArray,hn];exact hT.size),hR _ hm2.x⟩
end
theorem numbered_any(p:Option Addr)(n c:Nat)(w0:World):Calls Tryz.prog 122 #[.slice p n c] w0 fun e w=>∃g,e= .returned (.func (.func 140) #[] #[.pointer (some ⟨g,0,none⟩)])∧w0.heap.size≤g∧Row w g 48 [.slice p n c]∧Ext w0 w:=by
 have hm:=Own.start w0
 go_enter Tryz.func122,Tryz.ntmps122
 go_wp2_with (first|((first|((with_reducible show qBx);first|(refine zI hm ?_)));clear hm;intro gx_;intro w hm))
 go_ret
 exact⟨_,rfl,(hm.2.2 _ Has.hd.mem).1,hm.row .hd,hm.x⟩
set_option maxRecDepth 100000 in
theorem numbered1_in(n:Nat)(hn:1≤n)(l Bs:Nat)(w0:World)(N c:Nat)(p:Option Addr)(vs:Nat→Value)(hN:N≤70368744177000)(hNc:N≤c)(hp:0<N→p.isSome=true)(hc:∀j,j<N→w0.cell? ((p.getD default).add j)=some (vs j))
   (J Jx:List {i:Nat//i<N}→World→Prop)
   (hY:∀pre x W,J pre W→pre.length<N→YieldAt Fence.wide (n-1) Tryz.prog l #[.int .i64 (3+(x.1:Int)),vs x.1] W fun e W'=>(e= .returned (.bool true)∧J (pre++[x]) W'∧Below w0.heap.size W W')∨(e= .returned (.bool false)∧Jx (pre++[x]) W'))
   (W:World) (hW:Ext w0 W) (hBs:W.cell? ⟨Bs,0,none⟩=some (.slice p N c)) (h0:J [] W):
   CallsIn Fence.wide n Tryz.prog 140 #[.func (.yield l) #[] #[], .pointer (some ⟨Bs,0,none⟩)] W fun e W'=>(∃v,e= .returned v)∧
     ((∃xs:List {i:Nat//i<N},xs.map (·.1)=List.range N∧J xs W')∨(∃pre:List {i:Nat//i<N},True∧Jx pre W')):=by
 refine callsIn_of_wp Tryz.func140 rfl trivial ?_ rfl
 simp only [Tryz.ntmps140,List.size_toArray,List.length_cons,List.length_nil,Nat.reduceAdd,Nat.reduceSub,Array.replicate_succ,Array.replicate_zero,List.push_toArray,List.append_toArray,List.nil_append,List.cons_append]
 gi_wp2
 gi_loopw [7] (fun i wr=>∃(k:Nat)(xs:List {i:Nat//i<N}),k≤N∧i= .int .i64 k∧xs.map (·.1)=List.range k∧J xs wr∧Below w0.heap.size w0 wr) (fun i _=>N-(intOf i).toNat)
 case atStart=>exact⟨0,[],Nat.zero_le _,rfl,rfl,h0,hW⟩
 case round=>
   obtain⟨k,xs,hk,rfl,hxs,hJs,hnx⟩:=hrel
   have hxl:xs.length=k:=by have:=congrArg List.length hxs;simpa using this
   by_cases hlt:k<N
   · obtain⟨a,rfl⟩:=Option.isSome_iff_exists.1 (hp (by omega))
     have hcell:wr.cell? (a.add k)=some (vs k):=Ext.cell hnx (hc k hlt)
     obtain⟨fn,tmps,assign,body,hy,hR⟩:=hY xs ⟨k,hlt⟩ wr hJs (by rw [hxl];exact hlt)
     dsimp only at hy
     have hlt':(k:Int)<(N:Int):=by omega
     have hb3:(3:Int)+(k:Int)≤9223372036854775807:=by omega
     clear hY hc hp
     gi_wp2
     refine hR.mono ?_
     rintro e W3 (⟨rfl,hJ3,hk3⟩|⟨rfl,hJx3⟩)
     · gi_wp2
       go_roundw
       case rel=>exact⟨k+1,_,by omega,by simp,by rw [List.map_append,hxs,List.range_succ];rfl,hJ3,hnx.trans hk3⟩
       case measure=>simp [intOf];omega
     · gi_wp2
       refine bodyPost_ret (results_none rfl _ _ _) rfl ?_
       exact⟨⟨_,rfl⟩, .inr ⟨_,trivial,hJx3⟩⟩
   · obtain rfl:k=N:=by omega
     gi_wp2
     go_end0
     exact⟨⟨_,rfl⟩, .inl ⟨_,hxs,hJs⟩⟩
theorem numbered_stops(n:Nat)(hn:1≤n)(Bs:Nat)(w0 w:World)(N c:Nat)(p:Option Addr)(vs:Nat→Value)(hN:N≤70368744177000)(hNc:N≤c)(hp:0<N→p.isSome=true)(hc:∀j,j<N→w0.cell? ((p.getD default).add j)=some (vs j))(hw:Ext w0 w)(hBs:w.cell? ⟨Bs,0,none⟩=some (.slice p N c)):
   SeqStopsK Fence.wide n Tryz.prog 140 #[.pointer (some ⟨Bs,0,none⟩)] (fun x:{i:Nat//i<N}=> #[.int .i64 (3+(x.1:Int)),vs x.1]) (Below w0.heap.size) (fun xs=>xs.map (·.1)=List.range N) (fun _=>True) N w:=
 fun l J Jx W hW _ _ hY h0=>numbered1_in n hn l Bs w0 N c p vs hN hNc hp hc J Jx hY W (Ext.trans hw hW) (Ext.cell hW hBs) h0
end Go.Proofs.YtneacgpmjlocjaaGreatDoor
namespace Go.Proofs.YtneacgpmjlocjaaGreatDoor
open Go Go.RowKit Go.Shelf
set_option maxRecDepth 100000
attribute [local go_sem] Oper.semAt_some
def foldH(F:Int→Int→List Byte→List Byte)(ls:List (List Byte))(is:List Nat):List Byte:=is.foldl (fun (s:List Byte)(i:Nat)=>bothL s (partG (F ((i:Int)+3)) (ls.getD i []))) (zer 16)
theorem foldH_snoc(F:Int→Int→List Byte→List Byte)(ls:List (List Byte))(is:List Nat)(i:Nat):foldH F ls (is++[i])=bothL (foldH F ls is) (partG (F ((i:Int)+3)) (ls.getD i [])):=by
 rw [foldH,List.foldl_append];rfl
theorem foldH_range(F:Int→Int→List Byte→List Byte)(ls:List (List Byte)):∀n,foldH F ls (List.range n)=hashF F ls n
 |0=>rfl
 |n+1=>by rw [List.range_succ,foldH_snoc,foldH_range F ls n,hashF]
theorem foldH_length(F:Int→Int→List Byte→List Byte)(ls:List (List Byte))(is:List Nat):(foldH F ls is).length=16:=by
 rcases List.eq_nil_or_concat is with rfl|⟨l,i,rfl⟩
 · exact zer_length
 · rw [List.concat_eq_append,foldH_snoc];exact bothL_length _ _
set_option maxRecDepth 100000 in
theorem hhash_any(kv:Value)(hkv:kv.cells= #[kv])(hkv1:kv.oneCell'=true)(F:Int→Int→List Byte→List Byte)(hF:∀j m x,(F j m x).length=16)(ls:List (List Byte))(q:Option Addr)(d:Nat)(w0:World)(hl:RdR w0 q ls)(hld:ls.length≤d)(hlm:ls.length≤70368744177000)(hls:∀i,(ls.getD i []).length≤70368744177000)
   (CE:∀wx,Ext w0 wx→∀(j m:Int)(x:List Byte),x.length=16→j≤9223372036854775807→m≤9223372036854775807→Gives Tryz.prog 98 #[kv, .int .i64 j, .int .i64 m,A8 x] wx (A8 (F j m x))):
   Gives Tryz.prog 97 #[kv, .slice q ls.length d] w0 (A8 (hashG F ls)):=by
 unfold Gives
 have hm:=Own.start w0
 have HE:=hid CE
 have HF:=hid hF
 have HL:=hid hl
 have HS:=hid hls
 -- the row's cells
 obtain⟨vs,hvs⟩:∃vs:Nat→Value,∀i,i<ls.length→w0.cell? ((q.getD default).add i)=some (vs i)∧∃p c,vs i= .slice p (ls.getD i []).length c∧RdB w0 p (ls.getD i [])∧(ls.getD i []).length≤c:=by
   refine⟨fun i=>(w0.cell? ((q.getD default).add i)).getD undef,fun i hi=> ?_⟩
   obtain⟨p,c,h1,h2,h3⟩:=hl.2 i hi
   dsimp only
   exact⟨by rw [h1];rfl,p,c,by rw [h1];rfl,h2,h3.1⟩
 have HV:=hid hvs
 have HQ:=hid hl.1
 have lG:=hashG_length F ls
 have eG:Hid (foldH F ls (List.range ls.length)=hashG F ls):=hid (foldH_range F ls ls.length)
 have lFo:=hid (foldH_length F ls)
 clear CE hF hl hls hvs
 generalize hN:ls.length=N at*
 generalize hashG F ls=D at*
 refine(callsIn_wide (n:=4)).1 ?_
 refine callsIn_of_wp_marks Tryz.func97 rfl trivial ?_ rfl
 refine wpIn_wide.2 ?_
 simp only [Tryz.ntmps97,List.size_toArray,List.length_cons,List.length_nil,Nat.reduceAdd,Nat.reduceSub,Array.replicate_succ,Array.replicate_zero,List.push_toArray,List.append_toArray,List.nil_append,List.cons_append]
 go_wp2_with (first|((with_reducible apply wq_box1 (v:=kv) hm);exact rfl;exact rfl;exact hkv;clear hm;intro g1 w hm)|((first|((with_reducible show qAl);first|(refine zG hm ?_)));clear hm;(first|(have hx_:=g1;clear hx_;(first|(have hx_:=g2;clear hx_;(first|(have hx_:=g3;clear hx_;intro gx_)|intro g3))|intro g2))|intro g1);intro w hm))
 refine(numbered_any q N d _).mono ?_
 rintro e_ w ⟨gb,rfl,hgb_,hrb_,hx_⟩
 replace hm:=hm.push hx_ hgb_ hrb_
 clear hgb_ hrb_ hx_
 go_wp2_with fail
 refine(wpIn_wide (n:=4)).1 ?_
 have hx0:=hm.x
 have hBs:_root_.Go.World.cell? w ⟨gb,0,none⟩=some (.slice q N d):=by rw [row_cell (hm.row .hd) 0];rfl
 refine wpIn_rangeFunc_ownG (F:=Fence.wide) rfl (by omega) (gf:=140) (lb:= #[.pointer (some ⟨gb,0,none⟩)]) rfl trivial (enters_of Tryz.func140 (by kernel_rfl) rfl)
   (numbered_stops 3 (by omega) gb w0 w N d q vs hlm hld HQ.out (fun j hj=>(HV.out j hj).1) hx0 hBs) belowK_t (belowK_b hx0.size) (Below.refl _ _) (fun _=>rfl)
   (fun (pre:List {i:Nat//i<N}) W=>Own w0 W [⟨gb,48,[.slice q N d]⟩,⟨g3,132,(foldH F ls (pre.map fun x:{i:Nat//i<N}=>x.1)).map v8⟩,⟨g2,132,(zer 16).map v8⟩,⟨g1,103,[kv]⟩])
   (fun _ _ _=>False)
   (fun s A B row hs hg hr=>hs.kept hg (fun r e=>⟨Nat.le_trans hx0.size (hr r e).1,(hr r e).2⟩))
   (fun _ _ _ _ _ hs _ _=>hs)
   hm
   (fun x=>{tmps:= #[kv, .slice q N d, .pointer (some ⟨g1,0,none⟩),undef, .pointer (some ⟨g2,0,none⟩), .pointer (some ⟨g3,0,none⟩), .int .i64 (3+(x.1:Int)),vs x.1, .slice q N d, .func (.func 140) #[] #[.pointer (some ⟨gb,0,none⟩)], .int .i64 (3+(x.1:Int)),vs x.1,undef,undef,undef,undef,undef,undef,undef],defers:=[]}) ?assign ?body ?done ?stop
 case assign=>
   intro l x W K hK
   gi_wp2
   exact hK
 case body=>
   rintro l pre ⟨i,hi⟩ W hI _
   obtain⟨_,p,cp,hv,hrd,hcp⟩:=HV.out i hi
   have hm:=hI
   clear hI
   dsimp only
   rw [hv]
   have hxW:=hm.x
   have hlb:=HS.out i
   have c1:=fun wx (hwx:Ext W wx)=>hpart_any kv (F (3+(i:Int))) (HF.out _) (3+(i:Int)) (ls.getD i []) p cp wx (hrd.ext (hxW.trans hwx)) hcp hlb (fun wy hy m x hx1 hx2=>HE.out wy ((hxW.trans hwx).trans hy) _ m x hx1 (by omega) hx2)
   have lP:=partG_length (F (3+(i:Int))) (ls.getD i [])
   have c2:=fun wx=>hplus_any (foldH F ls (pre.map fun x:{i:Nat//i<N}=>x.1)) (partG (F (3+(i:Int))) (ls.getD i [])) (lFo.out _) lP wx
   have e2:bothL (foldH F ls (pre.map fun x:{i:Nat//i<N}=>x.1)) (partG (F (3+(i:Int))) (ls.getD i []))=foldH F ls ((pre++[(⟨i,hi⟩:{i:Nat//i<N})]).map fun x:{i:Nat//i<N}=>x.1):=by rw [List.map_append,mCo,mNi,foldH_snoc,Int.add_comm]
   rw [e2]at c2
   have l1:=lFo.out (pre.map fun x:{i:Nat//i<N}=>x.1)
   have l2:=lFo.out ((pre++[(⟨i,hi⟩:{i:Nat//i<N})]).map fun x:{i:Nat//i<N}=>x.1)
   have C1:=hid c1
   have C2:=hid c2
   clear c1 c2 e2 hv hrd hcp hlb
   generalize ls.getD i []=b at*
   generalize hS2:foldH F ls ((pre++[(⟨i,hi⟩:{i:Nat//i<N})]).map fun x:{i:Nat//i<N}=>x.1)=S2 at*
   generalize foldH F ls (pre.map fun x:{i:Nat//i<N}=>x.1)=S1 at*
   generalize partG (F (3+(i:Int))) b=Pt at*
   have HS2:=hid hS2
   clear hS2
   refine wpIn_block ?_
   refine region_in l _ (by rintro ⟨_,_,h⟩;exact h) 6 (fun w'=>Ext _ w') 19 (by kernel_rfl) (by kernel_rfl) (by kernel_rfl) rfl (fun _ _ h k=>h.trans k) (drew_ext _) ?_
   simp only [tSC,tZe,dSC,dZe,mCo,mNi]
   repeat (first
       | (apply walk_is rfl rfl rfl
          · (intro wx hwx;first|((with_reducible show qGl);first|(exact zJ (hm.ext hwx))|(exact zK (hm.ext hwx))|(exact zL (hm.ext hwx)))|(go_simp;(try go_bits);first|exact gives_same|exact gives_skip|with_reducible exact gives_call (C1.out wx hwx)|with_reducible exact gives_call (C2.out wx)))
          · (simp only [Act.put,sIB,sCS,sCZ];rfl))
       | (apply walk_not rfl rfl rfl
          · (simp only [Act.put,sIB,sCS,sCZ];rfl)))
   intro wz hwz
   simp only [zCC,zNR]
   repeat (first|rw [fin_is]|(rw [fin_cons];intro _ _))
   rw [fin_nil]
   try (replace hm:=hm.ext hwz)
   simp only [Act.put,sIB,sCS,sCZ]
   go_wp2_with ((with_reducible apply wq_stWK hm);exact rfl;infer_instance;exact rfl;exact rfl;(exact(by repeat (first|exact Swap.hd|assumption|apply Swap.tl)));(rw [List.length_map];assumption);(rw [List.length_map];assumption);(exact one_v8 _);clear hm;intro w hm hko hbe)
   exact⟨(hwz.others.trans hko).from _,(Below.mono hwz hxW.size).trans (Below.mono hbe (Nat.le_refl _)),by dsimp only;rw [HS2.out];exact hm⟩
 case done=>
   rintro D2 xs W hD hxs hI hK
   rw [hxs,eG.out]at hI
   have hm:=hI
   clear hI
   go_wp2_with (first|((with_reducible apply wq_stWK hm);exact rfl;infer_instance;exact rfl;exact rfl;(exact(by repeat (first|exact Swap.hd|assumption|apply Swap.tl)));(rw [List.length_map];assumption);(rw [List.length_map];exact zer_length);(exact one_v8 _);clear hm;intro w hm hko _;replace hK:=hko.same _ _ hK rfl;clear hko)|(first|((with_reducible show qLd);first|(refine zB hm ?_))))
   exact retM_own hm rfl rfl (by infer_instance) (by repeat (first|exact Has.hd|assumption|apply Has.tl)) (by rw [List.length_map];assumption) rfl (Nat.le_trans hx0.size hD) hK (fun w' h=>⟨rfl,h⟩)
 case stop=>
   rintro D2 c pre W _ _ h _
   exact h.elim
end Go.Proofs.YtneacgpmjlocjaaGreatDoor
