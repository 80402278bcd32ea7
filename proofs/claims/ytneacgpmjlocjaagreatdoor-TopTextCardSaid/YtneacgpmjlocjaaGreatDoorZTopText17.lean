/-
  Texts of the program, walked, and plain ones. Conditions: those written in each theorem.
-/
import Derived.Test.YtneacgpmjlocjaaGreatDoorZTopText0
import Derived.Test.YtneacgpmjlocjaaGreatDoorZTopText16
import Derived.Test.YtneacgpmjlocjaaGreatDoorZTopText14
import Derived.Test.YtneacgpmjlocjaaGreatDoorZTopText10
import Derived.Test.YtneacgpmjlocjaaGreatDoorZTopText12
import Derived.Test.YtneacgpmjlocjaaGreatDoorZTopText11
set_option linter.unusedSimpArgs false
set_option linter.unusedVariables false
set_option maxHeartbeats 16000000
open Go.Lib (hid)
namespace Go.Proofs.YtneacgpmjlocjaaGreatDoor
open Go Go.RowKit
set_option maxRecDepth 100000
def wrF(l:List (BitVec 64))(v B:List Byte):Nat→List Byte
 |0=>v
 |k+1=>dotT l (blk (xorL (wrF l v B k) (B.drop (16*k))))
theorem dotT_length(l:List (BitVec 64))(a:List Byte):(dotT l a).length=16:=by rw [dotT,List.length_append,putL_length,putL_length]
theorem wrF_length(l:List (BitVec 64))(v B:List Byte)(k:Nat)(h:v.length=16):(wrF l v B k).length=16:=by
 cases k with
 |zero=>exact h
 |succ k=>exact dotT_length _ _
theorem stC_rd {w:World}{g gt:Nat}{v:List Byte}(h:Row w g 301 (stC gt v)):RdB w (some ⟨g,1,none⟩) v:=⟨fun _=>rfl,fun i hi=>by
 have:=row_cell h (1+i)
 rw [stC,Nat.add_comm 1 i,List.getElem?_cons_succ,map8_at v hi,Nat.add_comm i 1]at this
 rw [show((some (⟨g,1,none⟩:Addr)).getD default).add i=⟨g,1+i,none⟩from by simp [Addr.add],this];rfl⟩
theorem stC_set(gt:Nat)(v x:List Byte)(h:v.length=16):(stC gt v).take 1++x.map v8++(stC gt v).drop (1+16)=stC gt x:=by
 rw [stC,tSC,tZe,show 1+16=16+1 from rfl,dSC,List.drop_of_length_le (by rw [List.length_map];omega),List.append_nil];rfl
def slnV:Value→Nat
 | .slice _ n _=>n
 |_=>0
theorem vwrite_any(g gt:Nat)(l:List (BitVec 64))(hl:l.length=32)(v b:List Byte)(hv:v.length=16)(n:Nat)(hb:(pad b 16).length=16*n)(hbl:b.length≤1000)(p:Option Addr)(c:Nat)(w0 w:World)(R:List Blk)(hr:RdB w p b)(hm:Own w0 w (⟨g,301,stC gt v⟩::R))(hT:Has R ⟨gt,304,l.map v64⟩):
   Calls Tryz.prog 223 #[.pointer (some ⟨g,0,none⟩), .slice p b.length c] w fun e w'=>e= .returned (.tuple #[])∧∃gp,Own w0 w' (⟨g,301,stC gt (wrF l v (pad b 16) n)⟩::⟨gp,5,(pad b 16).map v8⟩::R):=by
 have P1:=hid (padded_new b p c 16 w hr (by omega) (by omega) (by omega))
 have HT:=hid hT
 have HV:=hid hv
 have HB:=hid hb
 have HLW:=hid fun k=>wrF_length l v (pad b 16) k hv
 have HW:=hid fun k=>(show wrF l v (pad b 16) (k+1)=dotT l (blk (xorL (wrF l v (pad b 16) k) ((pad b 16).drop (16*k))))from rfl)
 have H0:Hid (wrF l v (pad b 16) 0=v):=hid rfl
 have DT:=hid fun (wx:World)(x:List Byte)(hx:x.length=16)(h:Row wx gt 304 (l.map v64))=>ritdot_any gt l hl x hx wx h
 have XO:=hid fun (wx:World)(x y:List Byte)(hx:x.length=16)(hy:y.length≤1100)(q r:Option Addr)(d e:Nat)(h1:RdB wx q x)(h2:RdB wx r y)=>(show GivesR Tryz.prog 81 #[.slice q 16 d, .slice r y.length e] wx (BytesS (xorL x y))from by
   have:=xor_any x y q r d e wx h1 h2 (by omega) (by omega);rwa [hx]at this)
 have pl:(pad b 16).length≤1016:=by
   have:=roomN_lt b.length 16
   simp only [pad,List.length_append,List.length_replicate]
   omega
 generalize pad b 16=B at*
 clear hT hl hr hb hv
 go_enter Tryz.func223,Tryz.ntmps223
 go_wp2_with fail
 refine wp_scope_goto 0 (fun a_ w_=>∃(k L gp:Nat)(q:Option Addr)(u2 u3 u4 u5 u6 u7 u8 u9 u10 u11 u12 u13 u14 u15 u16 u17 u18 u19 u20 u21 u22 u23 u24 u25 u26 u27:Value),a_={tmps:= #[(.pointer (some ⟨g,0,none⟩)),(.slice q L L),u2,u3,u4,u5,u6,u7,u8,u9,u10,u11,u12,u13,u14,u15,u16,u17,u18,u19,u20,u21,u22,u23,u24,u25,u26,u27],defers:=[]}∧L=16*(n-k)∧k≤n∧(k<n→q=some ⟨gp,16*k,none⟩)∧Own w0 w_ (⟨g,301,stC gt (wrF l v B k)⟩::⟨gp,5,B.map v8⟩::R)) (fun a_ _=>slnV (a_.tmps.getD 1 undef)) rfl ?_ ?_
 · clear hm
   rintro a' w ⟨k,L,gp,q,u2,u3,u4,u5,u6,u7,u8,u9,u10,u11,u12,u13,u14,u15,u16,u17,u18,u19,u20,u21,u22,u23,u24,u25,u26,u27,rfl,⟨hL,hk,hq,hm⟩⟩
   by_cases hlt:k<n
   · obtain rfl:=hq hlt
     clear hq
     have lV:=HLW.out k
     have EW:=hid (HW.out k)
     have HLL:=hid hL
     have e0:((L:Int)==0)=false:=by rw [beq_eq_false_iff_ne];omega
     have e1:¬(L:Int)=0:=by omega
     have e2:(16:Int)≤(L:Int):=by omega
     have LB:Hid ((B.drop (16*k)).length=L):=hid (by rw [List.length_drop,HB.out];omega)
     have lX:(xorL (wrF l v B k) (B.drop (16*k))).length=16:=by rw [xorL_length,lV,LB.out];omega
     generalize wrF l v B k=V at*
     have RB:=hid fun wx (hx:Ext w wx)=>(show RdB wx (some ⟨gp,16*k,none⟩) (B.drop (16*k))from by
       have:=((hm.ext hx).rdB (g:=gp) (l:=B) (.tl .hd)).sub (16*k) L (by rw [HB.out];omega) (by omega)
       rw [List.take_of_length_le (by rw [LB.out];exact Nat.le_refl _)]at this
       rwa [show((some (⟨gp,0,none⟩:Addr)).getD default).add (16*k)=⟨gp,16*k,none⟩from by simp [Addr.add];omega]at this)
     have RV:=hid fun wx (hx:Ext w wx)=>stC_rd ((hm.ext hx).row (g:=g) .hd)
     have RT:=hid fun wx (hx:Ext w wx)=>(hm.ext hx).row (.tl (.tl HT.out))
     generalize hY:B.drop (16*k)=Y at*
     generalize hX:xorL V Y=X at*
     have c1:=fun wx (hx:Ext w wx)=>(show GivesR Tryz.prog 81 #[.slice (some ⟨g,1,none⟩) 16 16, .slice (some ⟨gp,16*k,none⟩) L L] wx (BytesS X)from by
       have:=XO.out wx V Y lV (by rw [LB.out];have:=HB.out;have:=HLL.out;omega) _ _ 16 L (RV.out wx hx) (RB.out wx hx)
       rwa [LB.out,hX]at this)
     have C2:=hid fun (wx:World)(p:Option Addr)(c:Nat)(h:RdB wx p X)=>(show Gives Tryz.prog 69 #[.slice p X.length c] wx (A8 (blk X))from oblock_any X p c wx h)
     have c3:=fun wx (hx:Ext w wx)=>DT.out wx (blk X) (blk_length _) (RT.out wx hx)
     have SE:=hid (stC_set gt V (dotT l (blk X)) lV)
     have lD:=dotT_length l (blk X)
     have KF:=hid (show L=16*(n-k)from HLL.out)
     clear hX hY hL e1 lX
     have e1:¬(L:Int)=0:=by omega
     go_wp2_with fail
     refine rgE 15 28 ?_
     simp only [tSC,tZe,dSC,dZe,mCo,mNi]
     repeat (first
         |(apply walk_is rfl rfl rfl;(intro wx hwx;exact zL (hm.ext hwx));(simp only [Act.put,sIB,sCS,sCZ];rfl))
         | (apply walk_some (BytesS X) 21 (BytesS.stable _) rfl rfl rfl rfl
            · (intro wx hwx;go_simp;with_reducible exact gives_callR (c1 wx hwx)))
         | (apply walk_from (T:=[(21,BytesS X)]) rfl rfl
            · (intro wx hwx;simp only [withS];(rintro x ⟨p,c,rfl,hlc,hb'⟩);refine⟨rfl, ?_⟩;go_simp;with_reducible exact gives_call (C2.out wx p c hb'))
            · (simp only [Act.put,sIB,sCS,sCZ];rfl))
         | (apply walk_is rfl rfl rfl
            · (intro wx hwx;go_simp;(try go_bits);first|exact gives_same|exact gives_skip|with_reducible exact gives_call (c3 wx hwx))
            · (simp only [Act.put,sIB,sCS,sCZ];rfl))
         | (apply walk_not rfl rfl rfl
            · (simp only [Act.put,sIB,sCS,sCZ];rfl)))
     intro wz hwz
     simp only [zCC,zNR]
     repeat (first|rw [fin_is]|(rw [fin_cons];intro _ _))
     rw [fin_nil]
     try (replace hm:=hm.ext hwz)
     simp only [Act.put,sIB,sCS,sCZ]
     clear c1 c3
     obtain⟨D,hD⟩:∃D,D=dotT l (blk X):=⟨_,rfl⟩
     rw [←hD]at SE lD EW⊢
     clear hD
     have dl1:=Nat.le_of_eq lD
     have dl2:=Nat.le_of_eq lD.symm
     by_cases h16:L=16
     · subst h16
       go_wp2_with (first|((with_reducible apply wq_stA hm);exact rfl;infer_instance;exact rfl;exact rfl;(focus (repeat first|exact .hd|assumption|apply Swap.tl);done);(exact SE.out);(exact(by rw [List.length_map];exact lD));(exact(by simp [stC];omega));(exact(one_map _));clear hm;intro w hm))
       go_step3
       exact⟨rfl,⟨_,_,_,_,_,_,_,_,_,_,_,_,_,_,_,_,_,_,_,_,_,_,_,_,_,_,_,_,_,_,rfl,⟨by have:=KF.out;show 0=16*(n-(k+1));omega,by show k+1≤n;omega,fun h=>absurd (show k+1<n from h) (by have:=KF.out;omega),by show Own w0 w (⟨g,301,stC gt (wrF l v B (k+1))⟩::_);rw [EW.out];exact hm⟩⟩,by simp [slnV]⟩
     · have f1:¬L-16=0:=by omega
       have f2:¬(L:Int)-16=0:=by omega
       go_wp2_with (first|((with_reducible apply wq_stA hm);exact rfl;infer_instance;exact rfl;exact rfl;(focus (repeat first|exact .hd|assumption|apply Swap.tl);done);(exact SE.out);(exact(by rw [List.length_map];exact lD));(exact(by simp [stC];omega));(exact(one_map _));clear hm;intro w hm))
       go_step3
       exact⟨rfl,⟨_,_,_,_,_,_,_,_,_,_,_,_,_,_,_,_,_,_,_,_,_,_,_,_,_,_,_,_,_,_,rfl,⟨by have:=KF.out;show L-16=16*(n-(k+1));omega,by show k+1≤n;omega,fun h=>by show some (⟨gp,16*k+16,none⟩:Addr)=some ⟨gp,16*(k+1),none⟩;rw [show 16*(k+1)=16*k+16 from by omega],by show Own w0 w (⟨g,301,stC gt (wrF l v B (k+1))⟩::_);rw [EW.out];exact hm⟩⟩,by simp [slnV];omega⟩
   · obtain rfl:k=n:=by omega
     obtain rfl:L=0:=by omega
     clear hL hq hk hlt
     go_wp2_with fail
     simp only [Exit.jump]
     refine bodyPost_ret (results_none rfl _ _ _) rfl ?_
     exact⟨rfl,_,hm⟩
 · intro hp
   go_wp2_with fail
   refine(P1.out).mono ?_
   rintro e w ⟨gp,rfl,hg,hrp,hx⟩
   have hm2:=(hm.push hx hg hrp).perm (List.Perm.swap _ _ _)
   rw [←H0.out]at hm2
   clear hm hx hg hrp
   have hm:=hm2
   clear hm2
   go_wp2_with fail
   go_step3
   rename_i hK
   exact hK _ _ (hp _ _ ⟨_,_,_,_,_,_,_,_,_,_,_,_,_,_,_,_,_,_,_,_,_,_,_,_,_,_,_,_,_,_,rfl,⟨by show B.length=16*(n-0);rw [HB.out];rfl,by show 0≤n;omega,fun _=>rfl,hm⟩⟩)
def vsmL(h b:List Byte)(n:Nat):List Byte:=wrF (mkT h) (zer 16) (pad b 16) n
theorem vsmL_length(h b:List Byte)(n:Nat):(vsmL h b n).length=16:=wrF_length _ _ _ _ zer_length
theorem vsum_any(h b:List Byte)(hh:h.length=16)(n:Nat)(hb:(pad b 16).length=16*n)(hbl:b.length≤1000)(p:Option Addr)(c:Nat)(w0:World)(hr:RdB w0 p b):Gives Tryz.prog 219 #[A8 h, .slice p b.length c] w0 (A8 (vsmL h b n)):=by
 unfold Gives
 have hm:=Own.start w0
 have N1:=hid fun w=>vnew_any h hh w
 have HR:=hid fun w (hx:Ext w0 w)=>hr.ext hx
 have lV:=vsmL_length h b n
 have WR:=hid fun (g gt:Nat)(w:World)(R:List Blk)(hrw:RdB w p b)(hm:Own w0 w (⟨g,301,stC gt (zer 16)⟩::R))(hT:Has R ⟨gt,304,(mkT h).map v64⟩)=>(show Calls Tryz.prog 223 #[.pointer (some ⟨g,0,none⟩), .slice p b.length c] w fun e w'=>e= .returned (.tuple #[])∧∃gp,Own w0 w' (⟨g,301,stC gt (vsmL h b n)⟩::⟨gp,5,(pad b 16).map v8⟩::R)from vwrite_any g gt (mkT h) (mkT_length h) (zer 16) b zer_length n hb hbl p c w0 w R hrw hm hT)
 generalize vsmL h b n=V at*
 generalize pad b 16=B at*
 have VV:=hid fun (g gt:Nat)(w:World)(hr:Row w g 301 (stC gt V))=>vvalue_any g gt V lV w hr
 have h1:=Nat.le_of_eq hh
 have h2:=Nat.le_of_eq hh.symm
 have h3:=Nat.le_of_eq lV
 have h4:=Nat.le_of_eq lV.symm
 clear hh hr hb
 go_enter Tryz.func219,Tryz.ntmps219
 go_wp2_with (first|((with_reducible show qLd);first|(refine zB hm ?_))|((first|((with_reducible show qAl);first|(refine zG hm ?_))|((with_reducible show qBx);first|(refine zH hm ?_)));clear hm;intro gx_;intro w hm))
 refine(N1.out _).mono ?_
 rintro e w ⟨g,gt,rfl,hg,hgt,hne,hr,hrt,hx⟩
 replace hm:=hm.push2 hx hgt hrt hg hr hne
 clear hx hgt hrt hg hr hne
 go_wp2_with fail
 refine(WR.out g gt _ _ (HR.out _ hm.x) hm .hd).mono ?_
 rintro e w ⟨rfl,gp,hm1⟩
 replace hm:=hm1
 clear hm1
 go_wp2_with (first|(go_at_call 224;(with_reducible refine(VV.out g gt _ (hm.row .hd)).mono ?_);rintro e_ w ⟨rfl,hx_⟩;replace hm:=hm.ext hx_;clear hx_)|((((with_reducible show qSt);first|(refine zE hm ?_)));clear hm;intro w hm))
 refine rtO hm rfl rfl ⟨rfl,hm.x⟩
def lnB(n:Nat)(whole:Bool):List Byte:=putL (BitVec.ofNat 64 (n*16+if whole then 2 else 3)) 8++putL (BitVec.ofNat 64 (n/1152921504606846976)) 8
theorem lnB_length(n:Nat)(whole:Bool):(lnB n whole).length=16:=by rw [lnB,List.length_append,putL_length,putL_length]
theorem or_low(n:Nat)(h:n<1000):bits BinOp.or IntKind.u64 ((n:Int)*16) 3=(n:Int)*16+3∧bits BinOp.or IntKind.u64 ((n:Int)*16) 2=(n:Int)*16+2:=by
 have:∀k:Fin 1000,bits BinOp.or IntKind.u64 ((k.val:Int)*16) 3=(k.val:Int)*16+3∧bits BinOp.or IntKind.u64 ((k.val:Int)*16) 2=(k.val:Int)*16+2:=by decide+kernel
 exact this ⟨n,h⟩
theorem vlenG(n:Nat)(whole:Bool)(hn:n<1000)(w0:World):Gives Tryz.prog 225 #[.int .i64 (n:Int), .bool whole] w0 (A8 (lnB n whole)):=by
 unfold Gives
 have hm:=Own.start w0
 obtain⟨o3,o2⟩:=or_low n hn
 have i0:(0:Int)≤(n:Int):=by omega
 have i1:(n:Int)≤1000:=by omega
 have lL:=lnB_length n whole
 have l1:=Nat.le_of_eq lL
 have l2:=Nat.le_of_eq lL.symm
 cases whole with
 | false=>
   have BH:=hid fun (w:World)=>(show Gives Tryz.prog 186 #[.agg #[.int .u64 ((n:Int)*16+3), .int .u64 ((n:Int)/1152921504606846976)]] w (A8 (lnB n false))from by
     have:=bytes_any (BitVec.ofNat 64 (n*16+3)) (BitVec.ofNat 64 (n/1152921504606846976)) w
     rw [WV,v64_nat _ (by omega),v64_nat _ (by omega),show((n*16+3:Nat):Int)=(n:Int)*16+3 from by omega,show((n/1152921504606846976:Nat):Int)=(n:Int)/1152921504606846976 from by omega]at this
     exact this)
   generalize lnB n false=B at*
   go_enter Tryz.func225,Tryz.ntmps225
   go_wp2_with (first|(go_at_call 186;(with_reducible refine(BH.out _).mono ?_);rintro e_ w ⟨rfl,hx_⟩;replace hm:=hm.ext hx_;clear hx_)|((((with_reducible show qSt);first|(refine zE hm ?_)));clear hm;intro w hm)|((first|((with_reducible show qAl);first|(refine zG hm ?_)));clear hm;intro gx_;intro w hm))
   refine rtO hm rfl rfl ⟨rfl,hm.x⟩
 | true=>
   have BH:=hid fun (w:World)=>(show Gives Tryz.prog 186 #[.agg #[.int .u64 ((n:Int)*16+2), .int .u64 ((n:Int)/1152921504606846976)]] w (A8 (lnB n true))from by
     have:=bytes_any (BitVec.ofNat 64 (n*16+2)) (BitVec.ofNat 64 (n/1152921504606846976)) w
     rw [WV,v64_nat _ (by omega),v64_nat _ (by omega),show((n*16+2:Nat):Int)=(n:Int)*16+2 from by omega,show((n/1152921504606846976:Nat):Int)=(n:Int)/1152921504606846976 from by omega]at this
     exact this)
   generalize lnB n true=B at*
   go_enter Tryz.func225,Tryz.ntmps225
   go_wp2_with (first|(go_at_call 186;(with_reducible refine(BH.out _).mono ?_);rintro e_ w ⟨rfl,hx_⟩;replace hm:=hm.ext hx_;clear hx_)|((((with_reducible show qSt);first|(refine zE hm ?_)));clear hm;intro w hm)|((first|((with_reducible show qAl);first|(refine zG hm ?_)));clear hm;intro gx_;intro w hm))
   refine rtO hm rfl rfl ⟨rfl,hm.x⟩
def vTl(m:List Byte):List Byte:=if m.length%16=0 then m else marked m 1#8 16
def vEnc(t m:List Byte):List Byte:=lnB t.length (decide (m.length%16=0))++(pad t 16++vTl m)
theorem marked_len(m:List Byte)(b:Byte):(marked m b 16).length≤m.length+17:=by
 have:=roomN_lt (m.length+1) 16
 simp only [marked,pad,List.length_append,List.length_replicate,List.length_singleton]
 omega
theorem vTl_length(m:List Byte):(vTl m).length≤m.length+17:=by
 unfold vTl;split
 · omega
 · exact marked_len _ _
theorem pad_len(m:List Byte):(pad m 16).length≤m.length+16:=by
 have:=roomN_lt m.length 16
 simp only [pad,List.length_append,List.length_replicate]
 omega
section
variable {P:Program} {ops:Array Oper} {Q:Exit→Act→World→Prop} {rest:List Oper} {dst:Option Tmp} {ty:TypeId} {pos:String} {aft:Array Edge} {gd:Option (Nat×Bool)} {a:Act} {w0 w:World} {L:List Blk} {T e:TypeId}
theorem wq_bs3x {u0 u1 u2:Value}{x0 x1 x2:Operand}{cs:List Value}(hb:∀w,(Instr.buildSlice T 3 #[(0,u0),(1,u1),(2,u2)]).run P w= .ok (.slice (some ⟨w.heap.size,0,none⟩) 3 3) (w.alloc (.cells cs.toArray e)))(hm:Own w0 w L)(hgd:Region.wanted (Oper.mk dst (.buildSlice T 3 #[(0,x0),(1,x1),(2,x2)]) ty pos aft gd) (yielded ops a.tmps)=true)(hx0:a.eval x0=u0)(hx1:a.eval x1=u1)(hx2:a.eval x2=u2)(hr:∀g w',Own w0 w' (⟨g,e,cs⟩::L)→Ext w w'→wpList P ops Q rest (a.put dst (.slice (some ⟨g,0,none⟩) 3 3)) w'):wpList P ops Q ((Oper.mk dst (.buildSlice T 3 #[(0,x0),(1,x1),(2,x2)]) ty pos aft gd)::rest) a w:=
 wpList_want hgd fun K hK=>by
   unfold Oper.wp execOp
   simp [hx0,hx1,hx2,hb,Sem.run_bind,Result.andThen_ok,Sem.run_pure]
   exact hK _ _ (hr _ _ (hm.alloc e cs) (Ext.alloc (Ext.refl _) _))
end
theorem venc_any(t m:List Byte)(ht:t.length<1000)(hml:m.length≤100000)(p q:Option Addr)(c d:Nat)(hc:t.length≤c)(hd:m.length≤d)(w0:World)(hr:RdB w0 p t)(hq:RdB w0 q m):
   Calls Tryz.prog 220 #[.slice p t.length c, .slice q m.length d] w0 fun e w'=>∃v M R,e= .returned v∧Own w0 w' (M++R)∧SlO M 5 1 v (vEnc t m).length ((vEnc t m).map v8):=by
 have hm:=Own.start w0
 have PD:=hid fun w (hx:Ext w0 w)=>padded_any t p c 16 w (hr.ext hx) (by omega) (by omega) (by omega)
 have lpt:=pad_len t
 have i0:(m.length:Int).tmod 16=((m.length%16:Nat):Int):=rfl
 by_cases h0:m.length%16=0
 · have lLB:=lnB_length t.length true
   have EV:vEnc t m=[lnB t.length true,pad t 16,m].flatten:=by simp [vEnc,vTl,h0]
   have LN:=hid fun w=>vlenG t.length true ht w
   have CC:=hid fun (w:World)(p:Option Addr)(h:RdR w p [lnB t.length true,pad t 16,m])=>(show Calls Tryz.prog 43 #[.slice p 3 3] w fun e w'=>∃v M,e= .returned v∧Own w w' (M++[])∧SlO M 5 1 v (vEnc t m).length ((vEnc t m).map v8)from by
     have:=concat_any [lnB t.length true,pad t 16,m] p 3 w h (by simp) (by simp;omega)
     rwa [←EV]at this)
   generalize lnB t.length true=LB at*
   generalize vEnc t m=EE at*
   rw [h0]at i0
   have b0:(((0:Nat):Int)==0)=true:=rfl
   have HQ:=hid hq
   clear EV hr h0 hq
   go_enter Tryz.func220,Tryz.ntmps220
   go_wp2_with (first|(go_at_call 225;(with_reducible refine(LN.out _).mono ?_);rintro e_ w ⟨rfl,hx_⟩;replace hm:=hm.ext hx_;clear hx_)|((((with_reducible show qSt);first|(refine zE hm ?_)));clear hm;intro w hm)|((first|((with_reducible show qAl);first|(refine zG hm ?_)));clear hm;(first|(have hx_:=g1;clear hx_;(first|(have hx_:=g2;clear hx_;intro gx_)|intro g2))|intro g1);intro w hm))
   have hx0:=hm.x
   have hmA:=hm
   have a1:=fun wx (hwx:Ext w wx)=>PD.out wx (hx0.trans hwx)
   refine region_new 4 (fun w'=>Ext _ w') 25 (by kernel_rfl) (by kernel_rfl) rfl (fun _ _ h k=>h.trans k) (drew_ext _) ?_
   simp only [tSC,tZe,dSC,dZe,mCo,mNi]
   repeat (first
       | (apply walk_some (BytesS (pad t 16)) 21 (BytesS.stable _) rfl rfl rfl rfl
          · (intro wx hwx;go_simp;with_reducible exact gives_callR (a1 wx hwx)))
       | (apply walk_is rfl rfl rfl
          · (intro wx hwx;go_simp;(try go_bits);first|exact gives_same|exact gives_skip)
          · (simp only [Act.put,sIB,sCS,sCZ];rfl))
       | (apply walk_not rfl rfl rfl
          · (simp only [Act.put,sIB,sCS,sCZ];rfl)))
   intro wz hwz
   simp only [zCC,zNR]
   repeat rw [fin_is]
   rw [fin_cons];intro x21 hx21
   repeat rw [fin_is]
   rw [fin_nil];intro hap
   simp only [Act.put,sIB,sCS,sCZ]at hap⊢
   obtain⟨p21,c21,rfl,hc21,hr21⟩:=hx21
   clear hm a1 hap
   have hm:=hmA.ext hwz
   clear hmA hx0
   have HR21:=hid hr21
   have HT:=hid (HQ.out.ext hm.x)
   have BS:=hid fun g=>bs_s3 (some ⟨g,0,none⟩) p21 q 16 16 (pad t 16).length c21 m.length d
   have RR:=hid fun (g g2:Nat)(ty:TypeId)(w:World)(hx:Ext wz w)(h:Row w g ty [.slice (some ⟨g2,0,none⟩) 16 16, .slice p21 (pad t 16).length c21, .slice q m.length d])(h2:RdB w (some ⟨g2,0,none⟩) LB)=>(rdR3 (a:=LB) (b:=pad t 16) (x:=m) (by rw [lLB];exact h) h2 (hr21.ext hx) (HT.out.ext hx) (by omega) hc21 hd (by unfold maxLen;omega) (by unfold maxLen;omega) (by unfold maxLen;omega))
   have h5:=Nat.le_of_eq lLB
   have h6:=Nat.le_of_eq lLB.symm
   clear hr21
   go_wp2_with (first|((with_reducible apply wq_bs3x (BS.out _) hm);exact rfl;exact rfl;exact rfl;exact rfl;clear hm;intro gb w hm hxe)|(go_at_call 43;(with_reducible refine(CC.out w _ (RR.out gb g1 _ _ hxe (hm.row .hd) (hm.rdB (g:=g1) (l:=LB) (by repeat (first|exact Has.hd|assumption|apply Has.tl|apply Has.app))))).mono ?_);rintro e_ w ⟨v2,M2,rfl,hm1,hs2⟩;rw [List.append_nil]at hm1;replace hm:=hm.join hm1;clear hm1))
   go_ret
   exact⟨_,M2,_,rfl,hm,hs2⟩
 · have lLB:=lnB_length t.length false
   have lMK:=marked_len m 1#8
   have EV:vEnc t m=[lnB t.length false,pad t 16,marked m 1#8 16].flatten:=by simp [vEnc,vTl,h0]
   have LN:=hid fun w=>vlenG t.length false ht w
   have MK:=hid fun w (hx:Ext w0 w)=>(show GivesR Tryz.prog 139 #[.slice q m.length d, .int .u8 1, .int .i64 16] w (BytesS (marked m 1#8 16))from marked_any m q d 1#8 16 w (hq.ext hx) (by omega) (by omega) (by omega))
   have CC:=hid fun (w:World)(p:Option Addr)(h:RdR w p [lnB t.length false,pad t 16,marked m 1#8 16])=>(show Calls Tryz.prog 43 #[.slice p 3 3] w fun e w'=>∃v M,e= .returned v∧Own w w' (M++[])∧SlO M 5 1 v (vEnc t m).length ((vEnc t m).map v8)from by
     have:=concat_any [lnB t.length false,pad t 16,marked m 1#8 16] p 3 w h (by simp) (by simp;omega)
     rwa [←EV]at this)
   generalize lnB t.length false=LB at*
   generalize vEnc t m=EE at*
   obtain⟨X,hX⟩:=exq (marked m 1#8 16)
   rw [←hX]at MK CC lMK
   obtain⟨r,hr16⟩:∃r,r=m.length%16:=⟨_,rfl⟩
   rw [←hr16]at h0 i0
   have b0:((r:Int)==0)=false:=by rw [beq_eq_false_iff_ne];omega
   have b1:¬(r:Int)=0:=by omega
   clear EV hr hq hX hr16
   go_enter Tryz.func220,Tryz.ntmps220
   go_wp2_with (first|(go_at_call 139;(with_reducible refine(MK.out _ hm.x).mono ?_);rintro e_ w ⟨v1,rfl,⟨p1,c1,rfl,hc1,hr1⟩,hx_⟩;replace hm:=hm.ext hx_;have HR1:=hid hr1;clear hr1 hx_)|(go_at_call 225;(with_reducible refine(LN.out _).mono ?_);rintro e_ w ⟨rfl,hx_⟩;replace hm:=hm.ext hx_;clear hx_)|((((with_reducible show qSt);first|(refine zE hm ?_)));clear hm;intro w hm)|((first|((with_reducible show qAl);first|(refine zG hm ?_)));clear hm;(first|(have hx_:=g1;clear hx_;(first|(have hx_:=g2;clear hx_;intro gx_)|intro g2))|intro g1);intro w hm))
   have hx0:=hm.x
   have hmA:=hm
   have a1:=fun wx (hwx:Ext w wx)=>PD.out wx (hx0.trans hwx)
   refine region_new 4 (fun w'=>Ext _ w') 25 (by kernel_rfl) (by kernel_rfl) rfl (fun _ _ h k=>h.trans k) (drew_ext _) ?_
   simp only [tSC,tZe,dSC,dZe,mCo,mNi]
   repeat (first
       | (apply walk_some (BytesS (pad t 16)) 21 (BytesS.stable _) rfl rfl rfl rfl
          · (intro wx hwx;go_simp;with_reducible exact gives_callR (a1 wx hwx)))
       | (apply walk_is rfl rfl rfl
          · (intro wx hwx;go_simp;(try go_bits);first|exact gives_same|exact gives_skip)
          · (simp only [Act.put,sIB,sCS,sCZ];rfl))
       | (apply walk_not rfl rfl rfl
          · (simp only [Act.put,sIB,sCS,sCZ];rfl)))
   intro wz hwz
   simp only [zCC,zNR]
   repeat rw [fin_is]
   rw [fin_cons];intro x21 hx21
   repeat rw [fin_is]
   rw [fin_nil];intro hap
   simp only [Act.put,sIB,sCS,sCZ]at hap⊢
   obtain⟨p21,c21,rfl,hc21,hr21⟩:=hx21
   clear hm a1 hap
   have hm:=hmA.ext hwz
   clear hmA hx0
   have HR21:=hid hr21
   have HT:=hid (HR1.out.ext hwz)
   have BS:=hid fun g=>bs_s3 (some ⟨g,0,none⟩) p21 p1 16 16 (pad t 16).length c21 X.length c1
   have RR:=hid fun (g g2:Nat)(ty:TypeId)(w:World)(hx:Ext wz w)(h:Row w g ty [.slice (some ⟨g2,0,none⟩) 16 16, .slice p21 (pad t 16).length c21, .slice p1 X.length c1])(h2:RdB w (some ⟨g2,0,none⟩) LB)=>(rdR3 (a:=LB) (b:=pad t 16) (x:=X) (by rw [lLB];exact h) h2 (hr21.ext hx) (HT.out.ext hx) (by omega) hc21 hc1 (by unfold maxLen;omega) (by unfold maxLen;omega) (by unfold maxLen;omega))
   have h5:=Nat.le_of_eq lLB
   have h6:=Nat.le_of_eq lLB.symm
   clear hr21
   go_wp2_with (first|((with_reducible apply wq_bs3x (BS.out _) hm);exact rfl;exact rfl;exact rfl;exact rfl;clear hm;intro gb w hm hxe)|(go_at_call 43;(with_reducible refine(CC.out w _ (RR.out gb g1 _ _ hxe (hm.row .hd) (hm.rdB (g:=g1) (l:=LB) (by repeat (first|exact Has.hd|assumption|apply Has.tl|apply Has.app))))).mono ?_);rintro e_ w ⟨v2,M2,rfl,hm1,hs2⟩;rw [List.append_nil]at hm1;replace hm:=hm.join hm1;clear hm1))
   go_ret
   exact⟨_,M2,_,rfl,hm,hs2⟩
def vhL(h t m:List Byte):List Byte:=vsmL h (vEnc t m) ((pad (vEnc t m) 16).length/16)
theorem vhL_length(h t m:List Byte):(vhL h t m).length=16:=vsmL_length _ _ _
theorem pad_whole(m:List Byte):(pad m 16).length=16*((pad m 16).length/16):=by
 have:=room_is m.length 16 (by omega)
 rw [show(pad m 16).length=m.length+roomN m.length 16 from by simp [pad]]
 omega
theorem vhash_any(h t m:List Byte)(hh:h.length=16)(ht:t.length≤500)(hml:m.length≤420)(p q:Option Addr)(c d:Nat)(hc:t.length≤c)(hd:m.length≤d)(w0:World)(hr:RdB w0 p t)(hq:RdB w0 q m):
   Gives Tryz.prog 217 #[A8 h, .slice p t.length c, .slice q m.length d] w0 (A8 (vhL h t m)):=by
 unfold Gives
 have hm:=Own.start w0
 have lE:(vEnc t m).length≤1000:=by
   have:=pad_len t
   have:=vTl_length m
   rw [vEnc,List.length_append,List.length_append,lnB_length]
   omega
 have EN:=hid fun w (hx:Ext w0 w)=>(show GivesR Tryz.prog 220 #[.slice p t.length c, .slice q m.length d] w (BytesS (vEnc t m))from by
   refine Calls.mono (venc_any t m (by omega) (by omega) p q c d hc hd w (hr.ext hx) (hq.ext hx)) ?_
   rintro e w' ⟨v,M,R,rfl,hm1,hs⟩
   obtain⟨q,d,hv,hnd,_⟩:=hs.cells hm1
   subst hv
   exact⟨_,rfl,⟨q,d,rfl,hnd,slo_rdZ hs hm1⟩,hm1.x⟩)
 have SU:=hid fun w p c (hr:RdB w p (vEnc t m))=>(show Gives Tryz.prog 219 #[A8 h, .slice p (vEnc t m).length c] w (A8 (vhL h t m))from vsum_any h (vEnc t m) hh _ (pad_whole _) lE p c w hr)
 have lH:=vhL_length h t m
 generalize vhL h t m=H at*
 generalize vEnc t m=E at*
 have h1:=Nat.le_of_eq hh
 have h2:=Nat.le_of_eq hh.symm
 have h3:=Nat.le_of_eq lH
 have h4:=Nat.le_of_eq lH.symm
 obtain⟨EL,hEL⟩:=exq (E.length)
 clear hr hq hh lH lE
 go_enter Tryz.func217,Tryz.ntmps217
 go_wp2_with (first|((first|((with_reducible show qAl);first|(refine zG hm ?_))|((with_reducible show qBx);first|(refine zH hm ?_)));clear hm;intro gx_;intro w hm))
 have hx0:=hm.x
 have c1:=fun wx (hwx:Ext w wx)=>EN.out wx (hx0.trans hwx)
 refine rgE 5 12 ?_
 simp only [tSC,tZe,dSC,dZe,mCo,mNi]
 repeat (first
     | (apply walk_some (BytesS E) 10 (BytesS.stable _) rfl rfl rfl rfl
        · (intro wx hwx;go_simp;with_reducible exact gives_callR (c1 wx hwx)))
     | (apply walk_from (T:=[(10,BytesS E)]) rfl rfl
        · (intro wx hwx;simp only [withS];(rintro x ⟨p,c,rfl,hlc,hb'⟩);refine⟨rfl, ?_⟩;go_simp;with_reducible exact gives_call (SU.out wx p c hb'))
        · (simp only [Act.put,sIB,sCS,sCZ];rfl))
     | (apply walk_is rfl rfl rfl
        · (intro wx hwx;first|((with_reducible show qGl);first|(exact zK (hm.ext hwx)))|(go_simp;(try go_bits);first|exact gives_same|exact gives_skip))
        · (simp only [Act.put,sIB,sCS,sCZ];rfl))
     | (apply walk_not rfl rfl rfl
        · (simp only [Act.put,sIB,sCS,sCZ];rfl)))
 intro wz hwz
 simp only [zCC,zNR]
 repeat (first|rw [fin_is]|(rw [fin_cons];intro _ _))
 rw [fin_nil]
 try (replace hm:=hm.ext hwz)
 simp only [Act.put,sIB,sCS,sCZ]
 clear c1 hx0
 go_wp2_with (first|((((with_reducible show qSt);first|(refine zE hm ?_)));clear hm;intro w hm))
 refine rtO hm rfl rfl ⟨rfl,hm.x⟩
def xcB(k0:List Byte)(ks:List (List Byte))(kl s:List Byte)(k:Nat):List Byte:=aesE k0 ks kl (xbL s (BitVec.ofNat 64 (k+1)))
theorem xcB_length(k0:List Byte)(ks:List (List Byte))(kl s:List Byte)(k:Nat):(xcB k0 ks kl s k).length=16:=aesE_length _ _ _ _
def xcL(k0:List Byte)(ks:List (List Byte))(kl s b:List Byte):List Byte:=strL 16 (xcB k0 ks kl s) b
theorem xcL_length(k0:List Byte)(ks:List (List Byte))(kl s b:List Byte):(xcL k0 ks kl s b).length=b.length:=strL_length 16 (by omega) _ (xcB_length _ _ _ _) b
theorem xcryptO(g:Nat)(k0 kl:List Byte)(ks:List (List Byte))(s b:List Byte)(hs:s.length=16)(hb:b.length≤70368744177000)(p:Option Addr)(c:Nat)(w0:World)(h:AesR w0 g k0 ks kl)(hr:RdB w0 p b)(hc:b.length≤c):
   Calls Tryz.prog 218 #[.pointer (some ⟨g,0,none⟩),A8 s, .slice p b.length c] w0 fun e w'=>∃v M R,e= .returned (.tuple #[v, .int .i64 0])∧Own w0 w' (M++R)∧SlO M 5 1 v b.length ((xcL k0 ks kl s b).map v8):=by
 have hm:=Own.start w0
 have EL:=hid (show xcL k0 ks kl s b=strF 16 (xcB k0 ks kl s) b (strN 16 b.length)from rfl)
 have RL:=hid (xcL_length k0 ks kl s b)
 have BK:=hid fun w (hx:Ext w0 w) k=>(show Gives Tryz.prog 221 #[.pointer (some ⟨g,0,none⟩),A8 s,v64 (BitVec.ofNat 64 (k+1))] w (A8 (xcB k0 ks kl s k))from xblock_any g k0 kl ks s hs (BitVec.ofNat 64 (k+1)) w (h.ext hx))
 have lX:=fun k=>xcB_length k0 ks kl s k
 generalize xcL k0 ks kl s b=RES at*
 generalize xcB k0 ks kl s=S at*
 have LX:=hid lX
 have LB:=hid fun k=>strF_length 16 S lX b k
 have E0:=hid (show strF 16 S b 0=[]from rfl)
 have EK:=hid fun k=>(show strF 16 S b (k+1)=strF 16 S b k++xorL (b.drop (16*k)) (S k)from rfl)
 have NL:=hid (strN_le 16 b.length (by omega))
 have NT:=hid fun k (h:k<strN 16 b.length)=>strN_lt 16 b.length k (by omega) h
 generalize strF 16 S b=F at*
 generalize strN 16 b.length=n at*
 have XO:=hid fun (k L e:Nat)(w:World)(q r:Option Addr)(d:Nat)(hL:(b.drop (16*k)).length=L)(h1:RdB w q (b.drop (16*k)))(h2:RdB w r (S k))=>(show GivesR Tryz.prog 81 #[.slice q L e, .slice r 16 d] w (BytesS (xorL (b.drop (16*k)) (S k)))from by
   have:=xor_any (b.drop (16*k)) (S k) q r e d w h1 h2 (by rw [List.length_drop];omega) (by rw [lX];omega)
   rwa [hL,lX]at this)
 have HR:=hid hr
 have LB0:=hid hb
 have HC:=hid hc
 have h1:=Nat.le_of_eq hs
 have h2:=Nat.le_of_eq hs.symm
 clear h hs lX hr
 generalize hBL0:b.length=BL0 at*
 have HBL:=hid hBL0
 clear hBL0
 go_enter Tryz.func218,Tryz.ntmps218
 go_wp2_with (first|((first|((with_reducible show qBx);first|(refine zH hm ?_)));clear hm;(first|(have hx_:=g1;clear hx_;(first|(have hx_:=g2;clear hx_;intro gx_)|intro g2))|intro g1);intro w hm))
 refine wp_scope_goto 0 (fun a_ w_=>∃(k L e o d:Nat)(q r:Option Addr)(i:BitVec 64)(M:List Blk)(u3 u5 u10 u11 u12 u13 u14 u15 u16 u17 u18 u19 u20 u21 u22 u23 u24 u25 u26 u27 u28 u29 u30 u31 u32 u33 u34 u35 u36:Value),a_={tmps:= #[(.pointer (some ⟨g,0,none⟩)),(A8 s),(.slice q L e),u3,(.pointer (some ⟨g1,0,none⟩)),u5,(.slice none 0 0),(.int .i64 0),(.slice r o d),(v64 i),u10,u11,u12,u13,u14,u15,u16,u17,u18,u19,u20,u21,u22,u23,u24,u25,u26,u27,u28,u29,u30,u31,u32,u33,u34,u35,u36],defers:=[]}∧SlO M 5 1 (.slice r o d) o ((F k).map v8)∧Own w0 w_ (M++[⟨g1,132,s.map v8⟩])∧k≤n∧L=BL0-16*k∧L≤e∧i=BitVec.ofNat 64 (k+1)∧(0<L→RdB w0 q (b.drop (16*k)))) (fun a_ _=>slen (a_.tmps.getD 2 undef)) rfl ?_ ?_
 · clear hm
   have key_:∀(P_:Act→World→Prop),(∀(w_:World)(k L e o d:Nat)(q r:Option Addr)(i:BitVec 64)(M:List Blk)(u3 u5 u10 u11 u12 u13 u14 u15 u16 u17 u18 u19 u20 u21 u22 u23 u24 u25 u26 u27 u28 u29 u30 u31 u32 u33 u34 u35 u36:Value),SlO M 5 1 (.slice r o d) o ((F k).map v8)∧Own w0 w_ (M++[⟨g1,132,s.map v8⟩])∧k≤n∧L=BL0-16*k∧L≤e∧i=BitVec.ofNat 64 (k+1)∧(0<L→RdB w0 q (b.drop (16*k)))→P_ {tmps:= #[(.pointer (some ⟨g,0,none⟩)),(A8 s),(.slice q L e),u3,(.pointer (some ⟨g1,0,none⟩)),u5,(.slice none 0 0),(.int .i64 0),(.slice r o d),(v64 i),u10,u11,u12,u13,u14,u15,u16,u17,u18,u19,u20,u21,u22,u23,u24,u25,u26,u27,u28,u29,u30,u31,u32,u33,u34,u35,u36],defers:=[]} w_)→∀(a_:Act)(w_:World),(∃(k L e o d:Nat)(q r:Option Addr)(i:BitVec 64)(M:List Blk)(u3 u5 u10 u11 u12 u13 u14 u15 u16 u17 u18 u19 u20 u21 u22 u23 u24 u25 u26 u27 u28 u29 u30 u31 u32 u33 u34 u35 u36:Value),a_={tmps:= #[(.pointer (some ⟨g,0,none⟩)),(A8 s),(.slice q L e),u3,(.pointer (some ⟨g1,0,none⟩)),u5,(.slice none 0 0),(.int .i64 0),(.slice r o d),(v64 i),u10,u11,u12,u13,u14,u15,u16,u17,u18,u19,u20,u21,u22,u23,u24,u25,u26,u27,u28,u29,u30,u31,u32,u33,u34,u35,u36],defers:=[]}∧SlO M 5 1 (.slice r o d) o ((F k).map v8)∧Own w0 w_ (M++[⟨g1,132,s.map v8⟩])∧k≤n∧L=BL0-16*k∧L≤e∧i=BitVec.ofNat 64 (k+1)∧(0<L→RdB w0 q (b.drop (16*k))))→P_ a_ w_:=
     fun P_ h_ a_ w_ z=>z.elim fun k z=>z.elim fun L z=>z.elim fun e z=>z.elim fun o z=>z.elim fun d z=>z.elim fun q z=>z.elim fun r z=>z.elim fun i z=>z.elim fun M z=>z.elim fun u3 z=>z.elim fun u5 z=>z.elim fun u10 z=>z.elim fun u11 z=>z.elim fun u12 z=>z.elim fun u13 z=>z.elim fun u14 z=>z.elim fun u15 z=>z.elim fun u16 z=>z.elim fun u17 z=>z.elim fun u18 z=>z.elim fun u19 z=>z.elim fun u20 z=>z.elim fun u21 z=>z.elim fun u22 z=>z.elim fun u23 z=>z.elim fun u24 z=>z.elim fun u25 z=>z.elim fun u26 z=>z.elim fun u27 z=>z.elim fun u28 z=>z.elim fun u29 z=>z.elim fun u30 z=>z.elim fun u31 z=>z.elim fun u32 z=>z.elim fun u33 z=>z.elim fun u34 z=>z.elim fun u35 z=>z.elim fun u36 z=>Eq.subst (motive:=fun z_=>P_ z_ w_) z.1.symm (h_ w_ k L e o d q r i M u3 u5 u10 u11 u12 u13 u14 u15 u16 u17 u18 u19 u20 u21 u22 u23 u24 u25 u26 u27 u28 u29 u30 u31 u32 u33 u34 u35 u36 z.2)
   refine key_ _ ?_
   clear key_
   intro w k L e o d q r i M u3 u5 u10 u11 u12 u13 u14 u15 u16 u17 u18 u19 u20 u21 u22 u23 u24 u25 u26 u27 u28 u29 u30 u31 u32 u33 u34 u35 u36
   rintro ⟨hso,hm,hkn,hL,hLe,hiv,hrd⟩
   by_cases h0:L=0
   · have hkn2:k=n:=by
       apply Classical.byContradiction;intro h
       have:=NT.out k (by omega)
       omega
     subst hkn2
     subst h0
     obtain⟨_,_,hv,hnc0,_,_⟩:=hso.cells hm
     cases hv
     have ho:o=BL0:=by
       have h1:=hso.1
       rw [List.length_map,LB.out,Nat.mul_one]at h1
       have:=NL.out
       omega
     subst ho
     rw [←EL.out]at hso
     have HSO:=hid hso
     clear hso hnc0 hL hLe hiv hrd
     go_wp2_with fail
     simp only [Exit.jump]
     go_ret2
     exact⟨_,M,_,rfl,hm,HSO.out⟩
   · have hlt:k<n:=by
       apply Classical.byContradiction;intro h
       have hkn2:k=n:=by omega
       subst hkn2
       have:=NL.out
       omega
     have hrd1:=hid fun wx (hx:Ext w0 wx)=>(hrd (by omega)).ext hx
     have hrd0:=hid (hrd (by omega))
     have lD:(b.drop (16*k)).length=L:=by rw [List.length_drop,HBL.out,hL]
     have XR:=hid fun (wx:World)(r:Option Addr)(d:Nat)(h1:RdB wx q (b.drop (16*k)))(h2:RdB wx r (S k))=>XO.out k L e wx q r d lD h1 h2
     have lXX:(xorL (b.drop (16*k)) (S k)).length=min L 16:=by rw [xorL_length,lD,LX.out]
     have EKK:=hid (EK.out k)
     have BLL:=hid fun wx hx=>BK.out wx hx k
     have FL:=hid (LB.out k)
     have RDN:=hid fun (wx:World)(h:RdB wx q (b.drop (16*k)))(m:Nat)=>(show RdB wx (slP q e m) ((b.drop (16*k)).drop m)from h.slL e m (by rw [lD];exact hLe))
     have EDD:=hid (show(b.drop (16*k)).drop 16=b.drop (16*(k+1))by rw [List.drop_drop,Nat.mul_succ])
     obtain⟨m,hmL⟩:∃m,m=min L 16:=⟨_,rfl⟩
     rw [←hmL]at lXX
     have hm1:m≤L:=by omega
     have HML:=hid hmL
     have LXX:=hid lXX
     have HSO:=hid hso
     have HLE:=hid hLe
     have HL:=hid hL
     have HNK:=hid hlt
     have LXM:=hid (show((xorL (b.drop (16*k)) (S k)).map v8).length=m*1 by rw [List.length_map,lXX,Nat.mul_one])
     have lSK:=LX.out k
     obtain⟨X,hX⟩:∃X,X=xorL (b.drop (16*k)) (S k):=⟨_,rfl⟩
     rw [←hX]at XR EKK LXX LXM
     obtain⟨SK,hSK⟩:=exq (S k)
     rw [←hSK]at XR BLL lSK
     have hfit:(o+m)*(1+1)≤140737488355328:=by
       have h1:=hso.1
       rw [List.length_map,FL.out,Nat.mul_one]at h1
       omega
     have HFIT:=hid hfit
     obtain⟨D0,hD0⟩:=exq (b.drop (16*k))
     rw [←hD0]at XR RDN hrd1 hrd0 EDD
     have e0:((L:Int)==0)=false:=by rw [beq_eq_false_iff_ne];omega
     have e1:¬(L:Int)=0:=by omega
     have lK1:=Nat.le_of_eq lSK
     have lK2:=Nat.le_of_eq lSK.symm
     subst hiv
     clear hso hLe hrd lD lXX hX hSK hD0 hfit hL hmL
     go_wp2_with (first|(go_at_call 221;(with_reducible refine(BLL.out _ hm.x).mono ?_);rintro e_ w ⟨rfl,hx_⟩;replace hm:=hm.ext hx_;clear hx_)|((with_reducible show qLd);first|(refine zB hm ?_))|((((with_reducible show qSt);first|(refine zE hm ?_)));clear hm;intro w hm)|((first|((with_reducible show qAl);first|(refine zG hm ?_)));clear hm;(first|(have hx_:=g1;clear hx_;(first|(have hx_:=g2;clear hx_;intro gx_)|intro g2))|intro g1);intro w hm))
     refine(XR.out _ _ _ (hrd1.out _ hm.x) (hm.rdB (l:=SK) .hd)).mono ?_
     rintro e_ w ⟨x,rfl,⟨px,cx,rfl,hcx,hbx⟩,hx_⟩
     replace hm:=hm.ext hx_
     have HBX:=hid hbx
     clear hx_ hbx
     rw [LXX.out]at hcx⊢
     go_wp2_with (first|((with_reducible show wpList _ _ _ (Oper.mk _ (Op.call _) _ _ _ _::_) _ _);refine wplO_app (M:=M) (R:=_) (ds:=X.map v8) (hm.perm (List.perm_middle.symm)) HSO.out rfl rfl rfl rfl Tryz.underlying22 LXM.out (cells_b HBX.out) (one_map _) HFIT.out ?_;clear hm;intro v1 w M1 hm hs1;obtain⟨p_v1,c_v1,rfl⟩:=hs1.form;replace hm:=hm.perm (List.perm_middle))|((with_reducible apply wq_slL Tryz.underlying22);infer_instance;exact rfl;exact rfl;exact rfl;exact hm1;exact rfl))
     go_step3
     refine⟨rfl,⟨_,_,_,_,_,_,_,_,_,_,_,_,_,_,_,_,_,_,_,_,_,_,_,_,_,_,_,_,_,_,_,_,_,_,_,_,_,_,rfl,⟨(show SlO M1 5 1 _ (o+m) ((F (k+1)).map v8)from by rw [EKK.out,List.map_append];exact hs1),hm.drop,HNK.out,(show L-m=BL0-16*(k+1)from by rw [HML.out,HL.out];omega),(by have:=HLE.out;omega),(show BitVec.ofNat 64 (k+1)+1#64=BitVec.ofNat 64 (k+1+1)from by apply BitVec.eq_of_toNat_eq;simp),fun h=>(show RdB w0 (slP q e m) (b.drop (16*(k+1)))from by have h6:m=16:=(by have:=HML.out;omega);rw [h6,←EDD.out];exact RDN.out w0 hrd0.out 16)⟩⟩, ?_⟩
     show L-m<L
     have:=HML.out
     omega
 · intro hp
   go_wp2_with (first|((with_reducible apply wq_mkR 0 BL0 hm);exact rfl;exact rfl;exact rfl;exact rfl;(focus omega);(focus omega);(focus omega);clear hm;intro g2 w hm))
   rw [show(Value.int IntKind.u64 1)=v64 1#64 from rfl]
   go_step3
   rename_i hK
   exact hK _ _ (hp _ _ ⟨_,_,_,_,_,_,_,_,_,_,_,_,_,_,_,_,_,_,_,_,_,_,_,_,_,_,_,_,_,_,_,_,_,_,_,_,_,_,rfl,⟨by rw [E0.out];exact SlO.room _ _ 1 BL0 ((zeros BL0).map v8) (by simp) (by unfold maxLen;omega),hm,Nat.zero_le _,rfl,HC.out,rfl,fun _=>HR.out⟩⟩)
def OwnL(B n:Nat)(X:List Byte):Slot:=fun v w=>∃M,SlO M 5 1 v n (X.map v8)∧∀b∈M,B≤b.g∧Row w b.g b.t b.cs
theorem OwnL.stable(B n:Nat)(X:List Byte):Stable (OwnL B n X):=fun _ _ _ ⟨M,h1,h2⟩ hx=>⟨M,h1,fun b hb=>⟨(h2 b hb).1,row_ext (h2 b hb).2 hx⟩⟩
def OwnT(B n:Nat)(X:List Byte):Slot:=fun v w=>∃u,v= .tuple #[u, .int .i64 0]∧OwnL B n X u w
theorem OwnT.stable(B n:Nat)(X:List Byte):Stable (OwnT B n X):=fun _ _ _ ⟨u,h1,h2⟩ hx=>⟨u,h1,OwnL.stable _ _ _ _ _ _ h2 hx⟩
theorem ownL_of {w0 w:World}{B n:Nat}{X:List Byte}{v:Value}{M R:List Blk}(hB:B≤w0.heap.size)(hm:Own w0 w (M++R))(hs:SlO M 5 1 v n (X.map v8)):OwnL B n X v w:=
 ⟨M,hs,fun b hb=>⟨Nat.le_trans hB (hm.2.2 b (by simp [hb])).1,hm.rows b (by simp [hb])⟩⟩
theorem Own.pushM {w0 w1 w:World}{L M:List Blk}{e:TypeId}{sz n:Nat}{v:Value}{cs:List Value}(h:Own w0 w1 L)(hx:Ext w1 w)(hs:SlO M e sz v n cs)(hM:∀b∈M,w1.heap.size≤b.g∧Row w b.g b.t b.cs):Own w0 w (M++L):=by
 rcases hs.2 with ⟨_,_,rfl⟩|⟨g,o,cap,cur,_,rfl,_⟩
 · exact h.ext hx
 · exact h.push hx (hM ⟨g,e,cur⟩ (List.mem_singleton_self _)).1 (hM ⟨g,e,cur⟩ (List.mem_singleton_self _)).2
theorem bs_run3h(a b c:List Byte)(ha:a.length=16)(hb:b.length=16)(hc:c.length=16)(w:World):(Instr.buildSlice 161 3 #[(0,A8 a),(1,A8 b),(2,A8 c)]).run Tryz.prog w= .ok (.slice (some ⟨w.heap.size,0,none⟩) 3 3) (w.alloc (.cells (catV [a,b,c]).toArray 132)):=by
 obtain⟨a0,a1,a2,a3,a4,a5,a6,a7,a8,a9,a10,a11,a12,a13,a14,a15,rfl⟩:=len16 a ha
 obtain⟨b0,b1,b2,b3,b4,b5,b6,b7,b8,b9,b10,b11,b12,b13,b14,b15,rfl⟩:=len16 b hb
 obtain⟨c0,c1,c2,c3,c4,c5,c6,c7,c8,c9,c10,c11,c12,c13,c14,c15,rfl⟩:=len16 c hc
 kernel_rfl
theorem gq_bs3h {P:Program}{dst:Option Tmp}{ty:TypeId}{pos:String}{aft:Array Edge}{gd:Option (Nat×Bool)}{a:Act}{w:World}{T e:TypeId}{u0 u1 u2:Value}{x0 x1 x2:Operand}{ks:List (List Byte)}(hk:∀k∈ks,k.length=16)(hb:(Instr.buildSlice T 3 #[(0,u0),(1,u1),(2,u2)]).run P w= .ok (.slice (some ⟨w.heap.size,0,none⟩) ks.length ks.length) (w.alloc (.cells (catV ks).toArray e)))(hx0:a.eval x0=u0)(hx1:a.eval x1=u1)(hx2:a.eval x2=u2):gives P w (KeysS ks) ((execOp a.eval (Oper.mk dst (.buildSlice T 3 #[(0,x0),(1,x1),(2,x2)]) ty pos aft gd)).run P w):=by
 unfold execOp
 simp [hx0,hx1,hx2,hb]
 exact gives_val (Ext.alloc (Ext.refl _) _) (keys_new w e ks hk)
def p3L(a b c:List Byte):List Byte:=plusL (zer 16) [a,b,c]
theorem p3L_length(a b c:List Byte):(p3L a b c).length=16:=plusL_length _ _ zer_length
def hcOne(h t m:List Byte):List Byte:=bothL (m.take 16) (vhL h t (m.drop 16))
def hcBulk(k0:List Byte)(ks:List (List Byte))(kl h l:List Byte)(bt:List Byte→List Byte)(t m:List Byte):List Byte:=xcL k0 ks kl (p3L (hcOne h t m) (bt (hcOne h t m)) l) (m.drop 16)
def hcDo(k0:List Byte)(ks:List (List Byte))(kl h l:List Byte)(bt:List Byte→List Byte)(t m:List Byte):List Byte:=bothL (bt (hcOne h t m)) (vhL h t (hcBulk k0 ks kl h l bt t m))++hcBulk k0 ks kl h l bt t m
theorem hcOne_length(h t m:List Byte):(hcOne h t m).length=16:=bothL_length _ _
theorem hcBulk_length(k0:List Byte)(ks:List (List Byte))(kl h l:List Byte)(bt:List Byte→List Byte)(t m:List Byte):(hcBulk k0 ks kl h l bt t m).length=m.length-16:=by rw [hcBulk,xcL_length,List.length_drop]
theorem hdoes_gen(FV:FuncId)(hFV:∀args w,(callFunc FV args).run Tryz.prog w= .ok (.enter FV args) w)(g gc n:Nat)(k0 kl h l t m:List Byte)(ks:List (List Byte))(bt:List Byte→List Byte)(hbt:∀x,(bt x).length=16)(ht:t.length≤500)(hl:m.length=n+16)(hn:n<400)(p q:Option Addr)(c d:Nat)(hc:t.length≤c)(hd:n+16≤d)(w0:World)(hh:HcR w0 g k0 ks kl h l)(hr:RdB w0 p t)(hq:RdB w0 q m)
   (BT:∀wx,Ext w0 wx→∀b,b.length=16→Gives Tryz.prog FV #[A8 b, .pointer (some ⟨gc,0,none⟩)] wx (A8 (bt b))):
   Calls Tryz.prog 213 #[.pointer (some ⟨g,0,none⟩), .slice p t.length c, .slice q (n+16) d, .func (.func FV) #[] #[.pointer (some ⟨gc,0,none⟩)]] w0 fun e w'=>∃v M R,e= .returned (.tuple #[v, .int .i64 0])∧Own w0 w' (M++R)∧SlO M 5 1 v (n+16) ((hcDo k0 ks kl h l bt t m).map v8):=by
 have hm:=Own.start w0
 obtain⟨gk,h1,h2,h3,h4⟩:=hh
 have HR:=hid fun w (hx:Ext w0 w)=>row_ext h1 hx
 have EK:Hid ((hcC gk h l)[0]? =some (.pointer (some ⟨gk,0,none⟩))):=hid rfl
 have EH:=hid (hcC_h gk h l h3)
 have EL:=hid (hcC_l gk h l h3 h4)
 obtain⟨f1,f2,f3⟩:=fl_16_at n hn
 have cv:=conv_if f2.of
 have lLf:(m.take 16).length=16:=by rw [List.length_take];omega
 have lBk:(m.drop 16).length=n:=by rw [List.length_drop];omega
 have O1:=hid fun w (hx:Ext w0 w)=>(show Calls Tryz.prog 149 #[.slice q (n+16) d, .complex .f64 0 4625196817309499392] w fun e w'=>∃v M,e= .returned (.tuple #[v, .bool true])∧Own w w' (M++[])∧SlO M 5 1 v 16 ((m.take 16).map v8)from by
   have:=of_own m q d 0 0 4625196817309499392 16 (flv (n+16)) (by rw [hl];exact f1) (by rw [hl];exact f3) (by omega) (by omega) (by omega) w (hq.ext hx)
   rwa [hl,dZe]at this)
 have O2:=hid fun w (hx:Ext w0 w)=>(show Calls Tryz.prog 149 #[.slice q (n+16) d, .complex .f64 4625196817309499392 (flv n)] w fun e w'=>∃v M,e= .returned (.tuple #[v, .bool true])∧Own w w' (M++[])∧SlO M 5 1 v n ((m.drop 16).map v8)from by
   have:=of_own m q d 4625196817309499392 16 (flv n) n (flv (n+16)) (by rw [hl];exact f3) (by rw [hl];exact f2) (by omega) (by omega) (by omega) w (hq.ext hx)
   rw [List.take_of_length_le (l:=m.drop 16) (by omega)]at this
   rwa [hl]at this)
 obtain⟨Lf,hLf⟩:=exq (m.take 16)
 obtain⟨Bk,hBk⟩:=exq (m.drop 16)
 obtain⟨One,hOne⟩:=exq (hcOne h t m)
 obtain⟨V1,hV1⟩:=exq (vhL h t Bk)
 have eOne:bothL Lf V1=One:=by rw [hOne,hV1,hLf,hBk];rfl
 obtain⟨Two,hTwo⟩:=exq (bt One)
 obtain⟨Thr,hThr⟩:=exq (p3L One Two l)
 obtain⟨B2,hB2⟩:=exq (hcBulk k0 ks kl h l bt t m)
 have eB2:xcL k0 ks kl Thr Bk=B2:=by rw [hB2,hThr,hTwo,hOne,hBk];rfl
 obtain⟨V2,hV2⟩:=exq (vhL h t B2)
 obtain⟨Fst,hFst⟩:=exq (bothL Two V2)
 obtain⟨OUT,hOUT⟩:=exq (hcDo k0 ks kl h l bt t m)
 have eO:Fst++B2=OUT:=by rw [hOUT,hFst,hV2,hB2,hTwo,hOne];rfl
 have lV1:V1.length=16:=by rw [hV1];exact vhL_length _ _ _
 have lOne:One.length=16:=by rw [hOne];exact hcOne_length _ _ _
 have lTwo:Two.length=16:=by rw [hTwo];exact hbt _
 have lThr:Thr.length=16:=by rw [hThr];exact p3L_length _ _ _
 have lB2:B2.length=n:=by rw [hB2,hcBulk_length];omega
 have lV2:V2.length=16:=by rw [hV2];exact vhL_length _ _ _
 have lFst:Fst.length=16:=by rw [hFst];exact bothL_length _ _
 rw [←hLf]at O1 lLf
 rw [←hBk]at O2 lBk
 have BL:=hid fun (w:World)(p:Option Addr)(c:Nat)(hr:RdB w p Lf)=>(show Gives Tryz.prog 69 #[.slice p 16 c] w (A8 Lf)from by
   have:=oblock_any Lf p c w hr;rwa [lLf,blk_self Lf lLf]at this)
 have H1:=hid fun (w:World)(hx:Ext w0 w)(q2:Option Addr)(d2:Nat)(hd2:n≤d2)(hq2:RdB w q2 Bk)=>(show Gives Tryz.prog 217 #[A8 h, .slice p t.length c, .slice q2 n d2] w (A8 V1)from by
   have:=vhash_any h t Bk h3 ht (by omega) p q2 c d2 hc (by omega) w (hr.ext hx) hq2
   rwa [lBk,←hV1]at this)
 have H2:=hid fun (w:World)(hx:Ext w0 w)(q2:Option Addr)(d2:Nat)(hd2:n≤d2)(hq2:RdB w q2 B2)=>(show Gives Tryz.prog 217 #[A8 h, .slice p t.length c, .slice q2 n d2] w (A8 V2)from by
   have:=vhash_any h t B2 h3 ht (by omega) p q2 c d2 hc (by omega) w (hr.ext hx) hq2
   rwa [lB2,←hV2]at this)
 have P1:=hid fun (w:World)(p:Option Addr)(c:Nat)(hc:[Lf,V1].length≤c)(hk:RdK w p 16 [Lf,V1])=>(show Gives Tryz.prog 216 #[.slice p 2 c] w (A8 One)from by rw [←eOne];exact hcplus_two Lf V1 lLf lV1 p c w hk hc)
 have P2:=hid fun (w:World)(p:Option Addr)(c:Nat)(hc:[One,Two,l].length≤c)(hk:RdK w p 16 [One,Two,l])=>(show Gives Tryz.prog 216 #[.slice p 3 c] w (A8 Thr)from by rw [hThr];exact hcplus_any [One,Two,l] p c w hk hc (by simp))
 have P3:=hid fun (w:World)(p:Option Addr)(c:Nat)(hc:[Two,V2].length≤c)(hk:RdK w p 16 [Two,V2])=>(show Gives Tryz.prog 216 #[.slice p 2 c] w (A8 Fst)from by rw [hFst];exact hcplus_two Two V2 lTwo lV2 p c w hk hc)
 have BTW:=hid fun w (hx:Ext w0 w)=>(show Gives Tryz.prog FV #[A8 One, .pointer (some ⟨gc,0,none⟩)] w (A8 Two)from by rw [hTwo];exact BT w hx One lOne)
 have XC:=hid fun (w wx:World)(hx0:Ext w0 wx)(hx:Ext w wx)(q2:Option Addr)(d2:Nat)(hd2:n≤d2)(hq2:RdB wx q2 Bk)=>(show GivesR Tryz.prog 218 #[.pointer (some ⟨gk,0,none⟩),A8 Thr, .slice q2 n d2] wx (OwnT w.heap.size n B2)from by
   have h0:=xcryptO gk k0 kl ks Thr Bk lThr (by omega) q2 d2 wx (h2.ext hx0) hq2 (by omega)
   rw [eB2,lBk]at h0
   refine Calls.mono h0 ?_
   rintro e w' ⟨v,M,R,rfl,hm1,hs⟩
   exact⟨_,rfl,⟨v,rfl,ownL_of hx.size hm1 hs⟩,hm1.x⟩)
 have K1:=hid (bs_run2 Lf V1 lLf lV1)
 have K2:=hid (bs_run3h One Two l lOne lTwo h4)
 have K3:=hid (bs_run2 Two V2 lTwo lV2)
 have k1:Hid (∀k∈[Lf,V1],k.length=16):=hid (by intro k hk;simp at hk;rcases hk with rfl|rfl<;>assumption)
 have k2:Hid (∀k∈[One,Two,l],k.length=16):=hid (by intro k hk;simp at hk;rcases hk with rfl|rfl|rfl<;>assumption)
 have k3:Hid (∀k∈[Two,V2],k.length=16):=hid (by intro k hk;simp at hk;rcases hk with rfl|rfl<;>assumption)
 have lF:[Fst,B2].flatten.length=n+16:=by simp [lFst,lB2];omega
 have eF:[Fst,B2].flatten=OUT:=by simp [eO]
 have CC:=hid fun (w:World)(p:Option Addr)(h:RdR w p [Fst,B2])=>(show Calls Tryz.prog 43 #[.slice p 2 2] w fun e w'=>∃v M,e= .returned v∧Own w w' (M++[])∧SlO M 5 1 v (n+16) (OUT.map v8)from by
   have:=concat_any [Fst,B2] p 2 w h (by simp) (by rw [lF];omega)
   rwa [lF,eF]at this)
 have RR:=hid fun (g g2:Nat)(ty:TypeId)(q2:Option Addr)(d2:Nat)(w:World)(hd2:n≤d2)(h:Row w g ty [.slice (some ⟨g2,0,none⟩) 16 16, .slice q2 n d2])(ha:RdB w (some ⟨g2,0,none⟩) Fst)(hb:RdB w q2 B2)=>(rdR2 (a:=Fst) (b:=B2) (by rw [lFst,lB2];exact h) ha hb (by omega) (by omega) (by unfold maxLen;omega) (by unfold maxLen;omega))
 have HH:=hid h3
 have HLn:=hid h4
 have y1:=Nat.le_of_eq lOne
 have y2:=Nat.le_of_eq lOne.symm
 have y3:=Nat.le_of_eq lTwo
 have y4:=Nat.le_of_eq lTwo.symm
 have y5:=Nat.le_of_eq lFst
 have y6:=Nat.le_of_eq lFst.symm
 have d1:decide ((n:Int)+16<16)=false:=decide_eq_false (by omega)
 have d2:¬(n:Int)+16<16:=by omega
 obtain⟨PC,hPC⟩:=exq (hcC gk h l)
 rw [←hPC]at HR EK EH EL
 obtain⟨TL,hTL⟩:=exq (t.length)
 rw [←hTL]at H1 H2⊢
 rw [←hOUT]
 obtain⟨FN,hFN⟩:=exq (flv n)
 rw [←hFN]at cv O2
 clear h1 h2 h3 h4 f1 f2 f3 hr hq ht hl hc hTL hPC hLf hBk hOne hV1 eOne hTwo hThr hB2 eB2 hV2 hFst hOUT eO hFN BT lV1 lOne lTwo lThr lB2 lV2 lFst lF eF lLf lBk hbt
 go_enter Tryz.func213,Tryz.ntmps213
 go_wp2_with (first|(go_at_call 149;(with_reducible refine(O1.out _ hm.x).mono ?_);rintro e_ w ⟨v1,M1,rfl,hm1,hs1⟩;rw [List.append_nil]at hm1;replace hm:=hm.join hm1;obtain⟨p1,c1,rfl⟩:=hs1.form;clear hm1)|(go_at_call 149;(with_reducible refine(O2.out _ hm.x).mono ?_);rintro e_ w ⟨v2,M2,rfl,hm1,hs2⟩;rw [List.append_nil]at hm1;replace hm:=hm.join hm1;obtain⟨p2,c2,rfl⟩:=hs2.form;clear hm1))
 rw [List.append_nil]at hm
 have RL:=hid fun wx L (h:Own w0 wx (L++(M2++M1)))=>(slo_rdZ hs1 (R:=[]) (by rw [List.append_nil];exact h.dropN.dropN):RdB wx p1 Lf)
 have RB:=hid fun wx L (h:Own w0 wx (L++(M2++M1)))=>(slo_rdZ hs2 h.dropN:RdB wx p2 Bk)
 have c2n:n≤c2:=by
   obtain⟨_,_,hv,h1,_⟩:=hs2.cells hm
   cases hv
   exact h1
 clear hs1 hs2
 have hx0:=hm.x
 have hmA:=hm
 have a1:=fun wx (hwx:Ext w wx)=>BL.out wx p1 c1 (RL.out wx [] (hmA.ext hwx))
 have a2:=fun wx (hwx:Ext w wx)=>H1.out wx (hx0.trans hwx) p2 c2 c2n (RB.out wx [] (hmA.ext hwx))
 have R7:=hid fun wx (hwx:Ext w wx)=>HR.out wx (hx0.trans hwx)
 refine region_new 12 (fun w'=>Ext _ w') 84 (by kernel_rfl) (by kernel_rfl) rfl (fun _ _ h k=>h.trans k) (drew_ext _) ?_
 simp only [tSC,tZe,dSC,dZe,mCo,mNi]
 repeat (first
     | (apply walk_some (NewS (w.heap.size) 132 ((zer 16).map v8)) 14 (NewS.stable _ _ _) rfl rfl rfl rfl
        · (intro wx hwx;go_simp;exact gives_new (cs:=(zer 16).map v8) hwx.size))
     |(apply walk_is rfl rfl rfl;(intro wx hwx;(with_reducible apply gq_rowN (R7.out wx hwx));infer_instance;exact rfl;exact EH.out;exact(by rw [List.length_map];exact HH.out));(simp only [Act.put,sIB,sCS,sCZ];rfl))
     |(apply walk_some (KeysS ([Lf,V1])) 48 (KeysS.stable _) rfl rfl rfl rfl;(intro wx hwx;exact gq_bs2 (k1.out) (K1.out wx) rfl rfl))
     | (apply walk_from (T:=[(48,KeysS [Lf,V1])]) rfl rfl
        · (intro wx hwx;simp only [withS];(rintro x_ ⟨p_,c_,rfl,hc_,hk_⟩);refine⟨rfl, ?_⟩;go_simp;with_reducible exact gives_call (P1.out wx p_ c_ hc_ hk_))
        · (simp only [Act.put,sIB,sCS,sCZ];rfl))
     | (apply walk_is rfl rfl rfl
        · (intro wx hwx;go_simp;(try go_bits);first|exact gives_same|exact gives_skip|with_reducible exact gives_call (a1 wx hwx)|with_reducible exact gives_call (a2 wx hwx))
        · (simp only [Act.put,sIB,sCS,sCZ];rfl))
     | (apply walk_not rfl rfl rfl
        · (simp only [Act.put,sIB,sCS,sCZ];rfl)))
 intro wz hwz
 simp only [zCC,zNR]
 repeat rw [fin_is]
 rw [fin_cons];intro y48 hy48
 repeat rw [fin_is]
 rw [fin_cons];intro x14 hx14
 repeat rw [fin_is]
 rw [fin_nil];intro hap
 simp only [Act.put,sIB,sCS,sCZ]at hap⊢
 clear hy48
 obtain⟨g14_,rfl,hg14,hr14⟩:=hx14
 replace hm:=hm.push hwz hg14 hr14
 clear hap hr14
 clear a1 a2 hmA hx0 R7
 go_wp2_with (first|((with_reducible show qLd);first|(refine zB hm ?_))|((((with_reducible show qSt);first|(refine zE hm ?_)));clear hm;intro w hm))
 refine(BTW.out _ hm.x).mono ?_
 rintro e_ w ⟨rfl,hx_⟩
 replace hm:=hm.ext hx_
 clear hx_
 go_wp2_with (first|((((with_reducible show qSt);first|(refine zE hm ?_)));clear hm;intro w hm)|((first|((with_reducible show qAl);first|(refine zG hm ?_)));clear hm;(first|(have hx_:=g1;clear hx_;(first|(have hx_:=g2;clear hx_;intro gx_)|intro g2))|intro g1);intro w hm))
 have hx0:=hm.x
 have hmA:=hm
 have a2:=fun wx (hwx:Ext w wx)=>XC.out w wx (hx0.trans hwx) hwx p2 c2 c2n (RB.out wx [_,_] (hmA.ext hwx))
 have R7:=hid fun wx (hwx:Ext w wx)=>HR.out wx (hx0.trans hwx)
 refine region_new 18 (fun w'=>Ext _ w') 84 (by kernel_rfl) (by kernel_rfl) rfl (fun _ _ h k=>h.trans k) (drew_ext _) ?_
 simp only [tSC,tZe,dSC,dZe,mCo,mNi]
 repeat (first
     |(apply walk_is rfl rfl rfl;(intro wx hwx;(with_reducible apply gq_rowN (R7.out wx hwx));infer_instance;exact rfl;exact EL.out;exact(by rw [List.length_map];exact HLn.out));(simp only [Act.put,sIB,sCS,sCZ];rfl))
     | (apply walk_is rfl rfl rfl
        · (intro wx hwx;(with_reducible apply gq_row1 ((R7.out) wx hwx));infer_instance;exact rfl;(exact EK.out))
        · (simp only [Act.put,sIB,sCS,sCZ];rfl))
     |(apply walk_some (KeysS [One,Two,l]) 64 (KeysS.stable _) rfl rfl rfl rfl;(intro wx hwx;exact gq_bs3h k2.out (K2.out wx) rfl rfl rfl))
     | (apply walk_from (T:=[(64,KeysS [One,Two,l])]) rfl rfl
        · (intro wx hwx;simp only [withS];(rintro x_ ⟨p_,c_,rfl,hc_,hk_⟩);refine⟨rfl, ?_⟩;go_simp;with_reducible exact gives_call (P2.out wx p_ c_ hc_ hk_))
        · (simp only [Act.put,sIB,sCS,sCZ];rfl))
     | (apply walk_some (OwnT w.heap.size n B2) 67 (OwnT.stable _ _ _) rfl rfl rfl rfl
        · (intro wx hwx;go_simp;with_reducible exact gives_callR (a2 wx hwx)))
     | (apply walk_from_some (T:=[(67,OwnT w.heap.size n B2)]) (OwnT w.heap.size n B2) 53 (OwnT.stable _ _ _) rfl rfl rfl
        · (intro wx hwx;simp only [withS];(rintro x_ ⟨u_,rfl,h_⟩);refine⟨rfl, ?_⟩;go_simp;exact gives_val (Ext.refl _) ⟨u_,rfl,h_⟩))
     | (apply walk_from_some (T:=[(53,OwnT w.heap.size n B2)]) (OwnL w.heap.size n B2) 68 (OwnL.stable _ _ _) rfl rfl rfl
        · (intro wx hwx;simp only [withS];(rintro x_ ⟨u_,rfl,h_⟩);refine⟨rfl, ?_⟩;go_simp;exact gives_val (V:=OwnL w.heap.size n B2) (Ext.refl _) h_))
     | (apply walk_from (T:=[(53,OwnT w.heap.size n B2)]) rfl rfl
        · (intro wx hwx;simp only [withS];(rintro x_ ⟨u_,rfl,h_⟩);refine⟨rfl, ?_⟩;go_simp;exact gives_same)
        · (simp only [Act.put,sIB,sCS,sCZ];rfl))
     | (apply walk_from_some (T:=[(68,OwnL w.heap.size n B2)]) (OwnL w.heap.size n B2) 12 (OwnL.stable _ _ _) rfl rfl rfl
        · (intro wx hwx;simp only [withS];(intro x_ h_);refine⟨rfl, ?_⟩;go_simp;exact gives_val (V:=OwnL w.heap.size n B2) (Ext.refl _) h_))
     | (apply walk_is rfl rfl rfl
        · (intro wx hwx;first|((with_reducible show qGl);first|(exact zK (hm.ext hwx)))|(go_simp;(try go_bits);first|exact gives_same|exact gives_skip))
        · (simp only [Act.put,sIB,sCS,sCZ];rfl))
     | (apply walk_not rfl rfl rfl
        · (simp only [Act.put,sIB,sCS,sCZ];rfl)))
 intro wz hwz
 simp only [zCC,zNR]
 repeat rw [fin_is]
 rw [fin_cons];intro x64 hx64
 repeat rw [fin_is]
 rw [fin_cons];intro x67 hx67
 repeat rw [fin_is]
 rw [fin_cons];intro x53 hx53
 repeat rw [fin_is]
 rw [fin_cons];intro x68 hx68
 repeat rw [fin_is]
 rw [fin_cons];intro x12 hx12
 repeat rw [fin_is]
 rw [fin_nil];intro hap
 simp only [Act.put,sIB,sCS,sCZ]at hap⊢
 obtain⟨M3,hs3,hM3⟩:=hx12
 clear hm hx64 hx67 hx53 hx68 a2 hap
 have hm:=hmA.pushM hwz hs3 hM3
 obtain⟨p3,c3,rfl⟩:=hs3.form
 clear hmA hx0 R7 hM3 hwz
 obtain⟨w,rfl⟩:∃w_,w_=wz:=⟨_,rfl⟩
 have RB3:=hid fun wx L (h:Own w0 wx (L++(M3++(⟨g1,132,Two.map v8⟩::⟨g14_,132,One.map v8⟩::(M2++M1)))))=>(slo_rdZ hs3 h.dropN:RdB wx p3 B2)
 have c3n:n≤c3:=by
   obtain⟨_,_,hv,h1,_⟩:=hs3.cells hm
   cases hv
   exact h1
 clear hs3
 go_wp2_with fail
 have hx0:=hm.x
 have hmA:=hm
 have a2:=fun wx (hwx:Ext w wx)=>H2.out wx (hx0.trans hwx) p3 c3 c3n (RB3.out wx [] (hmA.ext hwx))
 have R7:=hid fun wx (hwx:Ext w wx)=>HR.out wx (hx0.trans hwx)
 refine region_new 11 (fun w'=>Ext _ w') 84 (by kernel_rfl) (by kernel_rfl) rfl (fun _ _ h k=>h.trans k) (drew_ext _) ?_
 simp only [tSC,tZe,dSC,dZe,mCo,mNi]
 repeat (first
     | (apply walk_some (NewS (w.heap.size) 132 ((zer 16).map v8)) 16 (NewS.stable _ _ _) rfl rfl rfl rfl
        · (intro wx hwx;go_simp;exact gives_new (cs:=(zer 16).map v8) hwx.size))
     |(apply walk_is rfl rfl rfl;(intro wx hwx;(with_reducible apply gq_rowN (R7.out wx hwx));infer_instance;exact rfl;exact EH.out;exact(by rw [List.length_map];exact HH.out));(simp only [Act.put,sIB,sCS,sCZ];rfl))
     |(apply walk_some (KeysS ([Two,V2])) 78 (KeysS.stable _) rfl rfl rfl rfl;(intro wx hwx;exact gq_bs2 (k3.out) (K3.out wx) rfl rfl))
     | (apply walk_from (T:=[(78,KeysS [Two,V2])]) rfl rfl
        · (intro wx hwx;simp only [withS];(rintro x_ ⟨p_,c_,rfl,hc_,hk_⟩);refine⟨rfl, ?_⟩;go_simp;with_reducible exact gives_call (P3.out wx p_ c_ hc_ hk_))
        · (simp only [Act.put,sIB,sCS,sCZ];rfl))
     | (apply walk_is rfl rfl rfl
        · (intro wx hwx;first|((with_reducible show qGl);first|(exact zK (hm.ext hwx)))|(go_simp;(try go_bits);first|exact gives_same|exact gives_skip|with_reducible exact gives_call (a2 wx hwx)))
        · (simp only [Act.put,sIB,sCS,sCZ];rfl))
     | (apply walk_not rfl rfl rfl
        · (simp only [Act.put,sIB,sCS,sCZ];rfl)))
 intro wz hwz
 simp only [zCC,zNR]
 repeat rw [fin_is]
 rw [fin_cons];intro y78 hy78
 repeat rw [fin_is]
 rw [fin_cons];intro x16 hx16
 repeat rw [fin_is]
 rw [fin_nil];intro hap
 simp only [Act.put,sIB,sCS,sCZ]at hap⊢
 clear hy78
 obtain⟨g16_,rfl,hg16,hr16⟩:=hx16
 replace hm:=hm.push hwz hg16 hr16
 clear hap hr16
 clear a2 hmA hx0 R7
 have BS:=hid fun g=>bs_s2 (some ⟨g,0,none⟩) p3 16 16 n c3
 go_wp2_with (first|((with_reducible apply wq_bs2g (BS.out _) hm);exact rfl;exact rfl;exact rfl;clear hm;intro gb w hm)|((((with_reducible show qSt);first|(refine zE hm ?_)));clear hm;intro w hm))
 refine(CC.out w _ (RR.out gb g16_ _ p3 c3 w c3n (hm.row .hd) (hm.rdB (g:=g16_) (l:=Fst) (.tl .hd)) (RB3.out w [_,_] hm))).mono ?_
 rintro e_ w ⟨v5,M5,rfl,hm1,hs5⟩
 rw [List.append_nil]at hm1
 replace hm:=hm.join hm1
 clear hm1
 go_wp2_with fail
 go_ret2
 exact⟨_,M5,_,rfl,hm,hs5⟩
theorem henc1_any(g gc:Nat)(k0 kl h l b:List Byte)(ks:List (List Byte))(hb:b.length=16)(w0:World)(hh:HcR w0 g k0 ks kl h l)(hc:Row w0 gc 100 [.pointer (some ⟨g,0,none⟩)]):Gives Tryz.prog 215 #[A8 b, .pointer (some ⟨gc,0,none⟩)] w0 (A8 (aesE k0 ks kl b)):=by
 unfold Gives
 have hm:=Own.start w0
 obtain⟨gk,h1,h2,_,_⟩:=hh
 have HR:=hid fun w (hx:Ext w0 w)=>row_ext h1 hx
 have HC:=hid fun w (hx:Ext w0 w)=>row_ext hc hx
 have EN:=hid fun w (hx:Ext w0 w)=>encrypt_any gk k0 kl ks b hb w (h2.ext hx)
 have lE:=aesE_length k0 ks kl b
 generalize aesE k0 ks kl b=E at*
 have EK:Hid ((hcC gk h l)[0]? =some (.pointer (some ⟨gk,0,none⟩))):=hid rfl
 obtain⟨PC,hPC⟩:=exq (hcC gk h l)
 rw [←hPC]at HR EK
 have h3:=Nat.le_of_eq hb
 have h4:=Nat.le_of_eq hb.symm
 have h5:=Nat.le_of_eq lE
 have h6:=Nat.le_of_eq lE.symm
 clear h1 h2 hc hPC hb
 go_enter Tryz.func215,Tryz.ntmps215
 go_wp2_with (first|((first|((with_reducible show qAl);first|(refine zG hm ?_))|((with_reducible show qBx);first|(refine zH hm ?_)));clear hm;intro gx_;intro w hm))
 have hx0:=hm.x
 have a1:=fun wx (hwx:Ext w wx)=>EN.out wx (hx0.trans hwx)
 have R1:=hid fun wx (hwx:Ext w wx)=>HR.out wx (hx0.trans hwx)
 have R2:=hid fun wx (hwx:Ext w wx)=>HC.out wx (hx0.trans hwx)
 refine rgE 6 10 ?_
 simp only [tSC,tZe,dSC,dZe,mCo,mNi]
 repeat (first
     | (apply walk_is rfl rfl rfl
        · (intro wx hwx;(with_reducible apply gq_row1 ((R2.out) wx hwx));infer_instance;exact rfl;exact rfl)
        · (simp only [Act.put,sIB,sCS,sCZ];rfl))
     | (apply walk_is rfl rfl rfl
        · (intro wx hwx;(with_reducible apply gq_row1 ((R1.out) wx hwx));infer_instance;exact rfl;(exact EK.out))
        · (simp only [Act.put,sIB,sCS,sCZ];rfl))
     | (apply walk_is rfl rfl rfl
        · (intro wx hwx;first|((with_reducible show qGl);first|(exact zK (hm.ext hwx)))|(go_simp;(try go_bits);first|exact gives_same|exact gives_skip|with_reducible exact gives_call (a1 wx hwx)))
        · (simp only [Act.put,sIB,sCS,sCZ];rfl))
     | (apply walk_not rfl rfl rfl
        · (simp only [Act.put,sIB,sCS,sCZ];rfl)))
 intro wz hwz
 simp only [zCC,zNR]
 repeat (first|rw [fin_is]|(rw [fin_cons];intro _ _))
 rw [fin_nil]
 try (replace hm:=hm.ext hwz)
 simp only [Act.put,sIB,sCS,sCZ]
 clear a1 hx0
 go_wp2_with (first|((((with_reducible show qSt);first|(refine zE hm ?_)));clear hm;intro w hm))
 refine rtO hm rfl rfl ⟨rfl,hm.x⟩
theorem henc_any(g n:Nat)(k0 kl h l t m:List Byte)(ks:List (List Byte))(ht:t.length≤500)(hl:m.length=n+16)(hn:n<400)(p q:Option Addr)(c d:Nat)(hc:t.length≤c)(hd:n+16≤d)(w0:World)(hh:HcR w0 g k0 ks kl h l)(hr:RdB w0 p t)(hq:RdB w0 q m):
   Calls Tryz.prog 211 #[.pointer (some ⟨g,0,none⟩), .slice p t.length c, .slice q (n+16) d] w0 fun e w'=>∃v M R,e= .returned (.tuple #[v, .int .i64 0])∧Own w0 w' (M++R)∧SlO M 5 1 v (n+16) ((hcDo k0 ks kl h l (aesE k0 ks kl) t m).map v8):=by
 have hm:=Own.start w0
 have DO:=hid fun (gc:Nat)(w:World)(hx:Ext w0 w)(hc1:Row w gc 100 [.pointer (some ⟨g,0,none⟩)])=>hdoes_gen 215 (fun args w=>by kernel_rfl) g gc n k0 kl h l t m ks (aesE k0 ks kl) (fun x=>aesE_length _ _ _ _) ht hl hn p q c d hc hd w (hh.ext hx) (hr.ext hx) (hq.ext hx) (fun wx hwx b hb=>henc1_any g gc k0 kl h l b ks hb wx ((hh.ext hx).ext hwx) (row_ext hc1 hwx))
 generalize hcDo k0 ks kl h l (aesE k0 ks kl) t m=OUT at*
 obtain⟨TL,hTL⟩:=exq (t.length)
 rw [←hTL]at DO⊢
 clear hr hq hh hl ht hc hTL
 go_enter Tryz.func211,Tryz.ntmps211
 go_wp2_with (first|((with_reducible apply wq_box1 (v:= .pointer (some ⟨g,0,none⟩)) hm);exact rfl;exact rfl;exact rfl;clear hm;intro g1 w hm)|((with_reducible show qLd);first|(refine zC hm ?_)))
 refine(DO.out g1 w hm.x (hm.row .hd)).mono ?_
 rintro e_ w ⟨v5,M5,R5,rfl,hm1,hs5⟩
 replace hm:=hm1.rebase hm.x
 clear hm1
 go_wp2_with fail
 go_ret2
 exact⟨_,M5,_,rfl,hm,hs5⟩
theorem zer_bothL(x:List Byte)(h:x.length=16):bothL (zer 16) x=x:=nth_ext (by rw [bothL_length,h]) fun i hi=>by
 rw [bothL_length]at hi
 rw [bothL_nth _ _ _ hi,zer,nth_tab hi];simp
end Go.Proofs.YtneacgpmjlocjaaGreatDoor
