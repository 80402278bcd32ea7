/-
  Texts of the program, walked, and plain ones. Conditions: those written in each theorem.
-/
import Derived.Test.YtneacgpmjlocjaaGreatDoorZTopWrapped0
import Derived.Test.YtneacgpmjlocjaaGreatDoorZTopWrapped22
import Derived.Test.YtneacgpmjlocjaaGreatDoorZTopWrapped11
set_option linter.unusedSimpArgs false
set_option linter.unusedVariables false
set_option maxHeartbeats 16000000
open Go.Lib (hid)
namespace Go.Proofs.YtneacgpmjlocjaaGreatDoor
open Go Go.RowKit
set_option maxRecDepth 100000
theorem build_msg(x y:List Byte)(hx:x.length=16)(hy:y.length=16)(w:World):(Instr.build 202 #[(3,A8 x),(4,A8 y)]).run Tryz.prog w= .ok (.agg (msgC (.slice none 0 0) (.slice none 0 0) (.slice none 0 0) x y).toArray) w:=by
 obtain⟨a0,a1,a2,a3,a4,a5,a6,a7,a8,a9,a10,a11,a12,a13,a14,a15,rfl⟩:=len16 x hx
 obtain⟨b0,b1,b2,b3,b4,b5,b6,b7,b8,b9,b10,b11,b12,b13,b14,b15,rfl⟩:=len16 y hy
 kernel_rfl
instance elemP:Elem Tryz.prog 223 32 32:=Elem.of (by kernel_rfl) (by omega)
theorem len32c(b:List Byte)(h:b.length=32):∃x y,b=x++y∧x.length=16∧y.length=16:=⟨b.take 16,b.drop 16,(List.take_append_drop 16 b).symm,by rw [List.length_take,h];rfl,by rw [List.length_drop,h]⟩
theorem bs1_pair(b:List Byte)(hb:b.length=32)(w:World):(Instr.buildSlice 200 1 #[(0,A8 b)]).run Tryz.prog w= .ok (.slice (some ⟨w.heap.size,0,none⟩) 1 1) (w.alloc (.cells (b.map v8).toArray 223)):=by
 obtain⟨x,y,rfl,hx,hy⟩:=len32c b hb
 obtain⟨a0,a1,a2,a3,a4,a5,a6,a7,a8,a9,a10,a11,a12,a13,a14,a15,rfl⟩:=len16 x hx
 obtain⟨b0,b1,b2,b3,b4,b5,b6,b7,b8,b9,b10,b11,b12,b13,b14,b15,rfl⟩:=len16 y hy
 kernel_rfl
def PairP(b:List Byte):PSlot:=fun v vs w=>vs=[none]→∃g e,v= .slice (some ⟨g,0,none⟩) 1 1∧Row w g e (b.map v8)
theorem PairP.stable {Sp:List (Option Value)→Nat→Value→World→World→Prop}(b:List Byte):PStable Sp (PairP b) where
 ext:=fun _ _ _ _ h hx he=>by obtain⟨g,e,h1,h2⟩:=h he;exact⟨g,e,h1,row_ext h2 hx⟩
 mark:=fun v vs i x w w' _ hn _ he=>by
   have hl:=(List.getElem?_eq_some_iff.1 hn).1
   have:=congrArg (fun l=>l[i]?) he
   simp only [List.getElem?_set_self hl]at this
   rcases i with _|i
   · cases this
   · simp at this
theorem gqp_bs1 {P:Program}{dst:Option Tmp}{ty:TypeId}{pos:String}{aft:Array Edge}{gd:Option (Nat×Bool)}{a:Act}{w:World}{T e:TypeId}{u0:Value}{x0:Operand}{b:List Byte}{s:List (Option Value)}(hb:(Instr.buildSlice T 1 #[(0,u0)]).run P w= .ok (.slice (some ⟨w.heap.size,0,none⟩) 1 1) (w.alloc (.cells (b.map v8).toArray e)))(hx0:a.eval x0=u0):
   gives P w (fun v w'=>PairP b v s w') ((execOp a.eval (Oper.mk dst (.buildSlice T 1 #[(0,x0)]) ty pos aft gd)).run P w):=by
 unfold execOp
 simp [hx0,hb]
 exact gives_val (V:=fun v w'=>PairP b v s w') (Ext.alloc (Ext.refl _) _) fun _=>⟨_,e,rfl,row_new w e (b.map v8)⟩
section
variable {P:Program} {ops:Array Oper} {Q:Exit→Act→World→Prop} {rest:List Oper} {dst:Option Tmp} {ty:TypeId} {pos:String} {aft:Array Edge} {gd:Option (Nat×Bool)} {a:Act} {w0 w:World} {L L':List Blk} {T t:TypeId} {x y:Operand} {g k:Nat} {cs cs':List Value} {v:Value}
theorem wq_stf(hm:Own w0 w L)(hgd:Region.wanted (Oper.mk dst (.store T x y) ty pos aft gd) (yielded ops a.tmps)=true)(hT:One1 P T)(hx:a.eval x= .pointer (some ⟨g,k,none⟩))(hy:a.eval y=v)(hval:v.cells= #[v])(h1:v.oneCell'=true)(hs:Swap L ⟨g,t,cs⟩ ⟨g,t,cs'⟩ L')(he:cs.set k v=cs')(hk:k<cs.length)(hr:∀w',Own w0 w' L'→wpList P ops Q rest (a.put dst undef) w'):wpList P ops Q ((Oper.mk dst (.store T x y) ty pos aft gd)::rest) a w:=wpl_st1 hm hgd rfl hx hy hval h1 hs hk he hr
end
theorem apart_any(l:List Byte)(p:Option Addr)(c:Nat)(h32:32≤l.length)(h300:l.length≤300)(hlc:l.length≤c)(w0:World)(hl:RdB w0 p l):
   Calls Tryz.prog 116 #[.slice p l.length c] w0 fun e w'=>∃(pp:Value)(pu pv:Option Addr)(cu cv:Nat)(M:List Blk),e= .returned (.agg (msgC pp (.slice pu (splitT l).u.length cu) (.slice pv (splitT l).v.length cv) (splitT l).x (splitT l).y).toArray)∧
     RdB w0 pu (splitT l).u∧RdB w0 pv (splitT l).v∧SlO M 223 32 pp ((l.length-32)/32) ((splitT l).ps.map v8)∧Own w0 w' M:=by
 obtain⟨a,rfl⟩:=Option.isSome_iff_exists.1 (hl.1 (by omega))
 obtain⟨f1,f2,f3⟩:=fl_core_at l.length h32 h300
 have L1:=hid fun w hx=>clast_any l (some a) c 32 32 (by omega) rfl h32 f1 f3 hlc (by omega) w (hl.ext hx)
 have L2:=hid fun w hx=>clast_any l (some a) c 16 16 (by omega) rfl (by omega) f2 f3 hlc (by omega) w (hl.ext hx)
 have lX:((l.drop (l.length-32)).take 16).length=16:=by rw [List.length_take,List.length_drop];omega
 have lY:((l.drop (l.length-16)).take 16).length=16:=by rw [List.length_take,List.length_drop];omega
 have BM:=hid (build_msg _ _ lX lY)
 have EX:Hid ((splitT l).x=(l.drop (l.length-32)).take 16):=hid rfl
 have EY:Hid ((splitT l).y=(l.drop (l.length-16)).take 16):=hid (by show l.drop _=_;rw [List.take_of_length_le (by rw [List.length_drop];omega)])
 generalize (l.drop (l.length-32)).take 16=X at*
 generalize (l.drop (l.length-16)).take 16=Y at*
 obtain⟨L,hL⟩:∃L,L=l.length-32:=⟨_,rfl⟩
 have HR0:Hid (RdB w0 (some a) (l.take L)):=hid (hl.take L)
 have lm:(l.take L).length=L:=by rw [List.length_take];omega
 have HS:=hid (show(splitT l).ps=(l.take L).take (32*(L/32))∧restM l=(l.take L).drop (32*(L/32))from by
   constructor
   · show l.take (32*((l.length-32)/32))=_
     rw [List.take_take,hL,Nat.min_eq_left (by omega)]
   · rw [restM,List.drop_take,hL])
 have hLc:(l.length:Int)-32=(L:Int):=by omega
 have b1:(0:Int)≤(L:Int):=by omega
 have b2:(L:Int)≤(c:Int):=by omega
 have b3:L+32≤c:=by omega
 have b4:L≤300:=by omega
 have HL:=hid hL
 have lS:=fun pp u v=>msg_length (pp:=pp) (u:=u) (v:=v) lX lY
 clear hl f1 f2 f3 h300 hlc hL
 have hm:=Own.start w0
 go_enter Tryz.func116,Tryz.ntmps116
 go_wp2_with (first|(((with_reducible show qAl);refine zG hm ?_);clear hm;(first|(have hx_:=g1;clear hx_;(first|(have hx_:=g2;clear hx_;intro gx_)|intro g2))|intro g1);intro w hm))
 refine wp_scope_goto 0 (fun a_ w_=>∃(k m cq g1 g2:Nat)(q:Addr)(pp:Value)(M:List Blk)(Z:List Value)(u1 u4 u5 u6 u7 u8 u9 u10 u11 u12 u13 u14 u15 u16 u17 u18 u19 u20 u21 u22 u23 u24 u25 u26 u27 u28 u29 u30 u31 u32 u33 u34 u35 u36 u37 u38 u39 u40 u41 u42:Value),a_={tmps:= #[(.slice (some q) m cq),u1,(.pointer (some ⟨g1,0,none⟩)),(.pointer (some ⟨g2,0,none⟩)),u4,u5,u6,u7,u8,u9,u10,u11,u12,u13,u14,u15,u16,u17,u18,u19,u20,u21,u22,u23,u24,u25,u26,u27,u28,u29,u30,u31,u32,u33,u34,u35,u36,u37,u38,u39,u40,u41,u42],defers:=[]}∧m+32*k=L∧m+32≤cq∧RdB w0 (some q) ((l.take L).drop (32*k))∧SlO M 223 32 pp k (((l.take L).take (32*k)).map v8)∧Z.length=35∧Own w0 w_ (M++[⟨g2,202,msgC pp (.slice none 0 0) (.slice none 0 0) X Y⟩,⟨g1,202,Z⟩])) (fun a_ _=>slen (a_.tmps.getD 0 undef)) rfl ?_ ?_
 · clear hm
   rintro a' w ⟨k,m,cq,g1,g2,q,pp,M,Z,u1,u4,u5,u6,u7,u8,u9,u10,u11,u12,u13,u14,u15,u16,u17,u18,u19,u20,u21,u22,u23,u24,u25,u26,u27,u28,u29,u30,u31,u32,u33,u34,u35,u36,u37,u38,u39,u40,u41,u42,rfl,⟨hmk,hmc,hrd,hso,hZ,hm⟩⟩
   by_cases h:32≤m
   · have d1:decide ((32:Int)≤(m:Int))=true:=decide_eq_true (by omega)
     have d2:decide ((m:Int)≥32)=true:=decide_eq_true (by omega)
     have d3:(32:Int)≤(m:Int):=by omega
     have d4:(16:Int)≤(m:Int):=by omega
     obtain⟨pa,ca,rfl⟩:=hso.form
     have lR:((l.take L).drop (32*k)).length=m:=by rw [List.length_drop,lm];omega
     have lR2:(((l.take L).drop (32*k)).drop 16).length=m-16:=by rw [List.length_drop,lR]
     have A1:q.add 16={block:=q.block,off:=q.off+16}:=by unfold Addr.add;split<;>first|rfl|omega|(simp_all;done)
     have A2:q.add 32={block:=q.block,off:=q.off+32}:=by unfold Addr.add;split<;>first|rfl|omega|(simp_all;done)
     have r2:=hrd.drop 16
     have r3:=hrd.drop 32
     rw [A1]at r2
     rw [A2,List.drop_drop,show 32*k+32=32*(k+1)by omega]at r3
     have B1:=hid fun (wx:World)(hx:Ext w0 wx)=>show Gives Tryz.prog 69 #[.slice (some q) m cq] wx (A8 (blk ((l.take L).drop (32*k))))from by
       have:=oblock_any _ (some q) cq wx (hrd.ext hx)
       rwa [lR]at this
     have B2:=hid fun (wx:World)(hx:Ext w0 wx)=>show Gives Tryz.prog 69 #[.slice (some {block:=q.block,off:=q.off+16}) (m-16) (cq-16)] wx (A8 (blk (((l.take L).drop (32*k)).drop 16)))from by
       have:=oblock_any _ (some {block:=q.block,off:=q.off+16}) (cq-16) wx (r2.ext hx)
       rwa [lR2]at this
     have HR3:=hid r3
     have lP:=blk_length ((l.take L).drop (32*k))
     have lP2:=blk_length (((l.take L).drop (32*k)).drop 16)
     have eT:(l.take L).take (32*(k+1))=(l.take L).take (32*k)++(blk ((l.take L).drop (32*k))++blk (((l.take L).drop (32*k)).drop 16)):=by
       have e1:blk ((l.take L).drop (32*k))=((l.take L).drop (32*k)).take 16:=blk_sub _ _ (by rw [lm];omega)
       have e2:blk (((l.take L).drop (32*k)).drop 16)=(((l.take L).drop (32*k)).drop 16).take 16:=blk_sub _ _ (by rw [lR];omega)
       rw [e1,e2,show 32*(k+1)=32*k+(16+16)by omega,List.take_add,List.take_add]
     have ET:=hid eT
     have lPP:(blk ((l.take L).drop (32*k))++blk (((l.take L).drop (32*k)).drop 16)).length=32:=by rw [List.length_append,lP,lP2]
     have BP:=hid (build_pair _ _ lP lP2)
     have BS:=hid (bs1_pair _ lPP)
     have LY:=hid (show((blk ((l.take L).drop (32*k))++blk (((l.take L).drop (32*k)).drop 16)).map v8).length=1*32 by rw [List.length_map,lPP])
     have FIT:=hid (show(k+1)*(32+1)≤140737488355328 by omega)
     have FP:=hid (msg_pp (pp:= .slice pa k ca) (u:= .slice none 0 0) (v:= .slice none 0 0) (x:=X) (y:=Y))
     have HM:=hid hmk
     have HC:=hid hmc
     have hc1:¬(cq:Int)=16:=by omega
     have hc4:¬cq=16:=by omega
     have hc5:¬cq=32:=by omega
     have hc2:¬(cq:Int)=32:=by omega
     have hc3:(m:Int)≤(cq:Int):=by omega
     have HSO:=hid hso
     have HZ:=hid hZ
     clear hrd r2 r3 eT lPP lR lR2 hmk hso hmc hZ
     generalize hPP:blk ((l.take L).drop (32*k))++blk (((l.take L).drop (32*k)).drop 16)=PP at*
     have HPP:=hid hPP
     clear hPP
     generalize blk ((l.take L).drop (32*k))=P at*
     generalize blk (((l.take L).drop (32*k)).drop 16)=P2 at*
     go_wp2_with fail
     refine pregion 11 (JA1 w0 [⟨g2,202,msgC (.slice pa k ca) (.slice none 0 0) (.slice none 0 0) X Y⟩,⟨g1,202,Z⟩] 223 32 (.slice pa k ca) k (((l.take L).take (32*k)).map v8) (k+1) (((l.take L).take (32*k)).map v8++PP.map v8)) [9] 43 (by kernel_rfl) (by kernel_rfl) rfl (⟨none,rfl,M,hm.ext (drew_ext _),HSO.out⟩) ?_
     simp only [zTa]
     repeat (first
         |(apply pwalk_is rfl rfl rfl rfl;(intro vs_ wx hJ_;obtain⟨a_,rfl,hX_⟩:=hJ_;have hm:=hX_.low;(with_reducible apply gq_ld1 hm);infer_instance;exact rfl;(focus ((repeat (first|exact .hd|assumption|apply Has.tl|apply Has.app));done));(exact FP.out));(simp only [zPu];rfl))
         |(apply pwalk_is rfl rfl rfl rfl;(intro vs_ wx hJ_;obtain⟨a_,rfl,hX_⟩:=hJ_;have hm:=hX_.low;(with_reducible apply gq_build BP.out);(first|rfl|simp [Act.eval]|kernel_rfl));(simp only [zPu];rfl))
         |(apply pwalk_some (PairP PP) 25 (PairP.stable _) rfl rfl rfl rfl rfl;(intro vs_ wx hJ_;exact gqp_bs1 (BS.out wx) rfl))
         | (apply pwalk_mark (T:=[(25,PairP PP)]) 0 [] rfl rfl rfl (by kernel_rfl) rfl
            · (intro vs_ wx hJ_ hn_ hD_;simp only [pwithS];obtain⟨a_,rfl,hX_⟩:=hJ_;obtain rfl:a_=none:=(by simpa using hn_);obtain⟨M_,hm,hs_⟩:=hX_;intro x_ hx_;obtain⟨gx_,ex_,rfl,hrow_⟩:=hx_ rfl;refine⟨rfl, ?_⟩;refine wplO_app (M:=M_) (ds:=PP.map v8) hm hs_ rfl rfl rfl rfl Tryz.underlying200 LY.out (cellsB (RdB.of_row hrow_)) (one_map _) FIT.out ?_;intro v_ w_ M1_ hm1_ hs1_;exact mark_end rfl (X1.j0 hm1_ hs1_)))
         | (apply pwalk_is rfl rfl rfl rfl
            · (intro vs_ wx hJ_;obtain⟨a_,rfl,hX_⟩:=hJ_;have hm:=hX_.low;first|((with_reducible show qGl);first|(exact zJ hm)|(exact zK hm)|(exact zL hm))|(go_simp;(try go_bits);first|exact gives_same|exact gives_skip|with_reducible exact gives_call (B1.out wx hm.x)|with_reducible exact gives_call (B2.out wx hm.x)))
            · (simp only [zPu];rfl)))
     intro vs_ wz hJ_ hl_ hall_
     simp only [zZi]
     repeat rw [pfin_is]
     rw [pfin_cons];intro y25 hy25
     repeat rw [pfin_is]
     rw [pfin_cons];intro x26 hx26
     repeat rw [pfin_is]
     rw [pfin_nil]
     simp only [zPu]
     obtain⟨a_,rfl,hX_⟩:=hJ_
     obtain⟨p_,rfl⟩:=some1 hall_
     obtain rfl:=pmk0 hx26
     clear hm
     obtain⟨M1,hm,hs1⟩:=hX_
     obtain⟨p1,c1,rfl⟩:=hs1.form
     clear hy25 hx26 hl_ hall_
     have lM:=lS (.slice pa k ca) (.slice none 0 0) (.slice none 0 0)
     go_wp2_with (first|((with_reducible show qSt);refine zF hm ?_;clear hm;intro w hm))
     go_step3
     exact⟨rfl,⟨_,_,_,_,_,_,_,_,_,_,_,_,_,_,_,_,_,_,_,_,_,_,_,_,_,_,_,_,_,_,_,_,_,_,_,_,_,_,_,_,_,_,_,_,_,_,_,_,_,rfl,⟨by have:=HM.out;show m-32+32*(k+1)=L;omega,by have:=HC.out;omega,HR3.out,(by rw [ET.out,List.map_append];exact hs1),HZ.out,hm⟩⟩,by simp [slen];omega⟩
   · have d1:decide ((32:Int)≤(m:Int))=false:=decide_eq_false (by omega)
     have d2:decide ((m:Int)≥32)=false:=decide_eq_false (by omega)
     have d3:¬(32:Int)≤(m:Int):=by omega
     have lR:((l.take L).drop (32*k)).length=m:=by rw [List.length_drop,lm];omega
     have hk:L/32=k:=by omega
     obtain⟨s1,s2⟩:=HS.out
     rw [hk]at s1 s2
     have HKN:=hid (show(l.length-32)/32=k by rw [←HL.out];exact hk)
     rw [←s1]at hso
     have su:(splitT l).u=((l.take L).drop (32*k)).take 16:=by rw [←s2];rfl
     have sv:(splitT l).v=((l.take L).drop (32*k)).drop 16:=by rw [←s2];rfl
     have ru:=hrd.take 16
     rw [←su]at ru
     have hc1:¬cq=m:=by omega
     have hc2:¬cq=16:=by omega
     obtain⟨pa,ca,rfl⟩:=hso.form
     by_cases h16:m≤16
     · have lu:(splitT l).u.length=m:=by rw [su,List.length_take,lR];omega
       have lv:(splitT l).v.length=0:=by rw [sv,List.length_drop,lR];omega
       have rv:RdB w0 (some (q.add m)) (splitT l).v:=by rw [List.length_eq_zero_iff.1 lv];exact RdB.nil _ _
       have n1:(m:Int)≤16:=by omega
       have n2:decide ((m:Int)≤16)=true:=decide_eq_true n1
       go_wp2_with (first|((with_reducible show wpList _ _ _ (Oper.mk _ (Op.store 22 _ _) _ _ _ _::_) _ _);(with_reducible apply wq_stf (v:= .slice (some q) m cq) hm);exact rfl;infer_instance;exact rfl;exact rfl;exact rfl;exact rfl;(focus ((repeat (first|exact .hd|apply Swap.tl|apply Swap.app|apply Swap.app));done));(exact msg_set1 _);(rw [lS];omega);clear hm;intro w hm)|((with_reducible show wpList _ _ _ (Oper.mk _ (Op.store 22 _ _) _ _ _ _::_) _ _);(with_reducible apply wq_stf (v:= .slice (some (q.add m)) 0 (cq-m)) hm);exact rfl;infer_instance;exact rfl;exact rfl;exact rfl;exact rfl;(focus ((repeat (first|exact .hd|apply Swap.tl|apply Swap.app|apply Swap.app));done));(exact msg_set2 _);(rw [lS];omega);clear hm;intro w hm)|((with_reducible show wpList _ _ _ (Oper.mk _ (Op.store 202 _ _) _ _ _ _::_) _ _);(with_reducible apply wq_stW hm);exact rfl;infer_instance;exact rfl;exact rfl;(focus ((repeat (first|exact .hd|apply Swap.tl|apply Swap.app|apply Swap.app));done));(exact lS (.slice pa k ca) (.slice (some q) m cq) (.slice (some (q.add m)) 0 (cq-m)));(exact hZ);(exact msg_one rfl rfl rfl);clear hm;intro w hm)|((with_reducible show wpList _ _ _ (Oper.mk _ (Op.load 202 _) _ _ _ _::_) _ _);(with_reducible apply wq_ldW hm);exact rfl;infer_instance;exact rfl;(focus ((repeat (first|exact .hd|apply Has.tl|apply Has.app|apply Has.app));done));(exact lS (.slice pa k ca) (.slice (some q) m cq) (.slice (some (q.add m)) 0 (cq-m))))|((with_reducible show qLd);refine zC hm ?_))
       simp only [Exit.jump]
       refine ret_own hm rfl rfl (by infer_instance) (by repeat (first|exact Has.hd|assumption|apply Has.tl|apply Has.app)) (lS (.slice pa k ca) (.slice (some q) m cq) (.slice (some (q.add m)) 0 (cq-m))) rfl ?_
       exact⟨.slice pa k ca,some q,(some (q.add m)),cq,(cq-m),M,by rw [lu,lv,EX.out,EY.out],ru,rv,HKN.out ▸ hso,(hm.perm List.perm_append_comm).dropN⟩
     · have lu:(splitT l).u.length=16:=by rw [su,List.length_take,lR];omega
       have lv:(splitT l).v.length=m-16:=by rw [sv,List.length_drop,lR]
       have rv:=hrd.drop 16
       rw [←sv]at rv
       have n1:¬(m:Int)≤16:=by omega
       have n2:decide ((m:Int)≤16)=false:=decide_eq_false n1
       have n3:(16:Int)≤(m:Int):=by omega
       go_wp2_with (first|((with_reducible show wpList _ _ _ (Oper.mk _ (Op.store 22 _ _) _ _ _ _::_) _ _);(with_reducible apply wq_stf (v:= .slice (some q) 16 cq) hm);exact rfl;infer_instance;exact rfl;exact rfl;exact rfl;exact rfl;(focus ((repeat (first|exact .hd|apply Swap.tl|apply Swap.app|apply Swap.app));done));(exact msg_set1 _);(rw [lS];omega);clear hm;intro w hm)|((with_reducible show wpList _ _ _ (Oper.mk _ (Op.store 22 _ _) _ _ _ _::_) _ _);(with_reducible apply wq_stf (v:= .slice (some (q.add 16)) (m-16) (cq-16)) hm);exact rfl;infer_instance;exact rfl;exact rfl;exact rfl;exact rfl;(focus ((repeat (first|exact .hd|apply Swap.tl|apply Swap.app|apply Swap.app));done));(exact msg_set2 _);(rw [lS];omega);clear hm;intro w hm)|((with_reducible show wpList _ _ _ (Oper.mk _ (Op.store 202 _ _) _ _ _ _::_) _ _);(with_reducible apply wq_stW hm);exact rfl;infer_instance;exact rfl;exact rfl;(focus ((repeat (first|exact .hd|apply Swap.tl|apply Swap.app|apply Swap.app));done));(exact lS (.slice pa k ca) (.slice (some q) 16 cq) (.slice (some (q.add 16)) (m-16) (cq-16)));(exact hZ);(exact msg_one rfl rfl rfl);clear hm;intro w hm)|((with_reducible show wpList _ _ _ (Oper.mk _ (Op.load 202 _) _ _ _ _::_) _ _);(with_reducible apply wq_ldW hm);exact rfl;infer_instance;exact rfl;(focus ((repeat (first|exact .hd|apply Has.tl|apply Has.app|apply Has.app));done));(exact lS (.slice pa k ca) (.slice (some q) 16 cq) (.slice (some (q.add 16)) (m-16) (cq-16))))|((with_reducible show qLd);refine zC hm ?_))
       simp only [Exit.jump]
       refine ret_own hm rfl rfl (by infer_instance) (by repeat (first|exact Has.hd|assumption|apply Has.tl|apply Has.app)) (lS (.slice pa k ca) (.slice (some q) 16 cq) (.slice (some (q.add 16)) (m-16) (cq-16))) rfl ?_
       exact⟨.slice pa k ca,some q,(some (q.add 16)),cq,(cq-16),M,by rw [lu,lv,EX.out,EY.out],ru,rv,HKN.out ▸ hso,(hm.perm List.perm_append_comm).dropN⟩
 · intro hp
   go_wp2_with (first|(go_at_call 137;(with_reducible refine(L1.out _ hm.x).mono ?_);rintro e_ w ⟨rfl,hx_⟩;replace hm:=hm.ext hx_;clear hx_)|(go_at_call 137;(with_reducible refine(L2.out _ hm.x).mono ?_);rintro e_ w ⟨rfl,hx_⟩;replace hm:=hm.ext hx_;clear hx_)|((with_reducible apply wq_build2 BM.out);exact rfl;exact rfl;exact rfl)|((with_reducible show wpList _ _ _ (Oper.mk _ (Op.store 202 _ _) _ _ _ _::_) _ _);(with_reducible apply wq_stW hm);exact rfl;infer_instance;exact rfl;exact rfl;(focus ((repeat (first|exact .hd|apply Swap.tl|apply Swap.app|apply Swap.app));done));(exact lS _ _ _);(focus (first|assumption|(simp;done)));(exact msg_one rfl rfl rfl);clear hm;intro w hm)|(((with_reducible show qAl);refine zG hm ?_);clear hm;(first|(have hx_:=g1;clear hx_;(first|(have hx_:=g2;clear hx_;intro gx_)|intro g2))|intro g1);intro w hm))
   go_step3
   rename_i hK
   exact hK _ _ (hp _ _ ⟨_,_,_,_,_,_,_,_,_,_,_,_,_,_,_,_,_,_,_,_,_,_,_,_,_,_,_,_,_,_,_,_,_,_,_,_,_,_,_,_,_,_,_,_,_,_,_,_,_,rfl,⟨(show L+32*0=L by omega),by omega,(show RdB w0 (some a) ((l.take L).drop (32*0))from HR0.out),SlO.nil _ _,by simp,hm⟩⟩)
theorem cells_part {w:World}{g o n:Nat}{t:TypeId}{cs ds:List Value}(hr:Row w g t cs)(h:(cs.drop o).take n=ds):∀(j:Nat)(u:Value),ds[j]? =some u→∃a,(some ⟨g,o,none⟩:Option Addr)=some a∧w.cell? (a.add j)=some u:=by
 intro j u hj
 refine⟨_,rfl, ?_⟩
 show w.cell? ((⟨g,o,none⟩:Addr).add j)=_
 rw [Addr.add_mid,row_cell hr]
 rw [←h,List.getElem?_take]at hj
 split at hj
 · rwa [List.getElem?_drop]at hj
 · cases hj
theorem pair_fst(ps:List Byte)(k n:Nat)(hl:ps.length=32*n)(hk:k<n):((((ps.drop (32*k)).take 32).map v8).drop 0).take 16=(fstB ps k).map v8:=by
 rw [dZe,←List.map_take,fstB_of]
theorem pair_snd(ps:List Byte)(k n:Nat)(hl:ps.length=32*n)(hk:k<n):((((ps.drop (32*k)).take 32).map v8).drop 16).take 16=(sndB ps k).map v8:=by
 rw [←List.map_drop,sndB_of,List.take_of_length_le (by simp;omega)]
theorem take_pair(ps:List Byte)(k n:Nat)(hl:ps.length=32*n)(hk:k<n):ps.take (32*(k+1))=ps.take (32*k)++fstB ps k++sndB ps k:=by
 rw [List.append_assoc,fstB_of,sndB_of,List.take_append_drop,show 32*(k+1)=32*k+32 by omega,List.take_add]
theorem cbytes_any(q:Option Addr)(n cap:Nat)(c:CoreT)(pu pv:Option Addr)(cu cv:Nat)(ok:c.Ok n)(hn:n≤70368744177)(w0:World)(hp:RdB w0 q c.ps)(hnc:n≤cap)(hu:RdB w0 pu c.u)(hv:RdB w0 pv c.v):
   GivesR Tryz.prog 121 #[.agg (msgC (.slice q n cap) (.slice pu c.u.length cu) (.slice pv c.v.length cv) c.x c.y).toArray] w0 (BytesS (joinT c)):=by
 unfold GivesR
 have hm:=Own.start w0
 obtain⟨ps,u,v,x,y⟩:=c
 have h1:ps.length=32*n:=ok.ps
 have h2:u.length≤16:=ok.u
 have h3:v.length≤15:=ok.v
 have h4:x.length=16:=ok.x
 have h5:y.length=16:=ok.y
 have HP:=hid (show RdB w0 q ps from hp)
 have HU:=hid (show RdB w0 pu u from hu)
 have HV:=hid (show RdB w0 pv v from hv)
 have FP:=hid (msg_pp (pp:= .slice q n cap) (u:= .slice pu u.length cu) (v:= .slice pv v.length cv) (x:=x) (y:=y))
 have FU:=hid (msg_u (pp:= .slice q n cap) (u:= .slice pu u.length cu) (v:= .slice pv v.length cv) (x:=x) (y:=y))
 have FV:=hid (msg_v (pp:= .slice q n cap) (u:= .slice pu u.length cu) (v:= .slice pv v.length cv) (x:=x) (y:=y))
 have FX:=hid (msg_x (pp:= .slice q n cap) (u:= .slice pu u.length cu) (v:= .slice pv v.length cv) (x:=x) (y:=y) h4)
 have FY:=hid (msg_y (pp:= .slice q n cap) (u:= .slice pu u.length cu) (v:= .slice pv v.length cv) (x:=x) (y:=y) h4 h5)
 have lS:=msg_length (pp:= .slice q n cap) (u:= .slice pu u.length cu) (v:= .slice pv v.length cv) h4 h5
 show Calls Tryz.prog 121 #[.agg (msgC (.slice q n cap) (.slice pu u.length cu) (.slice pv v.length cv) x y).toArray] w0 _
 generalize msgC (.slice q n cap) (.slice pu u.length cu) (.slice pv v.length cv) x y=S at*
 have H1:=hid h1
 have TK:=hid fun k hk=>take_pair ps k n h1 hk
 have PF:=hid fun k hk=>pair_fst ps k n h1 hk
 have PS:=hid fun k hk=>pair_snd ps k n h1 hk
 have LF:=hid fun k (hk:k<n)=>fstB_length ps k (by omega)
 have LS:=hid fun k (hk:k<n)=>sndB_length ps k (by omega)
 have LP:=hid fun k (hk:k<n)=>show((ps.drop (32*k)).take 32).length=32 by rw [List.length_take,List.length_drop];omega
 clear ok hp hu hv h1
 go_enter Tryz.func121,Tryz.ntmps121
 go_wp2_with (first|((with_reducible apply wq_ld1 hm);exact rfl;infer_instance;exact rfl;(focus ((repeat (first|exact .hd|assumption|apply Has.tl|apply Has.app));done));(exact FP.out))|(((with_reducible show qBx);refine zH hm ?_);clear hm;(first|(have hx_:=g1;clear hx_;(first|(have hx_:=g2;clear hx_;intro gx_)|intro g2))|intro g1);intro w hm))
 go_loopw [3,9] (fun o i wr=>∃(k:Nat)(M:List Blk),k≤n∧i= .int .i64 k∧SlO M 5 1 o (32*k) ((ps.take (32*k)).map v8)∧Own w0 wr (M++[⟨g1,202,S⟩])) (fun _ i _=>n-(intOf i).toNat)
 case atStart=>exact⟨0,[],by omega,rfl,SlO.nil _ _,hm⟩
 case round =>
   obtain⟨k,M,hk,rfl,hso,hm⟩:=hrel
   obtain⟨po,co,rfl⟩:=hso.form
   have HSO:=hid hso
   obtain⟨L,hL⟩:∃L:Nat,L=32*k:=⟨_,rfl⟩
   rw [←hL]at HSO⊢
   have HL:=hid hL
   clear hso hL
   by_cases hlt:k<n
   · have hd:decide ((k:Int)<(n:Int))=true:=decide_eq_true (by omega)
     have hd2:(k:Int)<(n:Int):=by omega
     obtain⟨a,rfl⟩:=Option.isSome_iff_exists.1 (HP.out.1 (by rw [H1.out];omega))
     have hr0:=HP.out.sub (32*k) 32 (by rw [H1.out];omega) (by omega)
     rw [show(some ((some a).getD default|>.add (32*k)):Option Addr)=some (a.add (k*32))by rw [Nat.mul_comm];rfl]at hr0
     have HR:=hid hr0
     have lp:=LP.out k hlt
     have CF:=hid (PF.out k hlt)
     have CS:=hid (PS.out k hlt)
     have lf:=LF.out k hlt
     have ls:=LS.out k hlt
     have LA:=hid (show((fstB ps k).map v8).length=16*1 by simp [lf])
     have LB:=hid (show((sndB ps k).map v8).length=16*1 by simp [ls])
     have ET:=hid (TK.out k hlt)
     have FIT:=hid (show(L+16)*(1+1)≤140737488355328∧(L+16+16)*(1+1)≤140737488355328 by have:=HL.out;omega)
     rw [←HL.out]at ET
     generalize (ps.drop (32*k)).take 32=P at*
     generalize fstB ps k=A at*
     generalize sndB ps k=B at*
     generalize hT2:ps.take (32*(k+1))=T2 at*
     generalize ps.take L=T1 at*
     have HT2:=hid hT2
     clear hT2 lf ls hr0
     go_wp2_with (first|((with_reducible apply wq_rdW (HR.out.ext hm.x));exact rfl;infer_instance;exact rfl;exact lp)|((with_reducible show qSt);refine zE hm ?_;clear hm;intro w hm)|(((with_reducible show qAl);refine zG hm ?_);clear hm;(first|(have hx_:=g1;clear hx_;(first|(have hx_:=g2;clear hx_;intro gx_)|intro g2))|intro g1);intro w hm))
     refine pregion 7 (JA2 w0 [⟨g2,223,P.map v8⟩,⟨g1,202,S⟩] 5 1 (.slice po L co) L (T1.map v8) (L+16) (T1.map v8++A.map v8) (L+16+16) (T1.map v8++A.map v8++B.map v8)) [3,6] 35 (by kernel_rfl) (by kernel_rfl) rfl (⟨none,none,rfl,M,(hm.perm List.perm_middle.symm).ext (drew_ext _),HSO.out⟩) ?_
     simp only [zTa]
     repeat (first
         | (apply pwalk_mark (T:=[]) 0 [] rfl rfl rfl (by kernel_rfl) rfl
            · (intro vs_ wx hJ_ hn_ hD_;simp only [pwithS];obtain⟨a_,b_,rfl,hX_⟩:=hJ_;obtain rfl:a_=none:=(by simpa using hn_);obtain⟨rfl,M_,hm,hs_⟩:=hX_.first;refine⟨rfl, ?_⟩;refine wplO_app (M:=M_) (ds:=A.map v8) hm hs_ rfl rfl rfl rfl Tryz.underlying22 LA.out (cells_part (hm.row (by repeat (first|exact Has.hd|assumption|apply Has.tl|apply Has.app))) CF.out) (one_map _) FIT.out.1 ?_;intro v_ w_ M1_ hm1_ hs1_;exact mark_end rfl (X2.j0 hm1_ hs1_)))
         | (apply pwalk_mark (T:=[(16,PMk 0)]) 1 [0] rfl rfl rfl (by kernel_rfl) rfl
            · (intro vs_ wx hJ_ hn_ hD_;simp only [pwithS];obtain⟨a_,b_,rfl,hX_⟩:=hJ_;obtain rfl:b_=none:=(by simpa using hn_);intro x_ hx_;obtain rfl:a_=some x_:=(by simpa [PMk]using hx_);obtain⟨M_,hm,hs_⟩:=hX_;refine⟨rfl, ?_⟩;refine wplO_app (M:=M_) (ds:=B.map v8) hm hs_ rfl rfl rfl rfl Tryz.underlying22 LB.out (cells_part (hm.row (by repeat (first|exact Has.hd|assumption|apply Has.tl|apply Has.app))) CS.out) (one_map _) FIT.out.2 ?_;intro v_ w_ M1_ hm1_ hs1_;exact mark_end rfl (X2.j1 hm1_ hs1_)))
         | (apply pwalk_is rfl rfl rfl rfl
            · (intro vs_ wx hJ_;obtain⟨a_,b_,rfl,hX_⟩:=hJ_;have hm:=hX_.low;first|((with_reducible show qGl);first|(exact zJ hm)|(exact zK hm)|(exact zL hm))|(go_simp;(try go_bits);first|exact gives_same|exact gives_skip))
            · (simp only [zPu];rfl)))
     intro vs_ wz hJ_ hl_ hall_
     simp only [zZi]
     repeat rw [pfin_is]
     rw [pfin_cons];intro x16 hx16
     repeat rw [pfin_is]
     rw [pfin_cons];intro x19 hx19
     repeat rw [pfin_is]
     rw [pfin_nil]
     simp only [zPu]
     obtain⟨a_,b_,rfl,hX_⟩:=hJ_
     obtain⟨p_,q_,rfl,rfl⟩:=some2 hall_
     obtain rfl:=pmk0 hx16
     obtain rfl:=pmk1 hx19
     clear hm
     obtain⟨M1,hm,hs1⟩:=hX_
     obtain⟨p1,c1,rfl⟩:=hs1.form
     clear hx16 hx19 hl_ hall_
     go_wp2_with fail
     go_roundw
     case rel=>exact⟨k+1,M1,by omega,by go_num,by rw [HT2.out,ET.out,List.map_append,List.map_append,show 32*(k+1)=L+16+16 by have:=HL.out;omega];exact hs1,(hm.perm List.perm_middle).drop⟩
     case measure=>simp [intOf]<;>omega
   · obtain rfl:k=n:=by omega
     have hd:decide ((k:Int)<(k:Int))=false:=decide_eq_false (by omega)
     have e1:ps.take L=ps:=List.take_of_length_le (by rw [H1.out,HL.out];omega)
     rw [e1]at HSO
     have FIT:=hid (show(L+u.length)*(1+1)≤140737488355328∧(L+u.length+v.length)*(1+1)≤140737488355328∧(L+u.length+v.length+16)*(1+1)≤140737488355328∧(L+u.length+v.length+16+16)*(1+1)≤140737488355328 by have:=HL.out;omega)
     have LU:=hid (show(u.map v8).length=u.length*1 by simp)
     have LV:=hid (show(v.map v8).length=v.length*1 by simp)
     have LX:=hid (show(x.map v8).length=16*1 by simp [h4])
     have LY:=hid (show(y.map v8).length=16*1 by simp [h5])
     clear h2 h3 e1
     go_wp2_with fail
     refine pregion 7 (JA2 w0 [⟨g1,202,S⟩] 5 1 (.slice po L co) L (ps.map v8) (L+u.length) (ps.map v8++u.map v8) (L+u.length+v.length) (ps.map v8++u.map v8++v.map v8)) [3,6] 35 (by kernel_rfl) (by kernel_rfl) rfl (⟨none,none,rfl,M,hm.ext (drew_ext _),HSO.out⟩) ?_
     simp only [zTa]
     repeat (first
         |(apply pwalk_is rfl rfl rfl rfl;(intro vs_ wx hJ_;obtain⟨a_,b_,rfl,hX_⟩:=hJ_;have hm:=hX_.low;(with_reducible apply gq_ld1 hm);infer_instance;exact rfl;(focus ((repeat (first|exact .hd|assumption|apply Has.tl|apply Has.app));done));(exact FU.out));(simp only [zPu];rfl))
         |(apply pwalk_is rfl rfl rfl rfl;(intro vs_ wx hJ_;obtain⟨a_,b_,rfl,hX_⟩:=hJ_;have hm:=hX_.low;(with_reducible apply gq_ld1 hm);infer_instance;exact rfl;(focus ((repeat (first|exact .hd|assumption|apply Has.tl|apply Has.app));done));(exact FV.out));(simp only [zPu];rfl))
         | (apply pwalk_mark (T:=[]) 0 [] rfl rfl rfl (by kernel_rfl) rfl
            · (intro vs_ wx hJ_ hn_ hD_;simp only [pwithS];obtain⟨a_,b_,rfl,hX_⟩:=hJ_;obtain rfl:a_=none:=(by simpa using hn_);obtain⟨rfl,M_,hm,hs_⟩:=hX_.first;refine⟨rfl, ?_⟩;refine wplO_app (M:=M_) (ds:=u.map v8) hm hs_ rfl rfl rfl rfl Tryz.underlying22 LU.out (cellsB (HU.out.ext hm.x)) (one_map _) FIT.out.1 ?_;intro v_ w_ M1_ hm1_ hs1_;exact mark_end rfl (X2.j0 hm1_ hs1_)))
         | (apply pwalk_mark (T:=[(24,PMk 0)]) 1 [0] rfl rfl rfl (by kernel_rfl) rfl
            · (intro vs_ wx hJ_ hn_ hD_;simp only [pwithS];obtain⟨a_,b_,rfl,hX_⟩:=hJ_;obtain rfl:b_=none:=(by simpa using hn_);intro x_ hx_;obtain rfl:a_=some x_:=(by simpa [PMk]using hx_);obtain⟨M_,hm,hs_⟩:=hX_;refine⟨rfl, ?_⟩;refine wplO_app (M:=M_) (ds:=v.map v8) hm hs_ rfl rfl rfl rfl Tryz.underlying22 LV.out (cellsB (HV.out.ext hm.x)) (one_map _) FIT.out.2.1 ?_;intro v_ w_ M1_ hm1_ hs1_;exact mark_end rfl (X2.j1 hm1_ hs1_)))
         | (apply pwalk_is rfl rfl rfl rfl
            · (intro vs_ wx hJ_;obtain⟨a_,b_,rfl,hX_⟩:=hJ_;have hm:=hX_.low;first|((with_reducible show qGl);first|(exact zJ hm)|(exact zK hm)|(exact zL hm))|(go_simp;(try go_bits);first|exact gives_same|exact gives_skip))
            · (simp only [zPu];rfl)))
     intro vs_ wz hJ_ hl_ hall_
     simp only [zZi]
     repeat rw [pfin_is]
     rw [pfin_cons];intro x24 hx24
     repeat rw [pfin_is]
     rw [pfin_cons];intro x27 hx27
     repeat rw [pfin_is]
     rw [pfin_nil]
     simp only [zPu]
     obtain⟨a_,b_,rfl,hX_⟩:=hJ_
     obtain⟨p_,q_,rfl,rfl⟩:=some2 hall_
     obtain rfl:=pmk0 hx24
     obtain rfl:=pmk1 hx27
     clear hm
     obtain⟨M1,hm,hs1⟩:=hX_
     obtain⟨p1,c1,rfl⟩:=hs1.form
     have HS1:=hid hs1
     clear hx24 hx27 hl_ hall_ hs1
     obtain⟨w,rfl⟩:∃w',w'=wz:=⟨_,rfl⟩
     go_wp2_with fail
     refine pregion 7 (JA2 w0 [⟨g1,202,S⟩] 5 1 (.slice p1 (L+u.length+v.length) c1) (L+u.length+v.length) (ps.map v8++u.map v8++v.map v8) (L+u.length+v.length+16) (ps.map v8++u.map v8++v.map v8++x.map v8) (L+u.length+v.length+16+16) (ps.map v8++u.map v8++v.map v8++x.map v8++y.map v8)) [3,6] 35 (by kernel_rfl) (by kernel_rfl) rfl (⟨none,none,rfl,M1,hm.ext (drew_ext _),HS1.out⟩) ?_
     simp only [zTa]
     repeat (first
         | (apply pwalk_mark (T:=[]) 0 [] rfl rfl rfl (by kernel_rfl) rfl
            · (intro vs_ wx hJ_ hn_ hD_;simp only [pwithS];obtain⟨a_,b_,rfl,hX_⟩:=hJ_;obtain rfl:a_=none:=(by simpa using hn_);obtain⟨rfl,M_,hm,hs_⟩:=hX_.first;refine⟨rfl, ?_⟩;refine wplO_app (M:=M_) (ds:=x.map v8) hm hs_ rfl rfl rfl rfl Tryz.underlying22 LX.out (cells_part (hm.row (by repeat (first|exact Has.hd|assumption|apply Has.tl|apply Has.app))) FX.out) (one_map _) FIT.out.2.2.1 ?_;intro v_ w_ M1_ hm1_ hs1_;exact mark_end rfl (X2.j0 hm1_ hs1_)))
         | (apply pwalk_mark (T:=[(31,PMk 0)]) 1 [0] rfl rfl rfl (by kernel_rfl) rfl
            · (intro vs_ wx hJ_ hn_ hD_;simp only [pwithS];obtain⟨a_,b_,rfl,hX_⟩:=hJ_;obtain rfl:b_=none:=(by simpa using hn_);intro x_ hx_;obtain rfl:a_=some x_:=(by simpa [PMk]using hx_);obtain⟨M_,hm,hs_⟩:=hX_;refine⟨rfl, ?_⟩;refine wplO_app (M:=M_) (ds:=y.map v8) hm hs_ rfl rfl rfl rfl Tryz.underlying22 LY.out (cells_part (hm.row (by repeat (first|exact Has.hd|assumption|apply Has.tl|apply Has.app))) FY.out) (one_map _) FIT.out.2.2.2 ?_;intro v_ w_ M1_ hm1_ hs1_;exact mark_end rfl (X2.j1 hm1_ hs1_)))
         | (apply pwalk_is rfl rfl rfl rfl
            · (intro vs_ wx hJ_;obtain⟨a_,b_,rfl,hX_⟩:=hJ_;have hm:=hX_.low;first|((with_reducible show qGl);first|(exact zJ hm)|(exact zK hm)|(exact zL hm))|(go_simp;(try go_bits);first|exact gives_same|exact gives_skip))
            · (simp only [zPu];rfl)))
     intro vs_ wz hJ_ hl_ hall_
     simp only [zZi]
     repeat rw [pfin_is]
     rw [pfin_cons];intro x31 hx31
     repeat rw [pfin_is]
     rw [pfin_cons];intro x34 hx34
     repeat rw [pfin_is]
     rw [pfin_nil]
     simp only [zPu]
     obtain⟨a_,b_,rfl,hX_⟩:=hJ_
     obtain⟨p_,q_,rfl,rfl⟩:=some2 hall_
     obtain rfl:=pmk0 hx31
     obtain rfl:=pmk1 hx34
     clear hm
     obtain⟨M2,hm,hs2⟩:=hX_
     obtain⟨p2,c2,rfl⟩:=hs2.form
     clear hx31 hx34 hl_ hall_
     go_wp2_with fail
     go_ret
     rw [show ps.map v8++u.map v8++v.map v8++x.map v8++y.map v8=(joinT ⟨ps,u,v,x,y⟩).map v8 by simp [joinT]]at hs2
     have hr:=slo_bytes hs2 hm
     exact⟨_,rfl,⟨_,_,by rw [hr.2.1];rfl,by rw [←hr.2.1];exact hr.2.2,hr.1⟩,hm.x⟩
theorem perm_mid7(X Y R:List Blk):(X++(Y++R)).Perm (Y++(X++R)):=by
 rw [←List.append_assoc,←List.append_assoc];exact List.perm_append_comm.append_right R
theorem ahead_zero(q:Option Addr)(c:Nat)(u v:Value)(x y:List Byte)(hx:x.length=16)(hy:y.length=16)(kv:Value)(w0:World):Gives Tryz.prog 118 #[.agg (msgC (.slice q 0 c) u v x y).toArray,kv] w0 (A8 (zer 16)):=by
 unfold Gives
 have hm:=Own.start w0
 have FP:=hid (msg_pp (pp:= .slice q 0 c) (u:=u) (v:=v) (x:=x) (y:=y))
 have lS:=msg_length (pp:= .slice q 0 c) (u:=u) (v:=v) hx hy
 have lz:(zer (n:=8) 16).length=16:=zer_length
 generalize msgC (.slice q 0 c) u v x y=S at*
 go_enter Tryz.func118,Tryz.ntmps118
 go_wp2_with (first|((with_reducible apply wq_ld1 hm);exact rfl;infer_instance;exact rfl;(focus ((repeat (first|exact .hd|assumption|apply Has.tl|apply Has.app));done));(exact FP.out))|((first|((with_reducible show qAl);refine zG hm ?_)|((with_reducible show qBx);refine zH hm ?_));clear hm;(first|(have hx_:=g1;clear hx_;(first|(have hx_:=g2;clear hx_;(first|(have hx_:=g3;clear hx_;intro gx_)|intro g3))|intro g2))|intro g1);intro w hm))
 go_loopw [12] (fun i wr=>i= .int .i64 (0:Int)∧Own w0 wr [⟨g3,132,(zer 16).map v8⟩,⟨g2,132,(zer 16).map v8⟩,⟨g1,202,S⟩]) (fun _ _=>0)
 case atStart=>exact⟨rfl,hm⟩
 case round=>
   obtain⟨rfl,hm⟩:=hrel
   go_wp2_with (first|((with_reducible show qLd);refine zB hm ?_)|((with_reducible show qSt);refine zE hm ?_;clear hm;intro w hm))
   refine rtO hm rfl rfl ⟨rfl,hm.x⟩
theorem behind_zero(q:Option Addr)(c:Nat)(u v:Value)(x y z:List Byte)(hx:x.length=16)(hy:y.length=16)(hz:z.length=16)(kv:Value)(w0:World):Gives Tryz.prog 120 #[.agg (msgC (.slice q 0 c) u v x y).toArray,kv,A8 z] w0 (A8 (zer 16)):=by
 unfold Gives
 have hm:=Own.start w0
 have FP:=hid (msg_pp (pp:= .slice q 0 c) (u:=u) (v:=v) (x:=x) (y:=y))
 have lS:=msg_length (pp:= .slice q 0 c) (u:=u) (v:=v) hx hy
 have lz:(zer (n:=8) 16).length=16:=zer_length
 generalize msgC (.slice q 0 c) u v x y=S at*
 go_enter Tryz.func120,Tryz.ntmps120
 go_wp2_with (first|((with_reducible apply wq_ld1 hm);exact rfl;infer_instance;exact rfl;(focus ((repeat (first|exact .hd|assumption|apply Has.tl|apply Has.app));done));(exact FP.out))|((first|((with_reducible show qAl);refine zG hm ?_)|((with_reducible show qBx);refine zH hm ?_));clear hm;(first|(have hx_:=g1;clear hx_;(first|(have hx_:=g2;clear hx_;(first|(have hx_:=g3;clear hx_;(first|(have hx_:=g4;clear hx_;intro gx_)|intro g4))|intro g3))|intro g2))|intro g1);intro w hm))
 go_loopw [16] (fun i wr=>i= .int .i64 (0:Int)∧Own w0 wr [⟨g4,132,(zer 16).map v8⟩,⟨g3,132,(zer 16).map v8⟩,⟨g2,132,z.map v8⟩,⟨g1,202,S⟩]) (fun _ _=>0)
 case atStart=>exact⟨rfl,hm⟩
 case round=>
   obtain⟨rfl,hm⟩:=hrel
   go_wp2_with (first|((with_reducible show qLd);refine zB hm ?_)|((with_reducible show qSt);refine zE hm ?_;clear hm;intro w hm))
   refine rtO hm rfl rfl ⟨rfl,hm.x⟩
theorem sl_pair {M:List Blk}{e:TypeId}{sz n:Nat}{pp:Value}{ps:List Byte}(h:SlO M e sz pp n (ps.map v8))(h0:0<n):∃(g cap:Nat)(pre post:List Value),pp= .slice (some ⟨g,pre.length,none⟩) n cap∧M=[⟨g,e,pairC pre post ps⟩]∧n≤cap∧∀qs:List Byte,qs.length=ps.length→SlO [⟨g,e,pairC pre post qs⟩] e sz pp n (qs.map v8):=by
 obtain⟨hl,h⟩:=h
 rcases h with ⟨_,h1,_⟩|⟨g,o,cap,cur,rfl,rfl,h1,h2,h3,h4⟩
 · omega
 · have hle:n*sz≤cap*sz:=Nat.mul_le_mul_right _ h1
   have ho:(cur.take o).length=o:=by rw [List.length_take];omega
   have hc:cur=pairC (cur.take o) (cur.drop (o+n*sz)) ps:=by
     rw [pairC,←h4,←List.drop_drop,List.take_append_drop,List.take_append_drop]
   refine⟨g,cap,cur.take o,cur.drop (o+n*sz),by rw [ho],by rw [←hc],h1,fun qs hq=> ?_⟩
   have hq2:(qs.map v8).length=n*sz:=by rw [List.length_map]at hl⊢;omega
   refine⟨hq2, .inr ⟨g,o,cap,_,rfl,rfl,h1,h2, ?_, ?_⟩⟩
   · rw [pairC_length,ho,List.length_drop]
     rw [List.length_map]at hq2
     omega
   · rw [pairC]
     have hd:(cur.take o++(qs.map v8++cur.drop (o+n*sz))).drop o=qs.map v8++cur.drop (o+n*sz):=by
       have:=List.drop_left (l₁ :=cur.take o) (l₂ :=qs.map v8++cur.drop (o+n*sz))
       rwa [ho]at this
     rw [hd]
     have:=List.take_left (l₁ :=qs.map v8) (l₂ :=cur.drop (o+n*sz))
     rwa [hq2]at this
section
variable {M R:List Blk} {pp:Value} {n:Nat} {ps:List Byte} {w0 w:World} {F:Int→Int→List Byte→List Byte} {kv:Value}
theorem ahead_sl(hm:Own w0 w (M++R))(hs:SlO M 223 32 pp n (ps.map v8))(hps:ps.length=32*n)(hn:n≤70368744177)(u v:Value)(x y:List Byte)(hx:x.length=16)(hy:y.length=16)(hF:∀j m x,(F j m x).length=16)
   (CE:∀wx,Ext w0 wx→∀(j m:Int)(x:List Byte),x.length=16→j≤9223372036854775807→m≤9223372036854775807→Gives Tryz.prog 98 #[kv, .int .i64 j, .int .i64 m,A8 x] wx (A8 (F j m x))):
   Calls Tryz.prog 118 #[.agg (msgC pp u v x y).toArray,kv] w fun e w'=>e= .returned (A8 (sumG (xF F ps) n))∧∃M',Own w0 w' (M'++R)∧SlO M' 223 32 pp n ((oneP F ps n).map v8):=by
 rcases Nat.eq_zero_or_pos n with h0|h0
 · subst h0
   obtain⟨q,c,rfl⟩:=hs.form
   obtain rfl:ps=[]:=List.length_eq_zero_iff.1 hps
   exact(ahead_zero q c u v x y hx hy kv w).mono fun e w' ⟨e1,e2⟩=>⟨e1,M,hm.ext e2,hs⟩
 · obtain⟨g,cap,pre,post,rfl,rfl,h1,h2⟩:=sl_pair hs h0
   exact(ahead_any g n cap pre post ps hps h0 h1 hn u v x y hx hy kv F hF w0 w R hm CE).mono fun e w' ⟨e1,e2⟩=>⟨e1,_,e2,h2 _ (by rw [oneP_length,hps])⟩
theorem behind_sl(hm:Own w0 w (M++R))(hs:SlO M 223 32 pp n (ps.map v8))(hps:ps.length=32*n)(hn:n≤70368744177)(u v:Value)(x y z:List Byte)(hx:x.length=16)(hy:y.length=16)(hz:z.length=16)(hF:∀j m x,(F j m x).length=16)
   (CE:∀wx,Ext w0 wx→∀(j m:Int)(x:List Byte),x.length=16→j≤9223372036854775807→m≤9223372036854775807→Gives Tryz.prog 98 #[kv, .int .i64 j, .int .i64 m,A8 x] wx (A8 (F j m x))):
   Calls Tryz.prog 120 #[.agg (msgC pp u v x y).toArray,kv,A8 z] w fun e w'=>e= .returned (A8 (sumG (yF F z ps) n))∧∃M',Own w0 w' (M'++R)∧SlO M' 223 32 pp n ((glueF (fsF F z ps) n).map v8):=by
 rcases Nat.eq_zero_or_pos n with h0|h0
 · subst h0
   obtain⟨q,c,rfl⟩:=hs.form
   obtain rfl:ps=[]:=List.length_eq_zero_iff.1 hps
   exact(behind_zero q c u v x y z hx hy hz kv w).mono fun e w' ⟨e1,e2⟩=>⟨e1,M,hm.ext e2,hs⟩
 · obtain⟨g,cap,pre,post,rfl,rfl,h1,h2⟩:=sl_pair hs h0
   exact(behind_any g n cap pre post ps hps h0 h1 hn u v x y hx hy kv z hz F hF w0 w R hm CE).mono fun e w' ⟨e1,e2⟩=>⟨e1,_,e2,h2 _ (by rw [glueF_length _ (fsF_length F z ps),hps])⟩
end
structure CallV (w0:World) (R:List Blk) (e:TypeId) (sz:Nat) (pp:Value) (n:Nat) (c0 c1:List Value) (val:Value) (T:TypeId) (z:List Value) (a b:Option Value) (w:World):Prop where
 pa:∀v,a=some v→v=val
 pb:∀v,b=some v→∃g,v= .pointer (some ⟨g,0,none⟩)
 own:∃M,Own w0 w (blkO b none T z z++(M++R))∧SlO M e sz pp n (if a.isSome then c1 else c0)
section
variable {w0 w w':World} {R:List Blk} {e T:TypeId} {sz n g:Nat} {pp val v:Value} {c0 c1 z:List Value} {a b:Option Value}
theorem CallV.low(h:CallV w0 R e sz pp n c0 c1 val T z a b w):Own w0 w R:=by obtain⟨M,h1,_⟩:=h.own;exact h1.dropN.dropN
theorem CallV.ext(h:CallV w0 R e sz pp n c0 c1 val T z a b w)(hx:Ext w w'):CallV w0 R e sz pp n c0 c1 val T z a b w':=by
 obtain⟨M,h1,h2⟩:=h.own;exact⟨h.pa,h.pb,M,h1.ext hx,h2⟩
theorem CallV.start {M:List Blk}(h:Own w0 w (M++R))(hs:SlO M e sz pp n c0):CallV w0 R e sz pp n c0 c1 val T z none none w:=⟨by simp,by simp,M,h,hs⟩
def KV(w0:World)(R:List Blk)(e:TypeId)(sz:Nat)(pp:Value)(n:Nat)(c0 c1:List Value)(val:Value)(T:TypeId)(z:List Value):Marks where
 J s w:=∃a b,s=[a,b]∧CallV w0 R e sz pp n c0 c1 val T z a b w
 Sp vs i v w w':=(∃a b,vs.set i (some v)=[a,b]∧CallV w0 R e sz pp n c0 c1 val T z a b w')∧(i≠0→Ext w w')
 jext:=fun _ _ _ ⟨a,b,e,h⟩ hx=>⟨a,b,e,h.ext hx⟩
 jmark:=fun _ _ _ _ _ _ _ h=>h.1
theorem CallV.call0(h:CallV w0 R e sz pp n c0 c1 val T z none b w):∃M,Own w0 w (M++(blkO b none T z z++R))∧SlO M e sz pp n c0:=by
 obtain⟨M,h1,h2⟩:=h.own;exact⟨M,h1.perm (perm_mid7 _ _ _),h2⟩
theorem CallV.k0 {M:List Blk}(h:CallV w0 R e sz pp n c0 c1 val T z none b w)(hm:Own w0 w' (M++(blkO b none T z z++R)))(hs:SlO M e sz pp n c1):(KV w0 R e sz pp n c0 c1 val T z).Sp [none,b] 0 val w w':=
 ⟨⟨some val,b,rfl,fun v hv=>(Option.some.inj hv).symm,h.pb,M,hm.perm (perm_mid7 _ _ _),hs⟩,fun h=>absurd rfl h⟩
theorem CallV.new0(h:CallV w0 R e sz pp n c0 c1 val T z a none w):∃M,Own w0 w (M++R)∧SlO M e sz pp n (if a.isSome then c1 else c0):=h.own
theorem CallV.k1 {M:List Blk}(h:CallV w0 R e sz pp n c0 c1 val T z a none w)(hm:Own w0 w' (⟨g,T,z⟩::(M++R)))(hs:SlO M e sz pp n (if a.isSome then c1 else c0))(hx:Ext w w'):(KV w0 R e sz pp n c0 c1 val T z).Sp [a,none] 1 (.pointer (some ⟨g,0,none⟩)) w w':=
 ⟨⟨a,some (.pointer (some ⟨g,0,none⟩)),rfl,h.pa,fun v hv=>⟨g,(Option.some.inj hv).symm⟩,M,hm,hs⟩,fun _=>hx⟩
theorem CallV.fin {u:Value}(h:CallV w0 R e sz pp n c0 c1 val T z (some u) (some v) w):u=val∧∃g M,v= .pointer (some ⟨g,0,none⟩)∧Own w0 w (⟨g,T,z⟩::(M++R))∧SlO M e sz pp n c1:=by
 obtain⟨g,rfl⟩:=h.pb _ rfl
 obtain⟨M,h1,h2⟩:=h.own
 exact⟨h.pa _ rfl,g,M,rfl,h1,h2⟩
end
def KeysQ(ks:List (List Byte)):PSlot:=fun v vs w=>(∃x,vs[0]? =some (some x))∧KeysS ks v w
theorem KeysQ.stable {w0:World}{R:List Blk}{e:TypeId}{sz:Nat}{pp:Value}{n:Nat}{c0 c1:List Value}{val:Value}{T:TypeId}{z:List Value}(ks:List (List Byte)):PStable (KV w0 R e sz pp n c0 c1 val T z).Sp (KeysQ ks) where
 ext:=fun _ _ _ _ ⟨h1,h2⟩ hx=>⟨h1,KeysS.stable ks _ _ _ h2 hx⟩
 mark:=fun v vs i x w w' ⟨⟨u,hu⟩,h2⟩ hn hS=>by
   have h0:i≠0:=by rintro rfl;rw [hu]at hn;cases hn
   exact⟨⟨u,by rw [List.getElem?_set_ne h0];exact hu⟩,KeysS.stable ks _ _ _ h2 (hS.2 h0)⟩
theorem gqk_bs2 {P:Program}{dst:Option Tmp}{ty:TypeId}{pos:String}{aft:Array Edge}{gd:Option (Nat×Bool)}{a:Act}{w:World}{T e:TypeId}{u0 u1 v:Value}{x0 x1:Operand}{ks:List (List Byte)}{b:Option Value}(hk:∀k∈ks,k.length=16)(hb:(Instr.buildSlice T 2 #[(0,u0),(1,u1)]).run P w= .ok (.slice (some ⟨w.heap.size,0,none⟩) ks.length ks.length) (w.alloc (.cells (catV ks).toArray e)))(hx0:a.eval x0=u0)(hx1:a.eval x1=u1):
   gives P w (fun v' w'=>KeysQ ks v' [some v,b] w') ((execOp a.eval (Oper.mk dst (.buildSlice T 2 #[(0,x0),(1,x1)]) ty pos aft gd)).run P w):=by
 unfold execOp
 simp [hx0,hx1,hb]
 exact gives_val (V:=fun v' w'=>KeysQ ks v' [some v,b] w') (Ext.alloc (Ext.refl _) _) ⟨⟨v,rfl⟩,keys_new w e ks hk⟩
end Go.Proofs.YtneacgpmjlocjaaGreatDoor
