/-
  Texts of the program, walked, and plain ones. Conditions: those written in each theorem.
-/
import Derived.Test.YtllnjbiebdkmbaaGreatDoorZTopReturns0
import Derived.Test.YtllnjbiebdkmbaaGreatDoorZTopReturns8
import Derived.Test.YtllnjbiebdkmbaaGreatDoorZTopReturns5
import Derived.Test.YtllnjbiebdkmbaaGreatDoorZTopReturns4
import Derived.Test.YtllnjbiebdkmbaaGreatDoorZTopReturns3
import Derived.Test.YtllnjbiebdkmbaaGreatDoorZTopReturns6
set_option linter.unusedSimpArgs false
set_option linter.unusedVariables false
set_option maxHeartbeats 16000000
namespace Go.Proofs.YtllnjbiebdkmbaaGreatDoor
open Go Go.RowKit
set_option maxRecDepth 100000
theorem ring_double(a:List Byte)(ha:a.length=16)(w0:World):Gives Tryz.prog 212 #[A8 a] w0 (A8 (dblL a)):=by
 unfold Gives
 have hm:=Own.start w0
 have ha1:=Nat.le_of_eq ha
 have ha2:=Nat.le_of_eq ha.symm
 have E15:=Lib.hid (show(nth a 15<<<1)^^^((nth a 0>>>7)*135#8)=dblF a 15 by rw [dblF,if_neg (by omega)])
 have EF:=Lib.hid (fun k (h:k<15)=>show(nth a k<<<1)|||(nth a (k+1)>>>7)=dblF a k by rw [dblF,if_pos h])
 have ED:=Lib.hid (show part 16 16 (dblF a) (fun _=>0)=dblL a from part_all)
 clear ha
 go_enter Tryz.func212,Tryz.ntmps212
 go_wp2_with (first|((first|((with_reducible show qAl);first|((with_reducible apply wq_new hm);exact rfl;infer_instance))|((with_reducible show qBx);first|((with_reducible apply wq_boxN hm);exact rfl;exact rfl)));clear hm;(first|(have hx_:=g1;clear hx_;(first|(have hx_:=g2;clear hx_;(first|(have hx_:=g3;clear hx_;intro gx_)|intro g3))|intro g2))|intro g1);intro w hm))
 go_loopw [5] (fun i wr=>∃k:Nat,k≤15∧i= .int .i64 k∧Own w0 wr [⟨g3,68,(part 16 k (dblF a) fun _=>0).map v8⟩,⟨g2,68,(zer 16).map v8⟩,⟨g1,68,a.map v8⟩]) (fun i _=>15-(intOf i).toNat)
 case atStart=>exact⟨0,by omega,rfl,by rw [←zer_start];exact hm⟩
 case round =>
   obtain⟨k,hk,rfl,hm⟩:=hrel
   by_cases hlt:k<15
   · have hd:decide ((k:Int)<15)=true:=decide_eq_true (by omega)
     have h1:(k:Int)<16:=by omega
     have h2:(k:Int)+1<16:=by omega
     have h3:0≤(k:Int)+1:=by omega
     have h4:((k:Int)+1).toNat=k+1:=by omega
     have EK:=Lib.hid (EF.out k hlt)
     go_wp2_with fail
     refine region_at 12 (fun w'=>Ext _ w') 31 (by kernel_rfl) (by kernel_rfl) rfl (fun _ _ h k=>h.trans k) (drew_ext _) ?_
     simp only [tSC,List.take_zero,dSC,List.drop_zero,List.map_cons,List.map_nil]
     repeat (first
         | (apply walk_is rfl rfl rfl
            · (intro wx hwx;first|((with_reducible show gives _ _ _ (Sem.run _ (execOp _ (Oper.mk _ (Op.load _ _) _ _ _ _)) _));first|((with_reducible apply gq_ldv (hm.ext hwx));infer_instance;exact rfl;(focus (repeat first|exact .hd|assumption|apply Has.tl);done);(focus (first|omega|(simp;omega)|(refine ltB ?_;first|omega|(simp;done)|(simp;omega))))))|(go_simp;(try go_bits);first|exact gives_same|exact gives_skip))
            · (simp only [Act.put,sIB,sCS,sCZ];rfl))
         | (apply walk_not rfl rfl rfl
            · (simp only [Act.put,sIB,sCS,sCZ];rfl)))
     intro wz hwz
     simp only [zCC,zNR]
     repeat (first|rw [fin_is]|(rw [fin_cons];intro _ _))
     rw [fin_nil]
     try (replace hm:=hm.ext hwz)
     simp only [Act.put,sIB,sCS,sCZ]
     go_wp2_with (first|((((with_reducible show qSt);first|((with_reducible apply wq_stv hm);exact rfl;infer_instance;exact rfl;(focus (repeat first|exact .hd|assumption|apply Swap.tl);done);infer_instance;exact rfl;(focus (first|omega|(simp;omega)|(refine ltB ?_;first|omega|(simp;done)|(simp;omega)))))));clear hm;intro w hm))
     go_roundw
     case rel=>
       rw [part_set' (show k<16 by omega) EK.out]at hm
       exact⟨k+1,by omega,by go_num,hm⟩
     case measure=>simp [intOf]<;>omega
   · obtain rfl:k=15:=by omega
     have hd:decide (((15:Nat):Int)<15)=false:=decide_eq_false (by omega)
     have l15:(part 16 15 (dblF a) fun _=>0).length=16:=part_length
     go_wp2_with (first|((with_reducible show qLd);first|((with_reducible apply wq_ldv hm);exact rfl;infer_instance;exact rfl;(focus (repeat first|exact .hd|assumption|apply Has.tl);done);(focus (first|omega|(simp;omega)|(refine ltB ?_;first|omega|(simp;done)|(simp;omega)))))|((with_reducible apply wq_ldW hm);exact rfl;infer_instance;exact rfl;(focus (repeat first|exact .hd|assumption|apply Has.tl);done);(focus (first|rfl|omega|(simp;done)|(simp;omega)))))|((((with_reducible show qSt);first|((with_reducible apply wq_stv hm);exact rfl;infer_instance;exact rfl;(focus (repeat first|exact .hd|assumption|apply Swap.tl);done);infer_instance;exact rfl;(focus (first|omega|(simp;omega)|(refine ltB ?_;first|omega|(simp;done)|(simp;omega)))))|((with_reducible apply wq_stW hm);exact rfl;infer_instance;exact rfl;exact rfl;(focus (repeat first|exact .hd|assumption|apply Swap.tl);done);(focus (first|rfl|omega|(simp;done)|(simp;omega)));(focus (first|rfl|omega|(simp;done)|(simp;omega)));(focus (first|exact one_map _|(simp [one8,one32,one64];done))))));clear hm;intro w hm))
     rw [part_set' (show 15<16 by omega) E15.out,ED.out]at hm
     have l1:(dblL a).length=16:=dblL_length a
     generalize dblL a=D at*
     go_wp2_with fail
     refine rtO hm rfl rfl (hR:=⟨rfl,hm.x⟩)
theorem ring_sum(a b:List Byte)(c:Bool)(ha:a.length=16)(hb:b.length=16)(w0:World):Gives Tryz.prog 211 #[A8 a,A8 b, .bool c] w0 (A8 (if c=true then bothL a b else a)):=by
 unfold Gives
 have hm:=Own.start w0
 cases c with
 | false=>
   rw [if_neg (by decide)]
   have ha1:=Nat.le_of_eq ha
   have ha2:=Nat.le_of_eq ha.symm
   go_enter Tryz.func211,Tryz.ntmps211
   go_wp2_with (first|((with_reducible show qLd);first|((with_reducible apply wq_ldW hm);exact rfl;infer_instance;exact rfl;(focus (repeat first|exact .hd|assumption|apply Has.tl);done);(focus (first|rfl|omega|(simp;done)|(simp;omega)))))|((((with_reducible show qSt);first|((with_reducible apply wq_stW hm);exact rfl;infer_instance;exact rfl;exact rfl;(focus (repeat first|exact .hd|assumption|apply Swap.tl);done);(focus (first|rfl|omega|(simp;done)|(simp;omega)));(focus (first|rfl|omega|(simp;done)|(simp;omega)));(focus (first|exact one_map _|(simp [one8,one32,one64];done))))));clear hm;intro w hm)|((first|((with_reducible show qAl);first|((with_reducible apply wq_new hm);exact rfl;infer_instance))|((with_reducible show qBx);first|((with_reducible apply wq_boxN hm);exact rfl;exact rfl)));clear hm;(first|(have hx_:=g1;clear hx_;(first|(have hx_:=g2;clear hx_;intro gx_)|intro g2))|intro g1);intro w hm))
   refine rtO hm rfl rfl (hR:=⟨rfl,hm.x⟩)
 | true=>
   rw [if_pos rfl]
   have C1:=Lib.hid fun (w wx:World)(p q:Option Addr)(h1:RdB wx p a)(h2:RdB wx q b)=>by
     have h:=xor_any a b p q 16 16 wx h1 h2 (by omega) (by omega)
     rw [ha,hb]at h;exact h
   have lX:(xorL a b).length=16:=by rw [xorL_length,ha,hb];rfl
   have eX:blk (xorL a b)=bothL a b:=by
     refine nth_ext (by rw [blk_length,bothL_length]) fun i hi=> ?_
     rw [blk_length]at hi
     rw [bothL_nth _ _ _ hi]
     have h1:nth (blk (xorL a b)) i=nth (xorL a b) i:=by
       rw [show nth (xorL a b) i=gb (xorL a b) i from(gb_in _ i).symm];simp [nth,blk,hi]
     rw [h1]
     exact xorL_getD a b i (by rw [lX];exact hi)
   have C2:=Lib.hid fun (wx:World)(p:Option Addr)(c:Nat)(h:RdB wx p (xorL a b))=>eX ▸ oblock_any (xorL a b) p c wx h
   have lZ:(bothL a b).length=16:=bothL_length _ _
   generalize bothL a b=Z at*
   generalize xorL a b=X at*
   have ha1:=Nat.le_of_eq ha
   have ha2:=Nat.le_of_eq ha.symm
   have hb1:=Nat.le_of_eq hb
   have hb2:=Nat.le_of_eq hb.symm
   clear lX eX
   go_enter Tryz.func211,Tryz.ntmps211
   go_wp2_with (first|((first|((with_reducible show qAl);first|((with_reducible apply wq_new hm);exact rfl;infer_instance))|((with_reducible show qBx);first|((with_reducible apply wq_boxN hm);exact rfl;exact rfl)));clear hm;(first|(have hx_:=g1;clear hx_;(first|(have hx_:=g2;clear hx_;intro gx_)|intro g2))|intro g1);intro w hm))
   have c1:=fun wx (hwx:Ext _ wx)=>C1.out wx wx _ _ ((hm.ext hwx).rdB (g:=g1) (l:=a) (by repeat (first|exact Has.hd|assumption|apply Has.tl))) ((hm.ext hwx).rdB (g:=g2) (l:=b) (by repeat (first|exact Has.hd|assumption|apply Has.tl)))
   refine region_at 4 (fun w'=>Ext _ w') 14 (by kernel_rfl) (by kernel_rfl) rfl (fun _ _ h k=>h.trans k) (drew_ext _) ?_
   simp only [tSC,List.take_zero,dSC,List.drop_zero,List.map_cons,List.map_nil]
   repeat (first
       | (apply walk_some (BytesS X) 12 (BytesS.stable _) rfl rfl rfl rfl
          · (intro wx hwx;go_simp;with_reducible exact gives_callR (c1 wx hwx)))
       | (apply walk_from (T:=[(12,BytesS X)]) rfl rfl
          · (intro wx hwx;simp only [withS];(rintro x ⟨p,c,rfl,hlc,hb'⟩);refine⟨rfl, ?_⟩;go_simp;with_reducible exact gives_call (C2.out wx p c hb'))
          · (simp only [Act.put,sIB,sCS,sCZ];rfl))
       | (apply walk_is rfl rfl rfl
          · (intro wx hwx;go_simp;(try go_bits);first|exact gives_same|exact gives_skip)
          · (simp only [Act.put,sIB,sCS,sCZ];rfl))
       | (apply walk_not rfl rfl rfl
          · (simp only [Act.put,sIB,sCS,sCZ];rfl)))
   intro wz hwz
   simp only [zCC,zNR]
   repeat (first|rw [fin_is]|(rw [fin_cons];intro _ _))
   rw [fin_nil]
   try (replace hm:=hm.ext hwz)
   simp only [Act.put,sIB,sCS,sCZ]
   clear c1
   go_wp2_with (first|((((with_reducible show qSt);first|((with_reducible apply wq_stW hm);exact rfl;infer_instance;exact rfl;exact rfl;(focus (repeat first|exact .hd|assumption|apply Swap.tl);done);(focus (first|rfl|omega|(simp;done)|(simp;omega)));(focus (first|rfl|omega|(simp;done)|(simp;omega)));(focus (first|exact one_map _|(simp [one8,one32,one64];done))))));clear hm;intro w hm))
   refine rtO hm rfl rfl (hR:=⟨rfl,hm.x⟩)
theorem shr_one(n:BitVec 64)(k:Nat):(n>>>k)>>>1=n>>>(k+1):=by rw [BitVec.shiftRight_add]
theorem and_one(n:BitVec 64)(k:Nat):((n>>>k)&&&1#64==1#64)=n.getLsbD k:=by
 have h:(n>>>k)&&&1#64=if n.getLsbD k=true then 1#64 else 0#64:=by
   apply BitVec.eq_of_getLsbD_eq
   intro i hi
   rw [BitVec.getLsbD_and,BitVec.getLsbD_ushiftRight,BitVec.getLsbD_one]
   rcases Nat.eq_zero_or_pos i with rfl|h0
   · cases h:n.getLsbD k<;>simp [h]
   · have:i≠0:=by omega
     cases h:n.getLsbD k<;>simp [this,BitVec.getLsbD_one]
 rw [h];cases n.getLsbD k<;>rfl
theorem shr_less(n:BitVec 64)(h:n≠0#64):(n>>>1).toNat<n.toNat:=by
 have h0:n.toNat≠0:=fun e=>h (BitVec.eq_of_toNat_eq (by simpa using e))
 rw [BitVec.toNat_ushiftRight,Nat.shiftRight_eq_div_pow];omega
theorem shr_64(n:BitVec 64)(k:Nat)(h:n>>>k≠0#64):k<64:=by
 rcases Nat.lt_or_ge k 64 with h1|h1
 · exact h1
 · exact absurd (BitVec.ushiftRight_eq_zero h1) h
theorem ring_mul(n:BitVec 64)(a:List Byte)(ha:a.length=16)(w0:World):Gives Tryz.prog 208 #[v64 n,A8 a] w0 (A8 (mulL n a)):=by
 unfold Gives
 have hm:=Own.start w0
 have HA:=Lib.hid ha
 have ha1:=Nat.le_of_eq ha
 have ha2:=Nat.le_of_eq ha.symm
 clear ha
 go_enter Tryz.func208,Tryz.ntmps208
 go_wp2_with (first|((first|((with_reducible show qAl);first|((with_reducible apply wq_new hm);exact rfl;infer_instance))|((with_reducible show qBx);first|((with_reducible apply wq_boxN hm);exact rfl;exact rfl)));clear hm;(first|(have hx_:=g1;clear hx_;(first|(have hx_:=g2;clear hx_;(first|(have hx_:=g3;clear hx_;intro gx_)|intro g3))|intro g2))|intro g1);intro w hm))
 simp only [Act.put,sIB,sCS,sCZ]
 go_loopw [0] (fun v wr=>∃k:Nat,k≤64∧v=v64 (n>>>k)∧Own w0 wr [⟨g3,68,(msum n.getLsbD a k).map v8⟩,⟨g2,68,(zer 16).map v8⟩,⟨g1,68,(dblN a k).map v8⟩]) (fun v _=>(intOf v).toNat)
 case atStart=>exact⟨0,by omega,by simp,hm⟩
 case round=>
   obtain⟨k,hk,rfl,hm⟩:=hrel
   by_cases h0:n>>>k=0#64
   · have E:=Lib.hid (mul_end n a k hk h0)
     rw [E.out]at hm
     rw [h0]
     have l1:(mulL n a).length=16:=mulL_length _ _
     clear h0
     go_wp2_with (first|((with_reducible show qLd);first|((with_reducible apply wq_ldW hm);exact rfl;infer_instance;exact rfl;(focus (repeat first|exact .hd|assumption|apply Has.tl);done);(focus (first|rfl|omega|(simp;done)|(simp;omega)))))|((((with_reducible show qSt);first|((with_reducible apply wq_stW hm);exact rfl;infer_instance;exact rfl;exact rfl;(focus (repeat first|exact .hd|assumption|apply Swap.tl);done);(focus (first|rfl|omega|(simp;done)|(simp;omega)));(focus (first|rfl|omega|(simp;done)|(simp;omega)));(focus (first|exact one_map _|(simp [one8,one32,one64];done))))));clear hm;intro w hm))
     refine rtO hm rfl rfl (hR:=⟨rfl,hm.x⟩)
   · have hk1:=shr_64 n k h0
     have HL:=Lib.hid (shr_less (n>>>k) h0)
     have hn0:(n>>>k).toNat≠0:=fun e=>h0 (BitVec.eq_of_toNat_eq (by simpa using e))
     have hp:0<(n>>>k).toNat:=by omega
     have hp1:(0:Int)<((n>>>k).toNat:Int):=by omega
     have hp2:decide ((0:Int)<((n>>>k).toNat:Int))=true:=decide_eq_true hp1
     have hp3:decide (((n>>>k).toNat:Int)>0)=true:=decide_eq_true hp1
     have EA:=Lib.hid (and_one n k)
     have ES:=Lib.hid (show msum n.getLsbD a (k+1)=if n.getLsbD k=true then bothL (msum n.getLsbD a k) (dblN a k)else msum n.getLsbD a k from rfl)
     have ER:=Lib.hid (shr_one n k)
     have l1:=msum_length n.getLsbD a k
     have l2:=dblN_length a HA.out k
     have l3:=msum_length n.getLsbD a (k+1)
     have l4:=dblN_length a HA.out (k+1)
     have cs:=fun wx=>ring_sum (msum n.getLsbD a k) (dblN a k) (n.getLsbD k) l1 l2 wx
     rw [←ES.out,←EA.out]at cs
     have CS:=Lib.hid cs
     have CD:Hid (∀wx,Gives Tryz.prog 212 #[A8 (dblN a k)] wx (A8 (dblN a (k+1)))):=Lib.hid fun wx=>ring_double (dblN a k) l2 wx
     clear cs
     generalize msum n.getLsbD a k=B at*
     generalize dblN a k=A at*
     generalize hB2:msum n.getLsbD a (k+1)=B2 at*
     generalize hA2:dblN a (k+1)=A2 at*
     have HB2:=Lib.hid hB2
     have HA2:=Lib.hid hA2
     clear hB2 hA2
     generalize hX:n>>>k=X at*
     clear h0 hn0
     go_wp2_with (first|(go_at_call 211;(with_reducible refine(CS.out _).mono ?_);rintro e_ w ⟨rfl,hx_⟩;replace hm:=hm.ext hx_;clear hx_)|(go_at_call 212;(with_reducible refine(CD.out _).mono ?_);rintro e_ w ⟨rfl,hx_⟩;replace hm:=hm.ext hx_;clear hx_)|((with_reducible show qLd);first|((with_reducible apply wq_ldW hm);exact rfl;infer_instance;exact rfl;(focus (repeat first|exact .hd|assumption|apply Has.tl);done);(focus (first|rfl|omega|(simp;done)|(simp;omega)))))|((((with_reducible show qSt);first|((with_reducible apply wq_stW hm);exact rfl;infer_instance;exact rfl;exact rfl;(focus (repeat first|exact .hd|assumption|apply Swap.tl);done);(focus (first|rfl|omega|(simp;done)|(simp;omega)));(focus (first|rfl|omega|(simp;done)|(simp;omega)));(focus (first|exact one_map _|(simp [one8,one32,one64];done))))));clear hm;intro w hm))
     go_roundw
     case rel=>exact⟨k+1,by omega,by rw [ER.out],by rw [HB2.out,HA2.out];exact hm⟩
     case measure=>
       show(((X>>>1).toNat:Int)).toNat<((X.toNat:Int)).toNat
       rw [Int.toNat_natCast,Int.toNat_natCast];exact HL.out
theorem and_one8:∀(x:Byte)(r:Fin 8),((x>>>r.val)&&&1#8==1#8)=x.getLsbD r.val:=by decide+kernel
theorem bit_at(b:List Byte)(k q r:Nat)(hq:k/8=q)(hr:k%8=r):((nth b (15-q)>>>r)&&&1#8==1#8)=bitA b k:=by
 subst hq hr
 exact and_one8 _ ⟨k%8,Nat.mod_lt _ (by omega)⟩
theorem ring_prod(a b:List Byte)(ha:a.length=16)(hb:b.length=16)(w0:World):Gives Tryz.prog 213 #[A8 a,A8 b] w0 (A8 (prodL a b)):=by
 unfold Gives
 have hm:=Own.start w0
 have HA:=Lib.hid ha
 have ha1:=Nat.le_of_eq ha
 have ha2:=Nat.le_of_eq ha.symm
 have hb1:=Nat.le_of_eq hb
 have hb2:=Nat.le_of_eq hb.symm
 clear ha hb
 go_enter Tryz.func213,Tryz.ntmps213
 go_wp2_with (first|((first|((with_reducible show qAl);first|((with_reducible apply wq_new hm);exact rfl;infer_instance))|((with_reducible show qBx);first|((with_reducible apply wq_boxN hm);exact rfl;exact rfl)));clear hm;(first|(have hx_:=g1;clear hx_;(first|(have hx_:=g2;clear hx_;(first|(have hx_:=g3;clear hx_;(first|(have hx_:=g4;clear hx_;intro gx_)|intro g4))|intro g3))|intro g2))|intro g1);intro w hm))
 go_loopw [7] (fun i wr=>∃k:Nat,k≤128∧i= .int .i64 k∧Own w0 wr [⟨g4,68,(msum (bitA b) a k).map v8⟩,⟨g3,68,(zer 16).map v8⟩,⟨g2,68,b.map v8⟩,⟨g1,68,(dblN a k).map v8⟩]) (fun i _=>128-(intOf i).toNat)
 case atStart=>exact⟨0,by omega,rfl,hm⟩
 case round =>
   obtain⟨k,hk,rfl,hm⟩:=hrel
   by_cases hlt:k<128
   · have hd:decide ((k:Int)<128)=true:=decide_eq_true (by omega)
     obtain⟨q,hq,hq4⟩:∃q:Nat,k/8=q∧q<16:=⟨_,rfl,by omega⟩
     obtain⟨r,hr,hr4⟩:∃r:Nat,k%8=r∧r<8:=⟨_,rfl,Nat.mod_lt _ (by omega)⟩
     have a1:(k:Int)%8=(r:Int):=by omega
     have a2:(k:Int).tmod 8=(r:Int):=by rw [Int.tmod_eq_emod_of_nonneg (by omega)];exact a1
     have a3:(k:Int)/8=(q:Int):=by omega
     have a4:(k:Int).tdiv 8=(q:Int):=by rw [Int.tdiv_eq_ediv_of_nonneg (by omega)];exact a3
     have a5:(15:Int)-(q:Int)<16:=by omega
     have a6:0≤(15:Int)-(q:Int):=by omega
     have a7:((15:Int)-(q:Int)).toNat=15-q:=by omega
     have a8:(q:Int)≤15:=by omega
     have EA:=bit_at b k q r hq hr
     have ES:msum (bitA b) a (k+1)=if bitA b k=true then bothL (msum (bitA b) a k) (dblN a k)else msum (bitA b) a k:=rfl
     have l1:=msum_length (bitA b) a k
     have l2:=dblN_length a HA.out k
     have l3:=msum_length (bitA b) a (k+1)
     have l4:=dblN_length a HA.out (k+1)
     have cs:=fun wx=>ring_sum (msum (bitA b) a k) (dblN a k) (bitA b k) l1 l2 wx
     rw [←ES,←EA]at cs
     have CS:=Lib.hid cs
     have CD:Hid (∀wx,Gives Tryz.prog 212 #[A8 (dblN a k)] wx (A8 (dblN a (k+1)))):=Lib.hid fun wx=>ring_double (dblN a k) l2 wx
     clear cs ES EA hq hr
     generalize msum (bitA b) a k=B at*
     generalize dblN a k=A at*
     generalize hB2:msum (bitA b) a (k+1)=B2 at*
     generalize hA2:dblN a (k+1)=A2 at*
     have HB2:=Lib.hid hB2
     have HA2:=Lib.hid hA2
     clear hB2 hA2
     go_wp2_with fail
     refine region_at 13 (fun w'=>Ext _ w') 27 (by kernel_rfl) (by kernel_rfl) rfl (fun _ _ h k=>h.trans k) (drew_ext _) ?_
     simp only [tSC,List.take_zero,dSC,List.drop_zero,List.map_cons,List.map_nil]
     repeat (first
         | (apply walk_is rfl rfl rfl
            · (intro wx hwx;first|((with_reducible show gives _ _ _ (Sem.run _ (execOp _ (Oper.mk _ (Op.load _ _) _ _ _ _)) _));first|((with_reducible apply gq_ldv (hm.ext hwx));infer_instance;exact rfl;(focus (repeat first|exact .hd|assumption|apply Has.tl);done);(focus (first|omega|(simp;omega)|(refine ltB ?_;first|omega|(simp;done)|(simp;omega)))))|((with_reducible apply gq_ldW (hm.ext hwx));infer_instance;exact rfl;(focus (repeat first|exact .hd|assumption|apply Has.tl);done);(focus (first|rfl|omega|(simp;done)|(simp;omega)))))|(go_simp;(try go_bits);first|exact gives_same|exact gives_skip|with_reducible exact gives_call (CS.out wx)))
            · (simp only [Act.put,sIB,sCS,sCZ];rfl))
         | (apply walk_not rfl rfl rfl
            · (simp only [Act.put,sIB,sCS,sCZ];rfl)))
     intro wz hwz
     simp only [zCC,zNR]
     repeat (first|rw [fin_is]|(rw [fin_cons];intro _ _))
     rw [fin_nil]
     try (replace hm:=hm.ext hwz)
     simp only [Act.put,sIB,sCS,sCZ]
     go_wp2_with (first|(go_at_call 212;(with_reducible refine(CD.out _).mono ?_);rintro e_ w ⟨rfl,hx_⟩;replace hm:=hm.ext hx_;clear hx_)|((with_reducible show qLd);first|((with_reducible apply wq_ldW hm);exact rfl;infer_instance;exact rfl;(focus (repeat first|exact .hd|assumption|apply Has.tl);done);(focus (first|rfl|omega|(simp;done)|(simp;omega)))))|((((with_reducible show qSt);first|((with_reducible apply wq_stW hm);exact rfl;infer_instance;exact rfl;exact rfl;(focus (repeat first|exact .hd|assumption|apply Swap.tl);done);(focus (first|rfl|omega|(simp;done)|(simp;omega)));(focus (first|rfl|omega|(simp;done)|(simp;omega)));(focus (first|exact one_map _|(simp [one8,one32,one64];done))))));clear hm;intro w hm))
     go_roundw
     case rel=>exact⟨k+1,by omega,by go_num,by rw [HB2.out,HA2.out];exact hm⟩
     case measure=>simp [intOf]<;>omega
   · obtain rfl:k=128:=by omega
     have hd:decide (((128:Nat):Int)<128)=false:=decide_eq_false (by omega)
     rw [show msum (bitA b) a 128=prodL a b from rfl]at hm
     have l1:=prodL_length a b
     go_wp2_with (first|((with_reducible show qLd);first|((with_reducible apply wq_ldW hm);exact rfl;infer_instance;exact rfl;(focus (repeat first|exact .hd|assumption|apply Has.tl);done);(focus (first|rfl|omega|(simp;done)|(simp;omega)))))|((((with_reducible show qSt);first|((with_reducible apply wq_stW hm);exact rfl;infer_instance;exact rfl;exact rfl;(focus (repeat first|exact .hd|assumption|apply Swap.tl);done);(focus (first|rfl|omega|(simp;done)|(simp;omega)));(focus (first|rfl|omega|(simp;done)|(simp;omega)));(focus (first|exact one_map _|(simp [one8,one32,one64];done))))));clear hm;intro w hm))
     refine rtO hm rfl rfl (hR:=⟨rfl,hm.x⟩)
def byL:List Byte:=[0#8,0#8,0#8,0#8,0#8,0#8,0#8,0#8,0#8,0#8,0#8,0#8,0#8,0#8,0#8,135#8]
theorem byL_top:byL=dblN oneL 128:=by
 rw [one_128]
 refine bits_ext rfl topL_length fun i hi=> ?_
 rw [topL,bit_msum _ 128 (Nat.le_refl _) i hi,decide_eq_true hi,Bool.true_and]
 have h:∀i:Fin 128,bitA byL i.val=spec i.val:=by decide+kernel
 exact h ⟨i,hi⟩
theorem build_by(w:World):(Instr.build 68 #[(15, .int .u8 135)]).run Tryz.prog w= .ok (A8 byL) w:=by kernel_rfl
theorem pow_step(q j:Nat):q%2^(j+1)=if (q/2^j)%2=1 then q%2^j+2^j else q%2^j:=by
 rw [Nat.pow_succ,Nat.mod_mul]
 split
 · next h=>rw [h];omega
 · next h=>
   have:q/2^j%2=0:=by omega
   rw [this];omega
def RzF(a:List Byte)(r q N:Nat)(A B:List Byte):Prop:=∃j,N=q/2^j∧A=dblN a (r+128*(q%2^j))∧B=dblN oneL (128*2^j)
section
variable {a:List Byte} {r q N:Nat} {A B:List Byte}
theorem RzF.start(a:List Byte)(r q:Nat):RzF a r q q (dblN a r) byL:=⟨0,by simp,by simp [Nat.mod_one],by rw [byL_top]⟩
theorem RzF.lenA(h:RzF a r q N A B)(ha:a.length=16):A.length=16:=by obtain⟨j,_,rfl,_⟩:=h;exact dblN_length a ha _
theorem RzF.lenB(h:RzF a r q N A B):B.length=16:=by obtain⟨j,_,_,rfl⟩:=h;exact dblN_length oneL oneL_length _
theorem RzF.done(h:RzF a r q 0 A B):A=dblN a (r+128*q):=by
 obtain⟨j,h0,rfl,_⟩:=h
 have:=Nat.div_add_mod q (2^j)
 rw [←h0,Nat.mul_zero,Nat.zero_add]at this
 rw [this]
theorem RzF.sq(h:RzF a r q N A B):∃j,N=q/2^j∧A=dblN a (r+128*(q%2^j))∧B=dblN oneL (128*2^j)∧prodL B B=dblN oneL (128*2^(j+1))∧N/2=q/2^(j+1):=by
 obtain⟨j,rfl,rfl,rfl⟩:=h
 refine⟨j,rfl,rfl,rfl, ?_, ?_⟩
 · rw [prod_pow _ (dblN_length oneL oneL_length _),←dblN_add,Nat.pow_succ];congr 1;omega
 · rw [Nat.pow_succ,Nat.div_div_eq_div_mul]
theorem RzF.odd(h:RzF a r q N A B)(ha:a.length=16)(h1:N%2=1):RzF a r q (N/2) (prodL A B) (prodL B B):=by
 have lA:=h.lenA ha
 obtain⟨j,rfl,hA,hB,e1,e2⟩:=h.sq
 refine⟨j+1,e2, ?_,e1⟩
 rw [hB,prod_pow _ lA,hA,←dblN_add,pow_step,if_pos h1];congr 1;omega
theorem RzF.even(h:RzF a r q N A B)(h1:¬N%2=1):RzF a r q (N/2) A (prodL B B):=by
 obtain⟨j,rfl,hA,hB,e1,e2⟩:=h.sq
 refine⟨j+1,e2, ?_,e1⟩
 rw [hA,pow_step,if_neg h1]
theorem RzF.le(h:RzF a r q N A B):N≤q:=by obtain⟨j,rfl,_⟩:=h;exact Nat.div_le_self _ _
end
theorem ring_raised(n:Nat)(a:List Byte)(ha:a.length=16)(hn:n≤9223372036854775807)(w0:World):Gives Tryz.prog 210 #[.int .i64 n,A8 a] w0 (A8 (dblN a n)):=by
 unfold Gives
 have hm:=Own.start w0
 have HA:=Lib.hid ha
 have ha1:=Nat.le_of_eq ha
 have ha2:=Nat.le_of_eq ha.symm
 clear ha
 have n0:decide ((n:Int)<0)=false:=decide_eq_false (by omega)
 have n1:¬(n:Int)<0:=by omega
 obtain⟨r,hr,hr8⟩:∃r:Nat,n%128=r∧r<128:=⟨_,rfl,Nat.mod_lt _ (by omega)⟩
 obtain⟨q,hq,hq8⟩:∃q:Nat,n/128=q∧q≤72057594037927935:=⟨_,rfl,by omega⟩
 have a1:(n:Int)%128=(r:Int):=by omega
 have a2:(n:Int).tmod 128=(r:Int):=by rw [Int.tmod_eq_emod_of_nonneg (by omega)];exact a1
 have a3:(n:Int)/128=(q:Int):=by omega
 have a4:(n:Int).tdiv 128=(q:Int):=by rw [Int.tdiv_eq_ediv_of_nonneg (by omega)];exact a3
 have hnq:n=r+128*q:=by omega
 have HN:=Lib.hid hnq
 clear hr hq hnq
 go_enter Tryz.func210,Tryz.ntmps210
 go_wp2_with (first|((first|((with_reducible show qAl);first|((with_reducible apply wq_new hm);exact rfl;infer_instance))|((with_reducible show qBx);first|((with_reducible apply wq_boxN hm);exact rfl;exact rfl)));clear hm;(first|(have hx_:=g1;clear hx_;(first|(have hx_:=g2;clear hx_;intro gx_)|intro g2))|intro g1);intro w hm))
 refine wp_scope_goto 0 (fun a_ w_=>∃(N:Nat)(gq:Nat)(A B:List Byte)(u1 u2 u6 u7 u8 u9 u10 u11 u12 u13 u14 u15 u16 u17 u18 u19 u20 u21 u22 u23 u24 u25 u26 u27 u28 u29 u30 u31 u32:Value),a_={tmps:= #[(.int .i64 (N:Int)),u1,u2,(.pointer (some ⟨g1,0,none⟩)),(.pointer (some ⟨g2,0,none⟩)),(.pointer (some ⟨gq,0,none⟩)),u6,u7,u8,u9,u10,u11,u12,u13,u14,u15,u16,u17,u18,u19,u20,u21,u22,u23,u24,u25,u26,u27,u28,u29,u30,u31,u32],defers:=[]}∧RzF a r q N A B∧Own w0 w_ [⟨gq,68,B.map v8⟩,⟨g2,68,(zer 16).map v8⟩,⟨g1,68,A.map v8⟩]) (fun a_ _=>(intOf (a_.tmps.getD 0 undef)).toNat) rfl ?_ ?_
 · clear hm
   rintro a' w ⟨N,gq,A,B,u1,u2,u6,u7,u8,u9,u10,u11,u12,u13,u14,u15,u16,u17,u18,u19,u20,u21,u22,u23,u24,u25,u26,u27,u28,u29,u30,u31,u32,rfl,⟨hf,hm⟩⟩
   have HF:=Lib.hid hf
   have lA:=hf.lenA HA.out
   have lB:=hf.lenB
   have hNq:=hf.le
   clear hf
   cases N with
   | zero=>
     have e:=HF.out.done
     rw [←HN.out]at e
     subst e
     go_wp2_with (first|((with_reducible show qLd);first|((with_reducible apply wq_ldW hm);exact rfl;infer_instance;exact rfl;(focus (repeat first|exact .hd|assumption|apply Has.tl);done);(focus (first|rfl|omega|(simp;done)|(simp;omega)))))|((((with_reducible show qSt);first|((with_reducible apply wq_stW hm);exact rfl;infer_instance;exact rfl;exact rfl;(focus (repeat first|exact .hd|assumption|apply Swap.tl);done);(focus (first|rfl|omega|(simp;done)|(simp;omega)));(focus (first|rfl|omega|(simp;done)|(simp;omega)));(focus (first|exact one_map _|(simp [one8,one32,one64];done))))));clear hm;intro w hm))
     simp only [Exit.jump]
     refine rtO hm rfl rfl (hR:=⟨rfl,hm.x⟩)
   | succ N=>
     have hne:(((N+1:Nat):Int)==0)=false:=by simp;omega
     generalize hN:N+1=N' at*
     have HL:Hid (N'/2<N'):=Lib.hid (by omega)
     have hNm:N'≤9223372036854775807:=by omega
     have CB:=Lib.hid fun wx=>ring_prod B B lB lB wx
     have lB2:=prodL_length B B
     clear hN
     by_cases hodd:N'%2=1
     · have HR:=Lib.hid (HF.out.odd HA.out hodd)
       have hbits:bits .and .i64 (N':Int) 1=1:=by rw [bits_and1,hodd];rfl
       have CA:=Lib.hid fun wx=>ring_prod A B lA lB wx
       have lA2:=prodL_length A B
       generalize prodL A B=A2 at*
       generalize prodL B B=B2 at*
       clear hodd
       go_wp2_with (first|(go_at_call 213;(with_reducible refine(CA.out _).mono ?_);clear CA;rintro e_ w ⟨rfl,hx_⟩;replace hm:=hm.ext hx_;clear hx_)|(go_at_call 213;(with_reducible refine(CB.out _).mono ?_);rintro e_ w ⟨rfl,hx_⟩;replace hm:=hm.ext hx_;clear hx_)|((with_reducible show qLd);first|((with_reducible apply wq_ldW hm);exact rfl;infer_instance;exact rfl;(focus (repeat first|exact .hd|assumption|apply Has.tl);done);(focus (first|rfl|omega|(simp;done)|(simp;omega)))))|((((with_reducible show qSt);first|((with_reducible apply wq_stW hm);exact rfl;infer_instance;exact rfl;exact rfl;(focus (repeat first|exact .hd|assumption|apply Swap.tl);done);(focus (first|rfl|omega|(simp;done)|(simp;omega)));(focus (first|rfl|omega|(simp;done)|(simp;omega)));(focus (first|exact one_map _|(simp [one8,one32,one64];done))))));clear hm;intro w hm))
       go_step3
       exact⟨rfl,⟨_,_,_,_,_,_,_,_,_,_,_,_,_,_,_,_,_,_,_,_,_,_,_,_,_,_,_,_,_,_,_,_,_,rfl,⟨HR.out,hm⟩⟩,by have hq:=HL.out;first|(simpa [intOf]using hq)|(simp [intOf];omega)⟩
     · have HR:=Lib.hid (HF.out.even hodd)
       have hev:N'%2=0:=by omega
       have hbits:bits .and .i64 (N':Int) 1=0:=by rw [bits_and1,hev];rfl
       generalize prodL B B=B2 at*
       clear hodd
       go_wp2_with (first|(go_at_call 213;(with_reducible refine(CB.out _).mono ?_);rintro e_ w ⟨rfl,hx_⟩;replace hm:=hm.ext hx_;clear hx_)|((with_reducible show qLd);first|((with_reducible apply wq_ldW hm);exact rfl;infer_instance;exact rfl;(focus (repeat first|exact .hd|assumption|apply Has.tl);done);(focus (first|rfl|omega|(simp;done)|(simp;omega)))))|((((with_reducible show qSt);first|((with_reducible apply wq_stW hm);exact rfl;infer_instance;exact rfl;exact rfl;(focus (repeat first|exact .hd|assumption|apply Swap.tl);done);(focus (first|rfl|omega|(simp;done)|(simp;omega)));(focus (first|rfl|omega|(simp;done)|(simp;omega)));(focus (first|exact one_map _|(simp [one8,one32,one64];done))))));clear hm;intro w hm))
       go_step3
       exact⟨rfl,⟨_,_,_,_,_,_,_,_,_,_,_,_,_,_,_,_,_,_,_,_,_,_,_,_,_,_,_,_,_,_,_,_,_,rfl,⟨HR.out,hm⟩⟩,by have hq:=HL.out;first|(simpa [intOf]using hq)|(simp [intOf];omega)⟩
 · intro hp
   go_wp2_with fail
   go_loopw [11] (fun i wr=>∃k:Nat,k≤r∧i= .int .i64 k∧Own w0 wr [⟨g2,68,(zer 16).map v8⟩,⟨g1,68,(dblN a k).map v8⟩]) (fun i _=>r-(intOf i).toNat)
   case atStart=>exact⟨0,by omega,rfl,hm⟩
   case round=>
     obtain⟨k,hk,rfl,hm⟩:=hrel
     by_cases hlt:k<r
     · have hd:decide ((k:Int)<(r:Int))=true:=decide_eq_true (by omega)
       have l2:=dblN_length a HA.out k
       have l4:=dblN_length a HA.out (k+1)
       have CD:Hid (∀wx,Gives Tryz.prog 212 #[A8 (dblN a k)] wx (A8 (dblN a (k+1)))):=Lib.hid fun wx=>ring_double (dblN a k) l2 wx
       generalize dblN a k=A at*
       generalize hA2:dblN a (k+1)=A2 at*
       have HA2:=Lib.hid hA2
       clear hA2
       go_wp2_with (first|(go_at_call 212;(with_reducible refine(CD.out _).mono ?_);rintro e_ w ⟨rfl,hx_⟩;replace hm:=hm.ext hx_;clear hx_)|((with_reducible show qLd);first|((with_reducible apply wq_ldW hm);exact rfl;infer_instance;exact rfl;(focus (repeat first|exact .hd|assumption|apply Has.tl);done);(focus (first|rfl|omega|(simp;done)|(simp;omega)))))|((((with_reducible show qSt);first|((with_reducible apply wq_stW hm);exact rfl;infer_instance;exact rfl;exact rfl;(focus (repeat first|exact .hd|assumption|apply Swap.tl);done);(focus (first|rfl|omega|(simp;done)|(simp;omega)));(focus (first|rfl|omega|(simp;done)|(simp;omega)));(focus (first|exact one_map _|(simp [one8,one32,one64];done))))));clear hm;intro w hm))
       go_roundw
       case rel=>exact⟨k+1,by omega,by go_num,by rw [HA2.out];exact hm⟩
       case measure=>simp [intOf]<;>omega
     · obtain rfl:k=r:=by omega
       have hd:decide ((k:Int)<(k:Int))=false:=decide_eq_false (by omega)
       have RS:=Lib.hid (RzF.start a k q)
       have lK:=dblN_length a HA.out k
       have lY:byL.length=16:=rfl
       have BY:=Lib.hid build_by
       generalize byL=Y at*
       generalize dblN a k=D0 at*
       go_wp2_with (first|((with_reducible apply wq_build1 BY.out);exact rfl;exact rfl)|((((with_reducible show qSt);first|((with_reducible apply wq_stW hm);exact rfl;infer_instance;exact rfl;exact rfl;(focus (repeat first|exact .hd|assumption|apply Swap.tl);done);(focus (first|rfl|omega|(simp;done)|(simp;omega)));(focus (first|rfl|omega|(simp;done)|(simp;omega)));(focus (first|exact one_map _|(simp [one8,one32,one64];done))))));clear hm;intro w hm)|((first|((with_reducible show qAl);first|((with_reducible apply wq_new hm);exact rfl;infer_instance)));clear hm;(first|(have hx_:=g1;clear hx_;(first|(have hx_:=g2;clear hx_;intro gx_)|intro g2))|intro g1);intro w hm))
       go_step3
       rename_i hK
       exact hK _ _ (hp _ _ ⟨_,_,_,_,_,_,_,_,_,_,_,_,_,_,_,_,_,_,_,_,_,_,_,_,_,_,_,_,_,_,_,_,_,rfl,⟨RS.out,hm⟩⟩)
open Go
def rotr(x:BitVec 64)(k:Nat):BitVec 64:=(x<<<(64-k))|||(x>>>k)
def half1(v:List (BitVec 64))(a b:Nat)(x:BitVec 64):List (BitVec 64):=setN v a (nth v a+(nth v b+x))
def half2(v:List (BitVec 64))(a d m:Nat):List (BitVec 64):=setN v d (rotr (nth v d^^^nth v a) m)
def half3(v:List (BitVec 64))(c d:Nat):List (BitVec 64):=setN v c (nth v c+nth v d)
def halfL(v:List (BitVec 64))(a b c d:Nat)(x:BitVec 64)(m n:Nat):List (BitVec 64):=half2 (half3 (half2 (half1 v a b x) a d m) c d) c b n
theorem halfL_length(v:List (BitVec 64))(a b c d:Nat)(x:BitVec 64)(m n:Nat):(halfL v a b c d x m n).length=v.length:=by simp [halfL,half1,half2,half3]
def stirL(v:List (BitVec 64))(i by_:Nat)(x y:BitVec 64):List (BitVec 64):=
 halfL (halfL v i (4+(i+by_)%4) (8+(i+2*by_)%4) (12+(i+3*by_)%4) x 32 24) i (4+(i+by_)%4) (8+(i+2*by_)%4) (12+(i+3*by_)%4) y 16 63
theorem stirL_length(v:List (BitVec 64))(i by_:Nat)(x y:BitVec 64):(stirL v i by_ x y).length=v.length:=by rw [stirL,halfL_length,halfL_length]
def firstL:List (BitVec 64):=[0x6a09e667f3bcc908#64,0xbb67ae8584caa73b#64,0x3c6ef372fe94f82b#64,0xa54ff53a5f1d36f1#64,0x510e527fade682d1#64,0x9b05688c2b3e6c1f#64,0x1f83d9abfb41bd6b#64,0x5be0cd19137e2179#64]
theorem firstL_length:firstL.length=8:=rfl
def rowsL:List (List Byte):=[
 [0#8,1#8,2#8,3#8,4#8,5#8,6#8,7#8,8#8,9#8,10#8,11#8,12#8,13#8,14#8,15#8],
 [14#8,10#8,4#8,8#8,9#8,15#8,13#8,6#8,1#8,12#8,0#8,2#8,11#8,7#8,5#8,3#8],
 [11#8,8#8,12#8,0#8,5#8,2#8,15#8,13#8,10#8,14#8,3#8,6#8,7#8,1#8,9#8,4#8],
 [7#8,9#8,3#8,1#8,13#8,12#8,11#8,14#8,2#8,6#8,5#8,10#8,4#8,0#8,15#8,8#8],
 [9#8,0#8,5#8,7#8,2#8,4#8,10#8,15#8,14#8,1#8,11#8,12#8,6#8,8#8,3#8,13#8],
 [2#8,12#8,6#8,10#8,0#8,11#8,8#8,3#8,4#8,13#8,7#8,5#8,15#8,14#8,1#8,9#8],
 [12#8,5#8,1#8,15#8,14#8,13#8,4#8,10#8,0#8,7#8,6#8,3#8,9#8,2#8,8#8,11#8],
 [13#8,11#8,7#8,14#8,12#8,1#8,3#8,9#8,5#8,0#8,15#8,4#8,8#8,6#8,2#8,10#8],
 [6#8,15#8,14#8,9#8,11#8,3#8,0#8,8#8,12#8,2#8,13#8,7#8,1#8,4#8,10#8,5#8],
 [10#8,2#8,8#8,4#8,7#8,6#8,1#8,5#8,15#8,11#8,9#8,14#8,3#8,12#8,13#8,0#8]]
theorem rowsL_length:rowsL.length=10:=rfl
theorem rowsL_each:∀k∈rowsL,k.length=16:=by decide
theorem rowsL_lt:∀k∈rowsL,∀x∈k,x.toNat<16:=by decide
def rowL(r:Nat):List Byte:=rowsL.getD (r%10) []
theorem rowL_length(r:Nat):(rowL r).length=16:=by
 have h:r%10<rowsL.length:=Nat.mod_lt _ (by decide)
 rw [rowL,List.getD_eq_getElem?_getD,List.getElem?_eq_getElem h];exact rowsL_each _ (List.getElem_mem h)
theorem rowL_lt(r i:Nat):(nth (rowL r) i).toNat<16:=by
 have h:r%10<rowsL.length:=Nat.mod_lt _ (by decide)
 by_cases hi:i<(rowL r).length
 · rw [nth_get hi]
   refine rowsL_lt (rowL r) ?_ _ (List.getElem_mem hi)
   rw [rowL,List.getD_eq_getElem?_getD,List.getElem?_eq_getElem h];exact List.getElem_mem h
 · rw [nth_ge (by omega)];decide
def stepF(m:List (BitVec 64))(row:List Byte)(v:List (BitVec 64)):Nat→List (BitVec 64)
 |0=>v
 |i+1=>stirL (stepF m row v i) (i%4) (i/4) (nth m (nth row (2*i)).toNat) (nth m (nth row (2*i+1)).toNat)
theorem stepF_length(m:List (BitVec 64))(row:List Byte)(v:List (BitVec 64))(i:Nat):(stepF m row v i).length=v.length:=by
 induction i with
 |zero=>rfl
 |succ i ih=>rw [stepF,stirL_length,ih]
def roundF(m v:List (BitVec 64)):Nat→List (BitVec 64)
 |0=>v
 |r+1=>stepF m (rowL r) (roundF m v r) 8
theorem roundF_length(m v:List (BitVec 64))(r:Nat):(roundF m v r).length=v.length:=by
 induction r with
 |zero=>rfl
 |succ r ih=>rw [roundF,stepF_length,ih]
def startF(h:List (BitVec 64)):Nat→List (BitVec 64)
 |0=>zer 16
 |k+1=>setN (setN (startF h k) k (nth h k)) (k+8) (nth firstL k)
theorem startF_length(h:List (BitVec 64))(k:Nat):(startF h k).length=16:=by
 induction k with
 |zero=>exact zer_length
 |succ k ih=>rw [startF,setN_length,setN_length,ih]
def xorN(v:List (BitVec 64))(i:Nat)(x:BitVec 64):List (BitVec 64):=setN v i (nth v i^^^x)
def notN(v:List (BitVec 64))(i:Nat):List (BitVec 64):=setN v i (~~~ (nth v i))
def initL(h:List (BitVec 64))(lo hi:BitVec 64)(last:Bool):List (BitVec 64):=
 let v:=xorN (xorN (startF h 8) 12 lo) 13 hi
 if last then notN v 14 else v
theorem initL_length(h:List (BitVec 64))(lo hi:BitVec 64)(last:Bool):(initL h lo hi last).length=16:=by
 unfold initL;cases last<;>simp [xorN,notN,startF_length]
def compL(h m:List (BitVec 64))(lo hi:BitVec 64)(last:Bool):List (BitVec 64):=
 tab 8 fun i=>nth h i^^^(nth (roundF m (initL h lo hi last) 12) i^^^nth (roundF m (initL h lo hi last) 12) (i+8))
theorem compL_length(h m:List (BitVec 64))(lo hi:BitVec 64)(last:Bool):(compL h m lo hi last).length=8:=tab_length
theorem neg_mask(n:Nat)(h0:0<n)(h1:n≤63):bits BinOp.and IntKind.u64 (IntKind.u64.wrap (-(n:Int))) 63=((64-n:Nat):Int)∧IntKind.u64.wrap (64-((64-n:Nat):Int))=(n:Int):=by
 have:∀k:Fin 64,0<k.val→bits BinOp.and IntKind.u64 (IntKind.u64.wrap (-(k.val:Int))) 63=((64-k.val:Nat):Int)∧IntKind.u64.wrap (64-((64-k.val:Nat):Int))=(k.val:Int):=by decide+kernel
 exact this ⟨n,by omega⟩ h0
theorem rot64_any(x:BitVec 64)(n:Nat)(h0:0<n)(h1:n≤63)(w:World):Calls Tryz.prog 94 #[v64 x, .int .i64 (-(n:Int))] w fun e w'=>e= .returned (v64 (rotr x n))∧w=w':=by
 obtain⟨hb,hw⟩:=neg_mask n h0 h1
 obtain⟨q,hq⟩:∃q:Nat,64-n=q:=⟨_,rfl⟩
 rw [hq]at hb hw
 have E:=Lib.hid (show rotr x n=(x<<<q)|||(x>>>n)by rw [rotr,hq])
 clear hq
 go_enter Tryz.func94,Tryz.ntmps94
 go_wp2
 go_ret
 exact⟨by rw [E.out];rfl,rfl⟩
theorem rot64_G(x:BitVec 64)(n:Nat)(h0:0<n)(h1:n≤63)(w:World):Gives Tryz.prog 94 #[v64 x, .int .i64 (-(n:Int))] w (v64 (rotr x n)):= .of_same (rot64_any x n h0 h1 w)
theorem half_any(g:Nat)(l:List (BitVec 64))(a b c d:Nat)(x:BitVec 64)(m n:Nat)(hl:l.length=16)(ha:a<16)(hb:b<16)(hc:c<16)(hd:d<16)(hm0:0<m)(hm1:m≤63)(hn0:0<n)(hn1:n≤63)(w0 w:World)(L L':List Blk)(hm:Own w0 w L)(hs:Swap L ⟨g,182,l.map v64⟩ ⟨g,182,(halfL l a b c d x m n).map v64⟩ L'):
   Calls Tryz.prog 92 #[.pointer (some ⟨g,0,none⟩), .int .i64 a, .int .i64 b, .int .i64 c, .int .i64 d,v64 x, .int .i64 m, .int .i64 n] w fun e w'=>e= .returned (.tuple #[])∧Own w0 w' L':=by
 obtain⟨R,p1,p2⟩:=hs.front
 replace hm:=hm.perm p1
 have P2:=Lib.hid p2.symm
 have HE:=Lib.hid (show halfL l a b c d x m n=half2 (half3 (half2 (half1 l a b x) a d m) c d) c b n from rfl)
 have hl1:l.length=16:=hl
 have l1:(half1 l a b x).length=16:=by simp [half1,hl]
 have l2:(half2 (half1 l a b x) a d m).length=16:=by simp [half1,half2,hl]
 have l3:(half3 (half2 (half1 l a b x) a d m) c d).length=16:=by simp [half1,half2,half3,hl]
 have ai:(a:Int)<16:=by omega
 have bi:(b:Int)<16:=by omega
 have ci:(c:Int)<16:=by omega
 have di:(d:Int)<16:=by omega
 have D1:=Lib.hid fun y wx=>rot64_G y m hm0 hm1 wx
 have D2:=Lib.hid fun y wx=>rot64_G y n hn0 hn1 wx
 have hmi:(m:Int)≤63:=by omega
 have hni:(n:Int)≤63:=by omega
 clear hs p1 p2 hl
 go_enter Tryz.func92,Tryz.ntmps92
 go_wp2_with fail
 refine region_at 15 (fun w'=>Ext _ w') 80 (by kernel_rfl) (by kernel_rfl) rfl (fun _ _ h k=>h.trans k) (drew_ext _) ?_
 simp only [tSC,List.take_zero,dSC,List.drop_zero,List.map_cons,List.map_nil]
 repeat (first
     | (apply walk_is rfl rfl rfl
        · (intro wx hwx;first|((with_reducible show gives _ _ _ (Sem.run _ (execOp _ (Oper.mk _ (Op.load _ _) _ _ _ _)) _));first|((with_reducible apply gq_ldv (hm.ext hwx));infer_instance;exact rfl;(focus (repeat first|exact .hd|assumption|apply Has.tl);done);(focus (first|omega|(simp;omega)|(refine ltB ?_;first|omega|(simp;done)|(simp;omega))))))|(go_simp;(try go_bits);first|exact gives_same|exact gives_skip))
        · (simp only [Act.put,sIB,sCS,sCZ];rfl))
     | (apply walk_not rfl rfl rfl
        · (simp only [Act.put,sIB,sCS,sCZ];rfl)))
 intro wz hwz
 simp only [zCC,zNR]
 repeat (first|rw [fin_is]|(rw [fin_cons];intro _ _))
 rw [fin_nil]
 try (replace hm:=hm.ext hwz)
 simp only [Act.put,sIB,sCS,sCZ]
 go_wp2_with (first|((((with_reducible show qSt);first|((with_reducible apply wq_stv hm);exact rfl;infer_instance;exact rfl;(focus (repeat first|exact .hd|assumption|apply Swap.tl);done);infer_instance;exact rfl;(focus (first|omega|(simp;omega)|(refine ltB ?_;first|omega|(simp;done)|(simp;omega)))))));clear hm;intro w hm))
 replace hm:Own w0 w (⟨g,182,(half1 l a b x).map v64⟩::R):=hm
 generalize half1 l a b x=v1 at*
 refine region_at 18 (fun w'=>Ext _ w') 80 (by kernel_rfl) (by kernel_rfl) rfl (fun _ _ h k=>h.trans k) (drew_ext _) ?_
 simp only [tSC,List.take_zero,dSC,List.drop_zero,List.map_cons,List.map_nil]
 repeat (first
     | (apply walk_is rfl rfl rfl
        · (intro wx hwx;first|((with_reducible show gives _ _ _ (Sem.run _ (execOp _ (Oper.mk _ (Op.load _ _) _ _ _ _)) _));first|((with_reducible apply gq_ldv (hm.ext hwx));infer_instance;exact rfl;(focus (repeat first|exact .hd|assumption|apply Has.tl);done);(focus (first|omega|(simp;omega)|(refine ltB ?_;first|omega|(simp;done)|(simp;omega))))))|(go_simp;(try go_bits);first|exact gives_same|exact gives_skip|with_reducible exact gives_call (D1.out _ wx)))
        · (simp only [Act.put,sIB,sCS,sCZ];rfl))
     | (apply walk_not rfl rfl rfl
        · (simp only [Act.put,sIB,sCS,sCZ];rfl)))
 intro wz hwz
 simp only [zCC,zNR]
 repeat (first|rw [fin_is]|(rw [fin_cons];intro _ _))
 rw [fin_nil]
 try (replace hm:=hm.ext hwz)
 simp only [Act.put,sIB,sCS,sCZ]
 go_wp2_with (first|((((with_reducible show qSt);first|((with_reducible apply wq_stv hm);exact rfl;infer_instance;exact rfl;(focus (repeat first|exact .hd|assumption|apply Swap.tl);done);infer_instance;exact rfl;(focus (first|omega|(simp;omega)|(refine ltB ?_;first|omega|(simp;done)|(simp;omega)))))));clear hm;intro w hm))
 replace hm:Own w0 w (⟨g,182,(half2 v1 a d m).map v64⟩::R):=hm
 generalize half2 v1 a d m=v2 at*
 refine region_at 13 (fun w'=>Ext _ w') 80 (by kernel_rfl) (by kernel_rfl) rfl (fun _ _ h k=>h.trans k) (drew_ext _) ?_
 simp only [tSC,List.take_zero,dSC,List.drop_zero,List.map_cons,List.map_nil]
 repeat (first
     | (apply walk_is rfl rfl rfl
        · (intro wx hwx;first|((with_reducible show gives _ _ _ (Sem.run _ (execOp _ (Oper.mk _ (Op.load _ _) _ _ _ _)) _));first|((with_reducible apply gq_ldv (hm.ext hwx));infer_instance;exact rfl;(focus (repeat first|exact .hd|assumption|apply Has.tl);done);(focus (first|omega|(simp;omega)|(refine ltB ?_;first|omega|(simp;done)|(simp;omega))))))|(go_simp;(try go_bits);first|exact gives_same|exact gives_skip))
        · (simp only [Act.put,sIB,sCS,sCZ];rfl))
     | (apply walk_not rfl rfl rfl
        · (simp only [Act.put,sIB,sCS,sCZ];rfl)))
 intro wz hwz
 simp only [zCC,zNR]
 repeat (first|rw [fin_is]|(rw [fin_cons];intro _ _))
 rw [fin_nil]
 try (replace hm:=hm.ext hwz)
 simp only [Act.put,sIB,sCS,sCZ]
 go_wp2_with (first|((((with_reducible show qSt);first|((with_reducible apply wq_stv hm);exact rfl;infer_instance;exact rfl;(focus (repeat first|exact .hd|assumption|apply Swap.tl);done);infer_instance;exact rfl;(focus (first|omega|(simp;omega)|(refine ltB ?_;first|omega|(simp;done)|(simp;omega)))))));clear hm;intro w hm))
 replace hm:Own w0 w (⟨g,182,(half3 v2 c d).map v64⟩::R):=hm
 generalize half3 v2 c d=v3 at*
 refine region_at 18 (fun w'=>Ext _ w') 80 (by kernel_rfl) (by kernel_rfl) rfl (fun _ _ h k=>h.trans k) (drew_ext _) ?_
 simp only [tSC,List.take_zero,dSC,List.drop_zero,List.map_cons,List.map_nil]
 repeat (first
     | (apply walk_is rfl rfl rfl
        · (intro wx hwx;first|((with_reducible show gives _ _ _ (Sem.run _ (execOp _ (Oper.mk _ (Op.load _ _) _ _ _ _)) _));first|((with_reducible apply gq_ldv (hm.ext hwx));infer_instance;exact rfl;(focus (repeat first|exact .hd|assumption|apply Has.tl);done);(focus (first|omega|(simp;omega)|(refine ltB ?_;first|omega|(simp;done)|(simp;omega))))))|(go_simp;(try go_bits);first|exact gives_same|exact gives_skip|with_reducible exact gives_call (D2.out _ wx)))
        · (simp only [Act.put,sIB,sCS,sCZ];rfl))
     | (apply walk_not rfl rfl rfl
        · (simp only [Act.put,sIB,sCS,sCZ];rfl)))
 intro wz hwz
 simp only [zCC,zNR]
 repeat (first|rw [fin_is]|(rw [fin_cons];intro _ _))
 rw [fin_nil]
 try (replace hm:=hm.ext hwz)
 simp only [Act.put,sIB,sCS,sCZ]
 go_wp2_with (first|((((with_reducible show qSt);first|((with_reducible apply wq_stv hm);exact rfl;infer_instance;exact rfl;(focus (repeat first|exact .hd|assumption|apply Swap.tl);done);infer_instance;exact rfl;(focus (first|omega|(simp;omega)|(refine ltB ?_;first|omega|(simp;done)|(simp;omega)))))));clear hm;intro w hm))
 go_end0
 refine⟨rfl, ?_⟩
 rw [HE.out]at P2
 exact hm.perm P2.out
theorem stir_any(g:Nat)(l:List (BitVec 64))(i by_:Nat)(x y:BitVec 64)(hl:l.length=16)(hi:i<4)(hb:by_<2)(w0 w:World)(L L':List Blk)(hm:Own w0 w L)(hs:Swap L ⟨g,182,l.map v64⟩ ⟨g,182,(stirL l i by_ x y).map v64⟩ L'):
   Calls Tryz.prog 90 #[.pointer (some ⟨g,0,none⟩), .int .i64 i, .int .i64 by_,v64 x,v64 y] w fun e w'=>e= .returned (.tuple #[])∧Own w0 w' L':=by
 obtain⟨q1,h1,h14⟩:∃q:Nat,(i+by_)%4=q∧q<4:=⟨_,rfl,Nat.mod_lt _ (by omega)⟩
 obtain⟨q2,h2,h24⟩:∃q:Nat,(i+2*by_)%4=q∧q<4:=⟨_,rfl,Nat.mod_lt _ (by omega)⟩
 obtain⟨q3,h3,h34⟩:∃q:Nat,(i+3*by_)%4=q∧q<4:=⟨_,rfl,Nat.mod_lt _ (by omega)⟩
 have a1:((i:Int)+(by_:Int))%4=(q1:Int):=by omega
 have a2:((i:Int)+(by_:Int)).tmod 4=(q1:Int):=by rw [Int.tmod_eq_emod_of_nonneg (by omega)];exact a1
 have a3:((i:Int)+2*(by_:Int))%4=(q2:Int):=by omega
 have a4:((i:Int)+2*(by_:Int)).tmod 4=(q2:Int):=by rw [Int.tmod_eq_emod_of_nonneg (by omega)];exact a3
 have a5:((i:Int)+3*(by_:Int))%4=(q3:Int):=by omega
 have a6:((i:Int)+3*(by_:Int)).tmod 4=(q3:Int):=by rw [Int.tmod_eq_emod_of_nonneg (by omega)];exact a5
 obtain⟨M,m1,m2⟩:=hs.split ⟨g,182,(halfL l i (4+q1) (8+q2) (12+q3) x 32 24).map v64⟩
 have e:stirL l i by_ x y=halfL (halfL l i (4+q1) (8+q2) (12+q3) x 32 24) i (4+q1) (8+q2) (12+q3) y 16 63:=by rw [stirL,h1,h2,h3]
 rw [e]at m2
 have C1:=fun wa hma=>half_any g l i (4+q1) (8+q2) (12+q3) x 32 24 hl (by omega) (by omega) (by omega) (by omega) (by omega) (by omega) (by omega) (by omega) w0 wa L M hma m1
 have C2:=fun wa hma=>half_any g _ i (4+q1) (8+q2) (12+q3) y 16 63 (by rw [halfL_length,hl]) (by omega) (by omega) (by omega) (by omega) (by omega) (by omega) (by omega) (by omega) w0 wa M L' hma m2
 push_cast at C1 C2
 have D1:=Lib.hid C1
 have D2:=Lib.hid C2
 clear C1 C2 hs m1 m2 e h1 h2 h3
 go_enter Tryz.func90,Tryz.ntmps90
 go_wp2_with fail
 refine(D1.out _ hm).mono ?_
 rintro e w1 ⟨rfl,hm1⟩
 go_wp2_with fail
 refine(D2.out _ hm1).mono ?_
 rintro e w2 ⟨rfl,hm2⟩
 go_wp2
 go_end0
 exact⟨rfl,hm2⟩
end Go.Proofs.YtllnjbiebdkmbaaGreatDoor
