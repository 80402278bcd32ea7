/-
  Texts of the program, walked, and plain ones. Conditions: those written in each theorem.
-/
import Derived.Test.YtneacgpmjlocjaaGreatDoorZTopWrapped0
import Derived.Test.YtneacgpmjlocjaaGreatDoorZTopWrapped9
set_option linter.unusedSimpArgs false
set_option linter.unusedVariables false
set_option maxHeartbeats 16000000
open Go.Lib (hid)
namespace Go.Proofs.YtneacgpmjlocjaaGreatDoor
open Go Go.RowKit
set_option maxRecDepth 100000
def itL(l:List (BitVec 64)):Nat→List (BitVec 64)
 |0=>l
 |k+1=>carL (itL l k)
theorem itL_length(l:List (BitVec 64))(k:Nat):(itL l k).length=l.length:=by
 induction k with
 |zero=>rfl
 |succ k ih=>rw [itL,carL_length,ih]
def Low60(l:List (BitVec 64)):Prop:=l.length=5∧∀i,(nth l i).toNat<1152921504606846976
theorem toNat_m26(x:BitVec 64):(x&&&67108863#64).toNat=x.toNat%67108864:=by
 rw [BitVec.toNat_and,show(67108863#64:BitVec 64).toNat=2^26-1 from rfl,Nat.and_two_pow_sub_one_eq_mod]
theorem toNat_s26(x:BitVec 64):(x>>>26).toNat=x.toNat/67108864:=by
 rw [BitVec.toNat_ushiftRight,Nat.shiftRight_eq_div_pow]
theorem toNat_ad(x y:BitVec 64)(h:x.toNat+y.toNat<18446744073709551616):(x+y).toNat=x.toNat+y.toNat:=by
 rw [BitVec.toNat_add,Nat.mod_eq_of_lt h]
theorem car_vals(l:List (BitVec 64))(h:Low60 l):∃c1 c2 c3 c4 c5:Nat,c1=(nth l 0).toNat/67108864∧c2=((nth l 1).toNat+c1)/67108864∧c3=((nth l 2).toNat+c2)/67108864∧c4=((nth l 3).toNat+c3)/67108864∧c5=((nth l 4).toNat+c4)/67108864∧
   (nth (carL l) 0).toNat=(nth l 0).toNat%67108864+5*c5∧(nth (carL l) 1).toNat=((nth l 1).toNat+c1)%67108864∧(nth (carL l) 2).toNat=((nth l 2).toNat+c2)%67108864∧(nth (carL l) 3).toNat=((nth l 3).toNat+c3)%67108864∧(nth (carL l) 4).toNat=((nth l 4).toNat+c4)%67108864:=by
 obtain⟨hl,hb⟩:=h
 match l,hl,hb with
 | [a,b,c,d,e],_,hb=>
   have ha:=hb 0
   have hb1:=hb 1
   have hc:=hb 2
   have hd:=hb 3
   have he:=hb 4
   simp only [nth,List.getD_cons_zero,List.getD_cons_succ]at ha hb1 hc hd he
   have E:carL [a,b,c,d,e]=[((a+0#64)&&&67108863#64)+5#64*((e+((d+((c+((b+((a+0#64)>>>26))>>>26))>>>26))>>>26))>>>26),(b+((a+0#64)>>>26))&&&67108863#64,(c+((b+((a+0#64)>>>26))>>>26))&&&67108863#64,(d+((c+((b+((a+0#64)>>>26))>>>26))>>>26))&&&67108863#64,(e+((d+((c+((b+((a+0#64)>>>26))>>>26))>>>26))>>>26))&&&67108863#64]:=rfl
   rw [E]
   simp only [nth,List.getD_cons_zero,List.getD_cons_succ]
   rw [BitVec.add_zero]
   have k1:(a>>>26).toNat=a.toNat/67108864:=toNat_s26 a
   have x1:(b+a>>>26).toNat=b.toNat+a.toNat/67108864:=by rw [toNat_ad _ _ (by rw [k1];omega),k1]
   generalize b+a>>>26=X1 at*
   have k2:(X1>>>26).toNat=X1.toNat/67108864:=toNat_s26 X1
   have x2:(c+X1>>>26).toNat=c.toNat+X1.toNat/67108864:=by rw [toNat_ad _ _ (by rw [k2];omega),k2]
   generalize c+X1>>>26=X2 at*
   have k3:(X2>>>26).toNat=X2.toNat/67108864:=toNat_s26 X2
   have x3:(d+X2>>>26).toNat=d.toNat+X2.toNat/67108864:=by rw [toNat_ad _ _ (by rw [k3];omega),k3]
   generalize d+X2>>>26=X3 at*
   have k4:(X3>>>26).toNat=X3.toNat/67108864:=toNat_s26 X3
   have x4:(e+X3>>>26).toNat=e.toNat+X3.toNat/67108864:=by rw [toNat_ad _ _ (by rw [k4];omega),k4]
   generalize e+X3>>>26=X4 at*
   have k5:(X4>>>26).toNat=X4.toNat/67108864:=toNat_s26 X4
   have m0:(a&&&67108863#64).toNat=a.toNat%67108864:=toNat_m26 a
   have m5:(5#64*X4>>>26).toNat=5*(X4.toNat/67108864):=by rw [BitVec.toNat_mul,k5,show(5#64:BitVec 64).toNat=5 from rfl,Nat.mod_eq_of_lt (by omega)]
   refine⟨_,_,_,_,_,rfl,rfl,rfl,rfl,rfl, ?_, ?_, ?_, ?_, ?_⟩
   · rw [toNat_ad _ _ (by rw [m0,m5];omega),m0,m5,x4,x3,x2,x1]
   · rw [toNat_m26,x1]
   · rw [toNat_m26,x2,x1]
   · rw [toNat_m26,x3,x2,x1]
   · rw [toNat_m26,x4,x3,x2,x1]
theorem low_of(l:List (BitVec 64))(hl:l.length=5)(h:(nth l 0).toNat<1152921504606846976∧(nth l 1).toNat<1152921504606846976∧(nth l 2).toNat<1152921504606846976∧(nth l 3).toNat<1152921504606846976∧(nth l 4).toNat<1152921504606846976):Low60 l:=by
 refine⟨hl,fun i=> ?_⟩
 by_cases hi:i<5
 · rcases (show i=0∨i=1∨i=2∨i=3∨i=4 by omega)with rfl|rfl|rfl|rfl|rfl
   · exact h.1
   · exact h.2.1
   · exact h.2.2.1
   · exact h.2.2.2.1
   · exact h.2.2.2.2
 · rw [nth_ge (by omega)];decide
theorem itL_fix(l:List (BitVec 64))(h:Low60 l):carL (itL l 3)=itL l 3:=by
 obtain⟨c1,c2,c3,c4,c5,a1,a2,a3,a4,a5,b0,b1,b2,b3,b4⟩:=car_vals l h
 have w0:=h.2 0
 have w1:=h.2 1
 have w2:=h.2 2
 have w3:=h.2 3
 have w4:=h.2 4
 have L1:(carL l).length=5:=by rw [carL_length,h.1]
 have p0:(nth (carL l) 0).toNat<274877906944:=by omega
 have p1:(nth (carL l) 1).toNat<67108864∧(nth (carL l) 2).toNat<67108864∧(nth (carL l) 3).toNat<67108864∧(nth (carL l) 4).toNat<67108864:=by omega
 clear a1 a2 a3 a4 a5 b0 b1 b2 b3 b4 w0 w1 w2 w3 w4
 have h1:Low60 (carL l):=low_of _ L1 (by omega)
 obtain⟨d1,d2,d3,d4,d5,a1,a2,a3,a4,a5,b0,b1,b2,b3,b4⟩:=car_vals (carL l) h1
 have L2:(carL (carL l)).length=5:=by rw [carL_length,L1]
 have q0:(nth (carL (carL l)) 0).toNat≤67108868:=by omega
 have q1:(nth (carL (carL l)) 1).toNat<67108864∧(nth (carL (carL l)) 2).toNat<67108864∧(nth (carL (carL l)) 3).toNat<67108864∧(nth (carL (carL l)) 4).toNat<67108864:=by omega
 clear a1 a2 a3 a4 a5 b0 b1 b2 b3 b4 p0 p1
 have h2:Low60 (carL (carL l)):=low_of _ L2 (by omega)
 obtain⟨e1,e2,e3,e4,e5,a1,a2,a3,a4,a5,b0,b1,b2,b3,b4⟩:=car_vals (carL (carL l)) h2
 have L3:(carL (carL (carL l))).length=5:=by rw [carL_length,L2]
 have r0:(nth (carL (carL (carL l))) 0).toNat<67108864:=by omega
 have r1:(nth (carL (carL (carL l))) 1).toNat<67108864∧(nth (carL (carL (carL l))) 2).toNat<67108864∧(nth (carL (carL (carL l))) 3).toNat<67108864∧(nth (carL (carL (carL l))) 4).toNat<67108864:=by omega
 clear a1 a2 a3 a4 a5 b0 b1 b2 b3 b4 q0 q1
 have h3:Low60 (carL (carL (carL l))):=low_of _ L3 (by omega)
 obtain⟨f1,f2,f3,f4,f5,a1,a2,a3,a4,a5,b0,b1,b2,b3,b4⟩:=car_vals (carL (carL (carL l))) h3
 show carL (carL (carL (carL l)))=carL (carL (carL l))
 refine nth_ext (carL_length _) fun i hi=> ?_
 rw [carL_length,L3]at hi
 apply BitVec.eq_of_toNat_eq
 rcases (show i=0∨i=1∨i=2∨i=3∨i=4 by omega)with rfl|rfl|rfl|rfl|rfl<;>omega
theorem itL_stay(l:List (BitVec 64))(k j:Nat)(h:carL (itL l k)=itL l k):itL l (k+j)=itL l k:=by
 induction j with
 |zero=>rfl
 |succ j ih=>rw [←Nat.add_assoc,itL,ih,h]
theorem itL_end(l:List (BitVec 64))(hl:Low60 l)(k:Nat)(h:carL (itL l k)=itL l k):itL l k=itL l 3:=by
 rcases Nat.le_total k 3 with h3|h3
 · have:=itL_stay l k (3-k) h
   rw [show k+(3-k)=3 from by omega]at this
   exact this.symm
 · have:=itL_stay l 3 (k-3) (itL_fix l hl)
   rwa [show 3+(k-3)=k from by omega]at this
def mk4:List (BitVec 64):=[67108863#64,67108863#64,67108863#64,67108863#64]
def redL(l:List (BitVec 64)):List (BitVec 64):=if (l.drop 1==mk4)=true∧67108858<(nth l 0).toNat then setN (zer 5) 0 (nth l 0-67108859#64)else l
def tidL(l:List (BitVec 64)):List (BitVec 32):=tab 5 fun i=>(nth (redL (itL l 3)) i).setWidth 32
theorem tidL_length(l:List (BitVec 64)):(tidL l).length=5:=tab_length
@[local go_sem] theorem eql5l (d : Nat) (l m : List (BitVec 64)) (w : World) (hl : l.length = 5) (hm : m.length = 5) : (Op.equalIn (d + 2) 285 (P64 l) (P64 m)).run Tryz.prog w = .ok (l == m) w :=
 run_equalIn_64s w d _ 25 5 l m (by kernel_rfl) (by kernel_rfl) (by kernel_rfl) hl hm
@[local go_sem] theorem eql4l (d : Nat) (l m : List (BitVec 64)) (w : World) (hl : l.length = 4) (hm : m.length = 4) : (Op.equalIn (d + 2) 281 (P64 l) (P64 m)).run Tryz.prog w = .ok (l == m) w :=
 run_equalIn_64s w d _ 25 4 l m (by kernel_rfl) (by kernel_rfl) (by kernel_rfl) hl hm
def cell64(w:World)(g i:Nat):BitVec 64:=match w.cell? ⟨g,i,none⟩with|some (.int .u64 n)=>BitVec.ofInt 64 n|_=>0#64
def five(w:World)(g:Nat):List (BitVec 64):=tab 5 (cell64 w g)
theorem five_row {w:World}{g:Nat}{t:TypeId}{v:List (BitVec 64)}(h:Row w g t (v.map v64))(hv:v.length=5):five w g=v:=nth_ext (by rw [five,tab_length,hv]) fun i hi=>by
 rw [five,tab_length]at hi
 rw [five,nth_tab hi,cell64,row_cell h,map64_at v (by omega)]
 show BitVec.ofInt 64 ((nth v i).toNat:Int)=_
 rw [BitVec.ofInt_natCast,BitVec.ofNat_toNat,BitVec.setWidth_eq]
def dist3(v:List (BitVec 64)):Nat:=if carL v=v then 0 else if carL (carL v)=carL v then 1 else if carL (carL (carL v))=carL (carL v)then 2 else 3
theorem dist3_less(v:List (BitVec 64))(h:carL v≠v)(h3:carL (carL (carL (carL v)))=carL (carL (carL v))):dist3 (carL v)<dist3 v:=by
 by_cases h1:carL (carL v)=carL v
 · rw [dist3,if_pos h1,dist3,if_neg h,if_pos h1];omega
 · by_cases h2:carL (carL (carL v))=carL (carL v)
   · rw [dist3,if_neg h1,if_pos h2,dist3,if_neg h,if_neg h1,if_pos h2];omega
   · rw [dist3,if_neg h1,if_neg h2,if_pos h3,dist3,if_neg h,if_neg h1,if_neg h2];omega
theorem tidy_any(l:List (BitVec 64))(hl:Low60 l)(w0:World):Gives Tryz.prog 202 #[P64 l] w0 (P32 (tidL l)):=by
 unfold Gives
 have hm:=Own.start w0
 have CC:=hid fun (x:List (BitVec 64))(hx:x.length=5)(w:World)=>carried_any x hx w
 have LI:=hid fun k=>(show(itL l k).length=5 from by rw [itL_length];exact hl.1)
 have EI:=hid fun k=>(show itL l (k+1)=carL (itL l k)from rfl)
 have EE:=hid fun k=>itL_end l hl k
 have I0:Hid (itL l 0=l):=hid rfl
 have HLOW:=hid hl
 have h1:=Nat.le_of_eq hl.1
 have h2:=Nat.le_of_eq hl.1.symm
 clear hl
 go_enter Tryz.func202,Tryz.ntmps202
 go_wp2_with (first|((first|((with_reducible show qAl);refine zG hm ?_)|((with_reducible show qBx);refine zH hm ?_));clear hm;(first|(have hx_:=g1;clear hx_;(first|(have hx_:=g2;clear hx_;(first|(have hx_:=g3;clear hx_;(first|(have hx_:=g4;clear hx_;intro gx_)|intro g4))|intro g3))|intro g2))|intro g1);intro w hm))
 refine wp_scope_goto 0 (fun a_ w_=>∃(k:Nat)(u3 u4 u5 u6 u7 u8 u9 u10 u11 u12 u13 u14 u15 u16 u17 u18 u19 u20 u21 u22 u23 u24 u25 u26 u27 u28 u29 u30 u31 u32 u33 u34 u35 u36:Value),a_={tmps:= #[(P64 l),(.pointer (some ⟨g1,0,none⟩)),(.pointer (some ⟨g2,0,none⟩)),u3,u4,u5,u6,u7,u8,u9,u10,u11,u12,u13,u14,u15,u16,u17,u18,u19,u20,u21,u22,u23,u24,u25,u26,u27,u28,u29,u30,u31,u32,u33,u34,u35,u36],defers:=[]}∧Own w0 w_ [⟨g2,276,(zer (n:=32) 5).map v32⟩,⟨g1,285,(itL l k).map v64⟩]) (fun _ w_=>dist3 (five w_ g1)) rfl ?_ ?_
 · clear hm
   rintro a' w ⟨k,u3,u4,u5,u6,u7,u8,u9,u10,u11,u12,u13,u14,u15,u16,u17,u18,u19,u20,u21,u22,u23,u24,u25,u26,u27,u28,u29,u30,u31,u32,u33,u34,u35,u36,rfl,hm⟩
   have lK:=LI.out k
   have lK2:=carL_length (itL l k)
   rw [lK]at lK2
   have EK:=hid (EI.out k)
   have EF:=hid (EE.out k)
   have ED:=hid (show carL (itL l k)≠itL l k→dist3 (carL (itL l k))<dist3 (itL l k)from fun h=>dist3_less _ h (by
     have h3:=itL_stay l 3 (k+1) (itL_fix l HLOW.out)
     have h4:=itL_stay l 3 k (itL_fix l HLOW.out)
     show itL l (k+4)=itL l (k+3)
     rw [show k+4=3+(k+1)from by omega,show k+3=3+k from by omega,h3,h4]))
   have FM:=hid (five_row (hm.row (.tl .hd)) lK)
   generalize itL l k=V at*
   have hv1:=Nat.le_of_eq lK
   have hv2:=Nat.le_of_eq lK.symm
   have C1:=hid fun w=>CC.out V lK w
   generalize hC:carL V=C at*
   have hc1:=Nat.le_of_eq lK2
   have hc2:=Nat.le_of_eq lK2.symm
   by_cases hne:C=V
   · subst hne
     have e1:(C==C)=true:=by simp
     have ld:(C.drop 1).length=4:=by rw [List.length_drop,lK2]
     have lm:mk4.length=4:=rfl
     have DR:Hid (((C.map v64).drop 1).take 4=(C.drop 1).map v64):=hid (by rw [List.take_of_length_le (by rw [List.length_drop,List.length_map];omega),List.map_drop])
     have BM:Hid (∀w:World,(Instr.build 281 #[(0, .int .u64 67108863),(1, .int .u64 67108863),(2, .int .u64 67108863),(3, .int .u64 67108863)]).run Tryz.prog w= .ok (P64 mk4) w):=hid fun w=>by kernel_rfl
     have BX:Hid (∀(x:BitVec 64)(w:World),(Instr.build 285 #[(0,v64 x)]).run Tryz.prog w= .ok (P64 (setN (zer 5) 0 x)) w):=hid fun x w=>by kernel_rfl
     have RL:=hid (show redL C=if (C.drop 1==mk4)=true∧67108858<(nth C 0).toNat then setN (zer 5) 0 (nth C 0-67108859#64)else C from rfl)
     have TL:=hid (show tidL l=tab 5 fun i=>(nth (redL C) i).setWidth 32 from by rw [tidL,←EF.out rfl])
     have EQ:=hid fun (d:Nat)(w:World)=>(show(Op.equalIn (d+2) 281 (.agg ((C.drop 1).map v64).toArray) (.agg #[.int .u64 67108863, .int .u64 67108863, .int .u64 67108863, .int .u64 67108863])).run Tryz.prog w= .ok (C.drop 1==mk4) w from eql4l d (C.drop 1) mk4 w ld lm)
     generalize mk4=M4 at*
     generalize C.drop 1=D at*
     have eq4:=fun w=>EQ.out 9998 w
     have bm:=BM.out
     have bx:=BX.out
     have aa:∀(g:Nat)(w:World),(Instr.arrayAt 281 (.slice (some ⟨g,1,none⟩) 4 4)).run Tryz.prog w= .ok (.pointer (some ⟨g,1,none⟩)) w:=fun g w=>by kernel_rfl
     have dl1:=Nat.le_of_eq ld
     have dl2:=Nat.le_of_eq ld.symm
     by_cases hb1:(D==M4)=true
     · by_cases hb2:67108858<(nth C 0).toNat
       · have hb3:(67108858:Int)<((nth C 0).toNat:Int):=by omega
         have hb4:decide ((67108858:Int)<((nth C 0).toNat:Int))=true:=decide_eq_true hb3
         go_wp2_with (first|(go_at_call 207;(with_reducible refine(C1.out _).mono ?_);rintro e_ w ⟨rfl,hx_⟩;replace hm:=hm.ext hx_;clear hx_)|((with_reducible apply wq_ldN hm);exact rfl;infer_instance;exact rfl;(focus (repeat first|exact .hd|assumption|apply Has.tl);done);(exact DR.out);(exact(by rw [List.length_map];exact ld)))|((with_reducible show wpList _ _ _ (Oper.mk _ (Op.store 285 (Operand.tmp 1) (Operand.tmp 25)) _ _ _ _::_) _ _);(with_reducible apply wq_stW (cs':=(setN (zer 5) 0 (nth C 0-67108859#64)).map v64) hm);exact rfl;infer_instance;exact rfl;exact rfl;(focus ((repeat (first|exact .hd|apply Swap.tl));done));exact rfl;(exact(by rw [List.length_map];exact lK2));(exact one_map _);clear hm;intro w hm)|((with_reducible show qLd);first|(refine zA hm ?_)|(refine zB hm ?_))|((with_reducible show qSt);refine zE hm ?_;clear hm;intro w hm)|(((with_reducible show qAl);refine zG hm ?_);clear hm;(first|(have hx_:=g1;clear hx_;(first|(have hx_:=g2;clear hx_;(first|(have hx_:=g3;clear hx_;(first|(have hx_:=g4;clear hx_;intro gx_)|intro g4))|intro g3))|intro g2))|intro g1);intro w hm))
         have HX:Hid (redL C=setN (zer 5) 0 (nth C 0-67108859#64)):=hid (by rw [RL.out];rw [if_pos ⟨hb1,hb2⟩])
         have lX:(setN (zer 5) 0 (nth C 0-67108859#64)).length=5:=by first|exact lK2|rw [setN_length,zer_length]
         replace hm:Own w0 w [⟨g4,276,(zer (n:=32) 5).map v32⟩,⟨g3,285,C.map v64⟩,⟨g2,276,(zer (n:=32) 5).map v32⟩,⟨g1,285,(setN (zer 5) 0 (nth C 0-67108859#64)).map v64⟩]:=hm
         rw [HX.out]at TL
         clear HX RL
         generalize setN (zer 5) 0 (nth C 0-67108859#64)=X at*
         have xl1:=Nat.le_of_eq lX
         have xl2:=Nat.le_of_eq lX.symm
         go_loopw [26] (fun i wr=>∃j:Nat,j≤5∧i= .int .i64 j∧Own w0 wr [⟨g4,276,(part (n:=32) 5 j (fun i=>(nth X i).setWidth 32) fun _=>0).map v32⟩,⟨g3,285,C.map v64⟩,⟨g2,276,(zer (n:=32) 5).map v32⟩,⟨g1,285,X.map v64⟩]) (fun i _=>5-(intOf i).toNat)
         case atStart=>exact⟨0,by omega,rfl,by rw [←zer_start];exact hm⟩
         case round=>
           obtain⟨j,hj,rfl,hm⟩:=hrel
           by_cases hlj:j<5
           · have hd:decide ((j:Int)<5)=true:=decide_eq_true (by omega)
             have hd2:(j:Int)<5:=by omega
             go_wp2_with (first|((with_reducible show qLd);refine zA hm ?_)|((with_reducible show qSt);refine zD hm ?_;clear hm;intro w hm))
             go_roundw
             case rel=>
               rw [part_set' hlj rfl]at hm
               exact⟨j+1,by omega,by go_num,hm⟩
             case measure=>simp [intOf]<;>omega
           · obtain rfl:j=5:=by omega
             have hd:decide (((5:Nat):Int)<5)=false:=decide_eq_false (by omega)
             rw [part_all]at hm
             have lT:(tab (n:=32) 5 fun i=>(nth X i).setWidth 32).length=5:=tab_length
             go_wp2_with (first|((with_reducible show qLd);refine zB hm ?_)|((with_reducible show qSt);refine zE hm ?_;clear hm;intro w hm))
             simp only [Exit.jump]
             refine rtO hm rfl rfl ⟨by rw [TL.out],hm.x⟩
       · have hb3:¬(67108858:Int)<((nth C 0).toNat:Int):=by omega
         have hb4:decide ((67108858:Int)<((nth C 0).toNat:Int))=false:=decide_eq_false hb3
         go_wp2_with (first|(go_at_call 207;(with_reducible refine(C1.out _).mono ?_);rintro e_ w ⟨rfl,hx_⟩;replace hm:=hm.ext hx_;clear hx_)|((with_reducible apply wq_ldN hm);exact rfl;infer_instance;exact rfl;(focus (repeat first|exact .hd|assumption|apply Has.tl);done);(exact DR.out);(exact(by rw [List.length_map];exact ld)))|((with_reducible show qLd);first|(refine zA hm ?_)|(refine zB hm ?_))|((with_reducible show qSt);refine zE hm ?_;clear hm;intro w hm)|(((with_reducible show qAl);refine zG hm ?_);clear hm;(first|(have hx_:=g1;clear hx_;(first|(have hx_:=g2;clear hx_;(first|(have hx_:=g3;clear hx_;(first|(have hx_:=g4;clear hx_;intro gx_)|intro g4))|intro g3))|intro g2))|intro g1);intro w hm))
         have HX:Hid (redL C=C):=hid (by rw [RL.out];rw [if_neg (fun h=>hb2 h.2)])
         have lX:(C).length=5:=by first|exact lK2|rw [setN_length,zer_length]
         replace hm:Own w0 w [⟨g4,276,(zer (n:=32) 5).map v32⟩,⟨g3,285,C.map v64⟩,⟨g2,276,(zer (n:=32) 5).map v32⟩,⟨g1,285,C.map v64⟩]:=hm
         rw [HX.out]at TL
         clear HX RL
         obtain⟨X,hX⟩:∃X,X=C:=⟨_,rfl⟩
         replace hm:Own w0 w [⟨g4,276,(zer (n:=32) 5).map v32⟩,⟨g3,285,C.map v64⟩,⟨g2,276,(zer (n:=32) 5).map v32⟩,⟨g1,285,X.map v64⟩]:=by rw [hX];exact hm
         rw [←hX]at TL lX
         clear hX
         have xl1:=Nat.le_of_eq lX
         have xl2:=Nat.le_of_eq lX.symm
         go_loopw [26] (fun i wr=>∃j:Nat,j≤5∧i= .int .i64 j∧Own w0 wr [⟨g4,276,(part (n:=32) 5 j (fun i=>(nth X i).setWidth 32) fun _=>0).map v32⟩,⟨g3,285,C.map v64⟩,⟨g2,276,(zer (n:=32) 5).map v32⟩,⟨g1,285,X.map v64⟩]) (fun i _=>5-(intOf i).toNat)
         case atStart=>exact⟨0,by omega,rfl,by rw [←zer_start];exact hm⟩
         case round=>
           obtain⟨j,hj,rfl,hm⟩:=hrel
           by_cases hlj:j<5
           · have hd:decide ((j:Int)<5)=true:=decide_eq_true (by omega)
             have hd2:(j:Int)<5:=by omega
             go_wp2_with (first|((with_reducible show qLd);refine zA hm ?_)|((with_reducible show qSt);refine zD hm ?_;clear hm;intro w hm))
             go_roundw
             case rel=>
               rw [part_set' hlj rfl]at hm
               exact⟨j+1,by omega,by go_num,hm⟩
             case measure=>simp [intOf]<;>omega
           · obtain rfl:j=5:=by omega
             have hd:decide (((5:Nat):Int)<5)=false:=decide_eq_false (by omega)
             rw [part_all]at hm
             have lT:(tab (n:=32) 5 fun i=>(nth X i).setWidth 32).length=5:=tab_length
             go_wp2_with (first|((with_reducible show qLd);refine zB hm ?_)|((with_reducible show qSt);refine zE hm ?_;clear hm;intro w hm))
             simp only [Exit.jump]
             refine rtO hm rfl rfl ⟨by rw [TL.out],hm.x⟩
     · have hb5:(D==M4)=false:=by cases h:D==M4<;>simp_all
       go_wp2_with (first|(go_at_call 207;(with_reducible refine(C1.out _).mono ?_);rintro e_ w ⟨rfl,hx_⟩;replace hm:=hm.ext hx_;clear hx_)|((with_reducible apply wq_ldN hm);exact rfl;infer_instance;exact rfl;(focus (repeat first|exact .hd|assumption|apply Has.tl);done);(exact DR.out);(exact(by rw [List.length_map];exact ld)))|((with_reducible show qLd);refine zB hm ?_)|((with_reducible show qSt);refine zE hm ?_;clear hm;intro w hm)|(((with_reducible show qAl);refine zG hm ?_);clear hm;(first|(have hx_:=g1;clear hx_;(first|(have hx_:=g2;clear hx_;(first|(have hx_:=g3;clear hx_;(first|(have hx_:=g4;clear hx_;intro gx_)|intro g4))|intro g3))|intro g2))|intro g1);intro w hm))
       have HX:Hid (redL C=C):=hid (by rw [RL.out];rw [if_neg (fun h=>hb1 h.1)])
       have lX:(C).length=5:=by first|exact lK2|rw [setN_length,zer_length]
       replace hm:Own w0 w [⟨g4,276,(zer (n:=32) 5).map v32⟩,⟨g3,285,C.map v64⟩,⟨g2,276,(zer (n:=32) 5).map v32⟩,⟨g1,285,C.map v64⟩]:=hm
       rw [HX.out]at TL
       clear HX RL
       obtain⟨X,hX⟩:∃X,X=C:=⟨_,rfl⟩
       replace hm:Own w0 w [⟨g4,276,(zer (n:=32) 5).map v32⟩,⟨g3,285,C.map v64⟩,⟨g2,276,(zer (n:=32) 5).map v32⟩,⟨g1,285,X.map v64⟩]:=by rw [hX];exact hm
       rw [←hX]at TL lX
       clear hX
       have xl1:=Nat.le_of_eq lX
       have xl2:=Nat.le_of_eq lX.symm
       go_loopw [26] (fun i wr=>∃j:Nat,j≤5∧i= .int .i64 j∧Own w0 wr [⟨g4,276,(part (n:=32) 5 j (fun i=>(nth X i).setWidth 32) fun _=>0).map v32⟩,⟨g3,285,C.map v64⟩,⟨g2,276,(zer (n:=32) 5).map v32⟩,⟨g1,285,X.map v64⟩]) (fun i _=>5-(intOf i).toNat)
       case atStart=>exact⟨0,by omega,rfl,by rw [←zer_start];exact hm⟩
       case round=>
         obtain⟨j,hj,rfl,hm⟩:=hrel
         by_cases hlj:j<5
         · have hd:decide ((j:Int)<5)=true:=decide_eq_true (by omega)
           have hd2:(j:Int)<5:=by omega
           go_wp2_with (first|((with_reducible show qLd);refine zA hm ?_)|((with_reducible show qSt);refine zD hm ?_;clear hm;intro w hm))
           go_roundw
           case rel=>
             rw [part_set' hlj rfl]at hm
             exact⟨j+1,by omega,by go_num,hm⟩
           case measure=>simp [intOf]<;>omega
         · obtain rfl:j=5:=by omega
           have hd:decide (((5:Nat):Int)<5)=false:=decide_eq_false (by omega)
           rw [part_all]at hm
           have lT:(tab (n:=32) 5 fun i=>(nth X i).setWidth 32).length=5:=tab_length
           go_wp2_with (first|((with_reducible show qLd);refine zB hm ?_)|((with_reducible show qSt);refine zE hm ?_;clear hm;intro w hm))
           simp only [Exit.jump]
           refine rtO hm rfl rfl ⟨by rw [TL.out],hm.x⟩
   · have e1:(C==V)=false:=by rw [beq_eq_false_iff_ne];exact hne
     go_wp2_with (first|(go_at_call 207;(with_reducible refine(C1.out _).mono ?_);rintro e_ w ⟨rfl,hx_⟩;replace hm:=hm.ext hx_;clear hx_)|((with_reducible show qLd);refine zB hm ?_)|((with_reducible show qSt);refine zE hm ?_;clear hm;intro w hm)|(((with_reducible show qAl);refine zG hm ?_);clear hm;(first|(have hx_:=g1;clear hx_;(first|(have hx_:=g2;clear hx_;(first|(have hx_:=g3;clear hx_;(first|(have hx_:=g4;clear hx_;intro gx_)|intro g4))|intro g3))|intro g2))|intro g1);intro w hm))
     go_step3
     exact⟨rfl,⟨_,_,_,_,_,_,_,_,_,_,_,_,_,_,_,_,_,_,_,_,_,_,_,_,_,_,_,_,_,_,_,_,_,_,_,rfl,(by show Own w0 w [⟨g2,276,(zer (n:=32) 5).map v32⟩,⟨g1,285,(itL l (k+1)).map v64⟩];rw [EK.out];exact hm.drop)⟩,by rw [five_row (hm.row (.tl (.tl .hd))) lK2,FM.out];exact ED.out hne⟩
 · intro hp
   go_wp2_with fail
   go_step3
   rename_i hK
   exact hK _ _ (hp _ _ ⟨_,_,_,_,_,_,_,_,_,_,_,_,_,_,_,_,_,_,_,_,_,_,_,_,_,_,_,_,_,_,_,_,_,_,_,rfl,(by rw [←I0.out]at hm;exact hm)⟩)
theorem wide32(x:BitVec 32):(x.setWidth 64).toNat<4294967296:=by
 rw [BitVec.toNat_setWidth,Nat.mod_eq_of_lt (Nat.lt_of_lt_of_le x.isLt (by decide))];exact x.isLt
theorem looL_low(l:List (BitVec 32)):Low60 (looL l):=⟨looL_length l,fun i=>by
 by_cases hi:i<5
 · rw [looL,nth_tab hi];have:=wide32 (nth l i);omega
 · rw [nth_ge (by rw [looL_length];omega)];decide⟩
def frmL(l:List (BitVec 32)):List (BitVec 32):=tidL (looL l)
theorem frmL_length(l:List (BitVec 32)):(frmL l).length=5:=tidL_length _
theorem pform_any(l:List (BitVec 32))(hl:l.length=5)(w0:World):Gives Tryz.prog 209 #[P32 l] w0 (P32 (frmL l)):=by
 unfold Gives
 have hm:=Own.start w0
 have C1:=hid fun w=>ploose_any l hl w
 have C2:=hid fun w=>(show Gives Tryz.prog 202 #[P64 (looL l)] w (P32 (frmL l))from tidy_any (looL l) (looL_low l) w)
 have lF:=frmL_length l
 generalize frmL l=F at*
 generalize looL l=L at*
 have h1:=Nat.le_of_eq hl
 have h2:=Nat.le_of_eq hl.symm
 have h3:=Nat.le_of_eq lF
 have h4:=Nat.le_of_eq lF.symm
 clear hl
 go_enter Tryz.func209,Tryz.ntmps209
 go_wp2_with (first|(go_at_call 208;(with_reducible refine(C1.out _).mono ?_);rintro e_ w ⟨rfl,hx_⟩;replace hm:=hm.ext hx_;clear hx_)|(go_at_call 202;(with_reducible refine(C2.out _).mono ?_);rintro e_ w ⟨rfl,hx_⟩;replace hm:=hm.ext hx_;clear hx_)|((with_reducible show qLd);refine zB hm ?_)|((with_reducible show qSt);refine zE hm ?_;clear hm;intro w hm)|((first|((with_reducible show qAl);refine zG hm ?_)|((with_reducible show qBx);refine zH hm ?_));clear hm;intro gx_;intro w hm))
 refine rtO hm rfl rfl ⟨rfl,hm.x⟩
def ofP(lo hi:BitVec 64)(h:BitVec 32):List (BitVec 64):=[lo&&&67108863#64,(lo>>>26)&&&67108863#64,((lo>>>52)|||(hi<<<12))&&&67108863#64,(hi>>>14)&&&67108863#64,(hi>>>40)|||((h.setWidth 64)<<<24)]
theorem ofP_low(lo hi:BitVec 64)(h:BitVec 32):Low60 (ofP lo hi h):=low_of _ rfl (by
 have m:∀x:BitVec 64,(x&&&67108863#64).toNat<67108864:=fun x=>by rw [toNat_m26];exact Nat.mod_lt _ (by decide)
 have e1:(hi>>>40).toNat<2^56:=by rw [BitVec.toNat_ushiftRight,Nat.shiftRight_eq_div_pow];have:=hi.isLt;omega
 have e2:((h.setWidth 64)<<<24).toNat<2^56:=by
   rw [BitVec.toNat_shiftLeft,Nat.shiftLeft_eq]
   have:=wide32 h
   exact Nat.lt_of_le_of_lt (Nat.mod_le _ _) (by omega)
 have e3:((hi>>>40)|||((h.setWidth 64)<<<24)).toNat<2^56:=by rw [BitVec.toNat_or];exact Nat.or_lt_two_pow e1 e2
 refine⟨?_, ?_, ?_, ?_, ?_⟩
 · exact Nat.lt_of_lt_of_le (m lo) (by decide)
 · exact Nat.lt_of_lt_of_le (m (lo>>>26)) (by decide)
 · exact Nat.lt_of_lt_of_le (m ((lo>>>52)|||(hi<<<12))) (by decide)
 · exact Nat.lt_of_lt_of_le (m (hi>>>14)) (by decide)
 · exact Nat.lt_of_lt_of_le e3 (by decide))
def ofL(b:List Byte)(h:BitVec 32):List (BitVec 32):=tidL (ofP (num b 0 8) (num b 8 8) h)
theorem ofL_length(b:List Byte)(h:BitVec 32):(ofL b h).length=5:=tidL_length _
theorem pof_any(b:List Byte)(hb:b.length=16)(h:BitVec 32)(w0:World):Gives Tryz.prog 197 #[A8 b,v32 h] w0 (P32 (ofL b h)):=by
 unfold Gives
 have hm:=Own.start w0
 have L1:=hid fun (w:World)(p:Option Addr)(c:Nat)(hr:RdB w p b)=>show Gives Tryz.prog 183 #[.slice p 16 c] w (WV (num b 0 8) (num b 8 8))from by
   have:=load_any b p c w hr (by omega);rwa [hb]at this
 have C2:=hid fun w=>(show Gives Tryz.prog 202 #[P64 (ofP (num b 0 8) (num b 8 8) h)] w (P32 (ofL b h))from tidy_any _ (ofP_low _ _ h) w)
 have B5:=hid fun (a b c d e:BitVec 64)(w:World)=>(show(Instr.build 285 #[(0,v64 a),(1,v64 b),(2,v64 c),(3,v64 d),(4,v64 e)]).run Tryz.prog w= .ok (P64 [a,b,c,d,e]) w from by kernel_rfl)
 have lF:=ofL_length b h
 generalize ofL b h=F at*
 generalize num b 0 8=lo at*
 generalize num b 8 8=hi at*
 have h1:=Nat.le_of_eq hb
 have h2:=Nat.le_of_eq hb.symm
 have h3:=Nat.le_of_eq lF
 have h4:=Nat.le_of_eq lF.symm
 clear hb
 have b5:=B5.out
 go_enter Tryz.func197,Tryz.ntmps197
 go_wp2_with (first|(go_at_call 183;(with_reducible refine(L1.out _ _ _ (hm.rdB (g:=g1) (l:=b) (by repeat (first|exact Has.hd|assumption|apply Has.tl)))).mono ?_);rintro e_ w ⟨rfl,hx_⟩;replace hm:=hm.ext hx_;clear hx_)|((with_reducible show qLd);refine zC hm ?_)|((with_reducible show qSt);refine zE hm ?_;clear hm;intro w hm)|((first|((with_reducible show qAl);refine zG hm ?_)|((with_reducible show qBx);refine zH hm ?_));clear hm;(first|(have hx_:=g1;clear hx_;intro gx_)|intro g1);intro w hm))
 refine(C2.out _).mono ?_
 rintro e_ w ⟨rfl,hx_⟩
 replace hm:=hm.ext hx_
 clear hx_
 go_wp2_with (first|((with_reducible show qSt);refine zE hm ?_;clear hm;intro w hm))
 refine rtO hm rfl rfl ⟨rfl,hm.x⟩
def sumP(a b:List (BitVec 32)):List (BitVec 64):=tab 5 fun i=>nth (looL a) i+(nth b i).setWidth 64
theorem sumP_low(a b:List (BitVec 32)):Low60 (sumP a b):=⟨tab_length,fun i=>by
 by_cases hi:i<5
 · rw [sumP,nth_tab hi,looL,nth_tab hi]
   have h1:=wide32 (nth a i)
   have h2:=wide32 (nth b i)
   rw [toNat_ad _ _ (by omega)];omega
 · rw [nth_ge (by rw [sumP,tab_length];omega)];decide⟩
def plsL(a b:List (BitVec 32)):List (BitVec 32):=tidL (sumP a b)
theorem plsL_length(a b:List (BitVec 32)):(plsL a b).length=5:=tidL_length _
theorem pplus_any(a b:List (BitVec 32))(ha:a.length=5)(hb:b.length=5)(w0:World):Gives Tryz.prog 203 #[P32 a,P32 b] w0 (P32 (plsL a b)):=by
 unfold Gives
 have hm:=Own.start w0
 have C1:=hid fun w=>ploose_any a ha w
 have C2:=hid fun w=>(show Gives Tryz.prog 202 #[P64 (sumP a b)] w (P32 (plsL a b))from tidy_any _ (sumP_low a b) w)
 have SP:Hid (sumP a b=part 5 5 (fun i=>nth (looL a) i+(nth b i).setWidth 64) (nth (looL a))):=hid part_all.symm
 have SZ:Hid (looL a=part 5 0 (fun i=>nth (looL a) i+(nth b i).setWidth 64) (nth (looL a))):=hid (part_start (looL_length a))
 have lS:=(sumP_low a b).1
 have lA:=looL_length a
 have lF:=plsL_length a b
 generalize plsL a b=F at*
 generalize looL a=A at*
 generalize sumP a b=S at*
 have h1:=Nat.le_of_eq ha
 have h2:=Nat.le_of_eq ha.symm
 have h3:=Nat.le_of_eq hb
 have h4:=Nat.le_of_eq hb.symm
 have h5:=Nat.le_of_eq lA
 have h6:=Nat.le_of_eq lA.symm
 have h7:=Nat.le_of_eq lF
 have h8:=Nat.le_of_eq lF.symm
 have h9:=Nat.le_of_eq lS
 have h10:=Nat.le_of_eq lS.symm
 clear ha hb
 go_enter Tryz.func203,Tryz.ntmps203
 go_wp2_with (first|(go_at_call 208;(with_reducible refine(C1.out _).mono ?_);rintro e_ w ⟨rfl,hx_⟩;replace hm:=hm.ext hx_;clear hx_)|((with_reducible show qLd);refine zB hm ?_)|((with_reducible show qSt);refine zE hm ?_;clear hm;intro w hm)|((first|((with_reducible show qAl);refine zG hm ?_)|((with_reducible show qBx);refine zH hm ?_));clear hm;(first|(have hx_:=g1;clear hx_;(first|(have hx_:=g2;clear hx_;(first|(have hx_:=g3;clear hx_;(first|(have hx_:=g4;clear hx_;intro gx_)|intro g4))|intro g3))|intro g2))|intro g1);intro w hm))
 go_loopw [9] (fun i wr=>∃k:Nat,k≤5∧i= .int .i64 k∧Own w0 wr [⟨g4,285,(part 5 k (fun i=>nth A i+(nth b i).setWidth 64) (nth A)).map v64⟩,⟨g3,276,(zer (n:=32) 5).map v32⟩,⟨g2,276,b.map v32⟩,⟨g1,276,a.map v32⟩]) (fun i _=>5-(intOf i).toNat)
 case atStart=>exact⟨0,by omega,rfl,by rw [←SZ.out];exact hm⟩
 case round =>
   obtain⟨k,hk,rfl,hm⟩:=hrel
   by_cases hlt:k<5
   · have hd:decide ((k:Int)<5)=true:=decide_eq_true (by omega)
     have hd2:(k:Int)<5:=by omega
     have PK:Hid (setN (part 5 k (fun i=>nth A i+(nth b i).setWidth 64) (nth A)) k (nth (part 5 k (fun i=>nth A i+(nth b i).setWidth 64) (nth A)) k+(nth b k).setWidth 64)=part 5 (k+1) (fun i=>nth A i+(nth b i).setWidth 64) (nth A)):=hid (by
       rw [nth_part_ge hlt (Nat.le_refl _)];exact part_set' hlt rfl)
     have lP:(part 5 k (fun i=>nth A i+(nth b i).setWidth 64) (nth A)).length=5:=part_length
     generalize part 5 k (fun i=>nth A i+(nth b i).setWidth 64) (nth A)=V at*
     go_wp2_with fail
     refine rgE 9 24 ?_
     simp only [zTa]
     repeat (first
         | (apply walk_is rfl rfl rfl
            · (intro wx hwx;first|((with_reducible show qGl);exact zJ (hm.ext hwx))|(go_simp;(try go_bits);first|exact gives_same|exact gives_skip))
            · (simp only [zPu];rfl))
         | (apply walk_not rfl rfl rfl
            · (simp only [zPu];rfl)))
     intro wz hwz
     simp only [zZi]
     repeat (first|rw [fin_is]|(rw [fin_cons];intro _ _))
     rw [fin_nil]
     try (replace hm:=hm.ext hwz)
     simp only [zPu]
     go_wp2_with (first|((with_reducible show qSt);refine zD hm ?_;clear hm;intro w hm))
     go_roundw
     case rel=>
       rw [PK.out]at hm
       exact⟨k+1,by omega,by go_num,hm⟩
     case measure=>simp [intOf]<;>omega
   · obtain rfl:k=5:=by omega
     have hd:decide (((5:Nat):Int)<5)=false:=decide_eq_false (by omega)
     rw [←SP.out]at hm
     go_wp2_with (first|(go_at_call 202;(with_reducible refine(C2.out _).mono ?_);rintro e_ w ⟨rfl,hx_⟩;replace hm:=hm.ext hx_;clear hx_)|((with_reducible show qLd);refine zB hm ?_)|((with_reducible show qSt);refine zE hm ?_;clear hm;intro w hm))
     refine rtO hm rfl rfl ⟨rfl,hm.x⟩
end Go.Proofs.YtneacgpmjlocjaaGreatDoor
