/-
  Texts of the program, walked, and plain ones. Conditions: those written in each theorem.
-/
import Derived.Test.YtneacgpmjlocjaaGreatDoorZTopWrapped0
import Derived.Test.YtneacgpmjlocjaaGreatDoorZTopWrapped18
import Derived.Test.YtneacgpmjlocjaaGreatDoorZTopWrapped9
import Derived.Test.YtneacgpmjlocjaaGreatDoorZTopWrapped3
import Derived.RangeFuncNested
import Derived.RangeFuncBound
import Derived.RangeFuncCalls
import Derived.RangeFuncLeaves
import Derived.OrdersIn
import Derived.Test.YtneacgpmjlocjaaGreatDoorZTopWrapped8
import Derived.Shelf.Abstract
import Derived.WalkKit
import Derived.OwnWalkIn
import Derived.TacticsInMore
import Derived.LoopNIn
import Derived.LoopIn
set_option linter.unusedSimpArgs false
set_option linter.unusedVariables false
set_option maxHeartbeats 16000000
open Go.Lib (hid)
namespace Go.Proofs.YtneacgpmjlocjaaGreatDoor
open Go Go.RowKit
set_option maxRecDepth 100000
theorem zeros_part(n:Nat)(f:Nat→Byte):zeros n=part n 0 f (fun _=>0#8):=nth_ext (by rw [zeros_length,part_length]) fun i hi=>by
 rw [zeros_length]at hi
 rw [nth_part_ge hi (Nat.zero_le _)]
 simp [zeros,nth,hi]
theorem nib_even(b:List Byte)(k q:Nat)(hq:k=2*q):nibL b k=(nth b q>>>4)&&&15#8:=by
 subst hq
 rw [nibL,show 2*q/2=q by omega,show 2*q%2=0 by omega]
theorem nib_odd(b:List Byte)(k q:Nat)(hq:k=2*q+1):nibL b k=nth b q&&&15#8:=by
 subst hq
 rw [nibL,show(2*q+1)/2=q by omega,show(2*q+1)%2=1 by omega]
 show(nth b q>>>0)&&&15#8=_
 rw [BitVec.ushiftRight_zero]
theorem halves_new(l:List Byte)(p:Option Addr)(c:Nat)(fb n fc k B:Nat)(hn:FlIn fb n B (2*l.length))(hk:FlIn fc k B (2*l.length))(h:n+k≤2*l.length)(hl:l.length≤1000)(w0:World)(hr:RdB w0 p l):
   Calls Tryz.prog 135 #[.slice p l.length c, .complex .f64 fb fc] w0 fun e w'=>∃g,e= .returned (.tuple #[.slice (some ⟨g,0,none⟩) k k, .bool true])∧Own w0 w' [⟨g,5,(halvesL l n k).map v8⟩]:=by
 have hm:=Own.start w0
 have W1:=hid fun w=>show Calls Tryz.prog 148 #[.complex .f64 fb fc, .int .i64 (2*(l.length:Int))] w fun e w'=>e= .returned (.tuple #[.int .i64 (n:Int), .int .i64 (k:Int), .bool true])∧Ext w w' from by
   have:=whole_any fb n fc k B (2*l.length) hn hk h (by omega) w
   rwa [show((2*l.length:Nat):Int)=2*(l.length:Int)by omega]at this
 have b1:2*(l.length:Int)≤9223372036854775807:=by omega
 have HR:=hid hr
 have EZ:=hid (zeros_part k fun i=>nibL l (n+i))
 have EE:Hid (part k k (fun i=>nibL l (n+i)) (fun _=>0#8)=halvesL l n k):=hid part_all
 clear hn hk hr
 go_enter Tryz.func135,Tryz.ntmps135
 go_wp2_with (first|(go_at_call 148;(with_reducible refine(W1.out _).mono ?_);rintro e_ w ⟨rfl,hx_⟩;replace hm:=hm.ext hx_;clear hx_)|((with_reducible apply wq_mkR k k hm);exact rfl;exact rfl;exact rfl;exact rfl;(focus omega);(focus omega);(focus omega);clear hm;intro g1 w hm))
 rw [EZ.out]at hm
 go_loopw [27] (fun i wr=>∃j:Nat,j≤k∧i= .int .i64 j∧Own w0 wr [⟨g1,5,(part k j (fun i=>nibL l (n+i)) (fun _=>0#8)).map v8⟩]) (fun i _=>k-(intOf i).toNat)
 case atStart=>exact⟨0,by omega,rfl,hm⟩
 case round=>
   obtain⟨j,hj,rfl,hm⟩:=hrel
   by_cases hlt:j<k
   · have hd:decide ((j:Int)<(k:Int))=true:=decide_eq_true (by omega)
     have hd2:(j:Int)<(k:Int):=by omega
     obtain⟨J,hJ⟩:∃J,J=n+j:=⟨_,rfl⟩
     obtain⟨q,hq⟩:∃q,q=J/2:=⟨_,rfl⟩
     have x1:(n:Int)+(j:Int)=(J:Int):=by omega
     have x2:(J:Int)/2=(q:Int):=by omega
     have x3:(J:Int).tdiv 2=(q:Int):=by rw [Int.tdiv_eq_ediv_of_nonneg (by omega)];exact x2
     have hc:=(HR.out.ext hm.x).at q (by omega)
     obtain⟨a,rfl⟩:=Option.isSome_iff_exists.1 (HR.out.1 (by omega))
     simp only [Option.getD_some]at hc
     rw [show l.getD q 0=nth l q from rfl]at hc
     have x4:q<l.length:=by omega
     have x5:(q:Int)<(l.length:Int):=by omega
     have EJ:Hid (setN (part k j (fun i=>nibL l (n+i)) (fun _=>0#8)) j (nibL l J)=part k (j+1) (fun i=>nibL l (n+i)) (fun _=>0#8)):=hid (by rw [hJ];exact part_set (f:=fun i=>nibL l (n+i)) hlt)
     have lJ:(part k j (fun i=>nibL l (n+i)) (fun _=>0#8)).length=k:=part_length
     generalize part k j (fun i=>nibL l (n+i)) (fun _=>0#8)=C at*
     rcases Nat.mod_two_eq_zero_or_one J with hp|hp
     · have y1:(J:Int)%2=0:=by omega
       have y2:(J:Int).tmod 2=0:=by rw [Int.tmod_eq_emod_of_nonneg (by omega)];exact y1
       have eN:=hid (nib_even l J q (by omega))
       clear hp hq hJ
       go_wp2_with (first|((with_reducible show qSt);refine zD hm ?_;clear hm;intro w hm))
       go_roundw
       case rel=>rw [←eN.out,EJ.out]at hm;exact⟨j+1,by omega,by go_num,hm⟩
       case measure=>simp [intOf]<;>omega
     · have y1:(J:Int)%2=1:=by omega
       have y2:(J:Int).tmod 2=1:=by rw [Int.tmod_eq_emod_of_nonneg (by omega)];exact y1
       have eN:=hid (nib_odd l J q (by omega))
       clear hp hq hJ
       go_wp2_with (first|((with_reducible show qSt);refine zD hm ?_;clear hm;intro w hm))
       go_roundw
       case rel=>rw [←eN.out,EJ.out]at hm;exact⟨j+1,by omega,by go_num,hm⟩
       case measure=>simp [intOf]<;>omega
   · obtain rfl:j=k:=by omega
     have hd:decide ((j:Int)<(j:Int))=false:=decide_eq_false (by omega)
     rw [EE.out]at hm
     go_wp2_with fail
     go_ret2
     exact⟨g1,rfl,hm⟩
def joinG(hs:List Byte)(i:Nat):List Byte:=tab ((hs.length+1)/2) fun q=>(if 2*q<i then(nth hs (2*q)&&&15#8)<<<4 else 0#8)|||(if 2*q+1<i then nth hs (2*q+1)&&&15#8 else 0#8)
theorem joinG_length(hs:List Byte)(i:Nat):(joinG hs i).length=(hs.length+1)/2:=tab_length
theorem joinG_zero(hs:List Byte):zeros ((hs.length+1)/2)=joinG hs 0:=nth_ext (by rw [zeros_length,joinG_length]) fun i hi=>by
 rw [zeros_length]at hi
 rw [joinG,nth_tab hi,if_neg (by omega),if_neg (by omega)]
 simp [zeros,nth,hi]
theorem joinG_all(hs:List Byte):joinG hs hs.length=joinN hs:=nth_ext (by rw [joinG_length,joinN_length]) fun i hi=>by
 rw [joinG_length]at hi
 rw [joinG,joinN,nth_tab hi,nth_tab hi,if_pos (by omega)]
 by_cases e:2*i+1<hs.length
 · rw [if_pos e]
 · rw [if_neg e,nth_ge (l:=hs) (i:=2*i+1) (by omega)];rfl
theorem joinG_even(hs:List Byte)(i q:Nat)(hi:i<hs.length)(hq:i=2*q):setN (joinG hs i) q (nth (joinG hs i) q|||((nth hs i&&&15#8)<<<4))=joinG hs (i+1):=nth_ext (by rw [setN_length,joinG_length,joinG_length]) fun j hj=>by
 rw [setN_length,joinG_length]at hj
 subst hq
 rw [nth_set (by rw [joinG_length];exact hj),joinG,joinG,nth_tab hj,nth_tab (by omega),nth_tab hj]
 by_cases e:q=j
 · subst e
   rw [if_pos rfl,if_neg (by omega),if_neg (by omega),if_pos (by omega),if_neg (by omega)]
   simp
 · rw [if_neg e]
   congr 1
   · by_cases h:2*j<2*q
     · rw [if_pos h,if_pos (by omega)]
     · rw [if_neg h,if_neg (by omega)]
   · by_cases h:2*j+1<2*q
     · rw [if_pos h,if_pos (by omega)]
     · rw [if_neg h,if_neg (by omega)]
theorem joinG_odd(hs:List Byte)(i q:Nat)(hi:i<hs.length)(hq:i=2*q+1):setN (joinG hs i) q (nth (joinG hs i) q|||(nth hs i&&&15#8))=joinG hs (i+1):=nth_ext (by rw [setN_length,joinG_length,joinG_length]) fun j hj=>by
 rw [setN_length,joinG_length]at hj
 subst hq
 rw [nth_set (by rw [joinG_length];exact hj),joinG,joinG,nth_tab hj,nth_tab (by omega),nth_tab hj]
 by_cases e:q=j
 · subst e
   rw [if_pos rfl,if_pos (by omega),if_neg (by omega),if_pos (by omega),if_pos (by omega)]
   simp
 · rw [if_neg e]
   congr 1
   · by_cases h:2*j<2*q+1
     · rw [if_pos h,if_pos (by omega)]
     · rw [if_neg h,if_neg (by omega)]
   · by_cases h:2*j+1<2*q+1
     · rw [if_pos h,if_pos (by omega)]
     · rw [if_neg h,if_neg (by omega)]
theorem join_new(l:List Byte)(p:Option Addr)(c:Nat)(hl:l.length≤1000)(w0:World)(hr:RdB w0 p l):
   Calls Tryz.prog 115 #[.slice p l.length c] w0 fun e w'=>∃g,e= .returned (.slice (some ⟨g,0,none⟩) ((l.length+1)/2) ((l.length+1)/2))∧Own w0 w' [⟨g,5,(joinN l).map v8⟩]:=by
 have hm:=Own.start w0
 have HR:=hid hr
 have EZ:=hid (joinG_zero l)
 have EA:=hid (joinG_all l)
 have E0:=hid (joinG_even l)
 have E1:=hid (joinG_odd l)
 have lG:=hid (joinG_length l)
 obtain⟨m,hm2⟩:∃m,m=(l.length+1)/2:=⟨_,rfl⟩
 have x1:((l.length:Int)+1)/2=(m:Int):=by omega
 have x2:((l.length:Int)+1).tdiv 2=(m:Int):=by rw [Int.tdiv_eq_ediv_of_nonneg (by omega)];exact x1
 rw [←hm2]at EZ lG⊢
 have HM:=hid hm2
 have m1:m≤1000:=by omega
 clear hr hm2
 go_enter Tryz.func115,Tryz.ntmps115
 go_wp2_with (first|((with_reducible apply wq_mkR m m hm);exact rfl;exact rfl;exact rfl;exact rfl;(focus omega);(focus omega);(focus omega);clear hm;intro g1 w hm))
 rw [EZ.out]at hm
 go_loopw [13] (fun i wr=>∃j:Nat,j≤l.length∧i= .int .i64 j∧Own w0 wr [⟨g1,5,(joinG l j).map v8⟩]) (fun i _=>l.length-(intOf i).toNat)
 case atStart=>exact⟨0,by omega,rfl,hm⟩
 case round=>
   obtain⟨j,hj,rfl,hm⟩:=hrel
   have lj:=lG.out j
   by_cases hlt:j<l.length
   · have hd:decide ((j:Int)<(l.length:Int))=true:=decide_eq_true (by omega)
     have hd2:(j:Int)<(l.length:Int):=by omega
     have hc:=(HR.out.ext hm.x).at j hlt
     obtain⟨a,rfl⟩:=Option.isSome_iff_exists.1 (HR.out.1 (by omega))
     simp only [Option.getD_some]at hc
     rw [show l.getD j 0=nth l j from rfl]at hc
     obtain⟨q,hq⟩:∃q,q=j/2:=⟨_,rfl⟩
     have y3:(j:Int)/2=(q:Int):=by omega
     have y4:(j:Int).tdiv 2=(q:Int):=by rw [Int.tdiv_eq_ediv_of_nonneg (by omega)];exact y3
     have y5:q<m:=by have:=HM.out;omega
     have y6:(q:Int)<(m:Int):=by omega
     rcases Nat.mod_two_eq_zero_or_one j with hp|hp
     · have y1:(j:Int)%2=0:=by omega
       have y2:(j:Int).tmod 2=0:=by rw [Int.tmod_eq_emod_of_nonneg (by omega)];exact y1
       have eN:=hid (E0.out j q hlt (by omega))
       clear hp hq
       generalize hG2:joinG l (j+1)=G2 at*
       generalize joinG l j=G1 at*
       have HG2:=hid hG2
       clear hG2
       go_wp2_with fail
       refine rgE 14 34 ?_
       simp only [zTa]
       repeat (first
           | (apply walk_is rfl rfl rfl
              · (intro wx hwx;first|((with_reducible show qGl);exact zJ (hm.ext hwx))|(go_simp;(try go_bits);first|exact gives_same|exact gives_skip))
              · (simp only [zPu];rfl))
           | (apply walk_not rfl rfl rfl
              · (simp only [zPu];rfl)))
       intro wz hwz
       simp only [zZi]
       repeat (first|rw [fin_is]|(rw [fin_cons];intro _ _))
       rw [fin_nil]
       try (replace hm:=hm.ext hwz)
       simp only [zPu]
       go_wp2_with (first|((with_reducible show qSt);refine zD hm ?_;clear hm;intro w hm))
       go_roundw
       case rel=>rw [eN.out]at hm;exact⟨j+1,by omega,by go_num,by rw [HG2.out];exact hm⟩
       case measure=>simp [intOf]<;>omega
     · have y1:(j:Int)%2=1:=by omega
       have y2:(j:Int).tmod 2=1:=by rw [Int.tmod_eq_emod_of_nonneg (by omega)];exact y1
       have eN:=hid (E1.out j q hlt (by omega))
       clear hp hq
       generalize hG2:joinG l (j+1)=G2 at*
       generalize joinG l j=G1 at*
       have HG2:=hid hG2
       clear hG2
       go_wp2_with fail
       refine rgE 14 34 ?_
       simp only [zTa]
       repeat (first
           | (apply walk_is rfl rfl rfl
              · (intro wx hwx;first|((with_reducible show qGl);exact zJ (hm.ext hwx))|(go_simp;(try go_bits);first|exact gives_same|exact gives_skip))
              · (simp only [zPu];rfl))
           | (apply walk_not rfl rfl rfl
              · (simp only [zPu];rfl)))
       intro wz hwz
       simp only [zZi]
       repeat (first|rw [fin_is]|(rw [fin_cons];intro _ _))
       rw [fin_nil]
       try (replace hm:=hm.ext hwz)
       simp only [zPu]
       go_wp2_with (first|((with_reducible show qSt);refine zD hm ?_;clear hm;intro w hm))
       go_roundw
       case rel=>rw [eN.out]at hm;exact⟨j+1,by omega,by go_num,by rw [HG2.out];exact hm⟩
       case measure=>simp [intOf]<;>omega
   · obtain rfl:j=l.length:=by omega
     have hd:decide ((l.length:Int)<(l.length:Int))=false:=decide_eq_false (by omega)
     rw [EA.out]at hm
     go_wp2_with fail
     go_ret
     exact⟨g1,rfl,hm⟩
theorem fl0:flv 0=0:=by decide+kernel
theorem own_subT {w0 w:World}{L M:List Blk}(h:Own w0 w L)(hs:M.Sublist L):Own w0 w M:=⟨h.1,h.2.1.sublist (hs.map _),fun b hb=>h.2.2 b (hs.subset hb)⟩
theorem build_halves(a b:Option Addr)(n m c d:Nat)(w:World):(Instr.build 197 #[(0, .slice a n c),(1, .slice b m d)]).run Tryz.prog w= .ok (.agg ([.slice a n c, .slice b m d]:List Value).toArray) w:=by kernel_rfl
instance many_halves:Many Tryz.prog 197 2:=⟨by kernel_rfl,by kernel_rfl⟩
theorem two_one {a b:Option Addr}{n m c d:Nat}:∀v∈([.slice a n c, .slice b m d]:List Value),v.oneCell'=true:=by
 intro v hv
 simp only [List.mem_cons,List.not_mem_nil,or_false]at hv
 rcases hv with rfl|rfl<;>rfl
theorem halves_pair(l:List Byte)(p:Option Addr)(c:Nat)(hl:l.length≤31)(w0:World)(hr:RdB w0 p l):
   Calls Tryz.prog 113 #[.slice p l.length c] w0 fun e w'=>∃g k,e= .returned (.agg ([.slice (some ⟨g,0,none⟩) l.length l.length, .slice (some ⟨k,0,none⟩) l.length l.length]:List Value).toArray)∧Own w0 w' [⟨k,5,(halvesL l l.length l.length).map v8⟩,⟨g,5,(halvesL l 0 l.length).map v8⟩]:=by
 have hm:=Own.start w0
 obtain⟨f1,f2,_,_⟩:=fl_tiny_at l.length hl
 have h1:=conv_if f2.of
 have C1:=hid fun w (hx:Ext w0 w)=>show Calls Tryz.prog 135 #[.slice p l.length c, .complex .f64 0 (flv l.length)] w fun e w'=>∃g,e= .returned (.tuple #[.slice (some ⟨g,0,none⟩) l.length l.length, .bool true])∧Own w w' [⟨g,5,(halvesL l 0 l.length).map v8⟩]from by
   have:=halves_new l p c _ 0 _ l.length _ f1 f2 (by omega) (by omega) w (hr.ext hx)
   rwa [fl0]at this
 have C2:=hid fun w (hx:Ext w0 w)=>halves_new l p c _ l.length _ l.length _ f2 f2 (by omega) (by omega) w (hr.ext hx)
 generalize flv l.length=b at*
 clear f1 f2 hr
 go_enter Tryz.func113,Tryz.ntmps113
 go_wp2_with (first|(((with_reducible show qAl);refine zG hm ?_);clear hm;intro gx_;intro w hm))
 refine(C1.out _ hm.x).mono ?_
 rintro e w ⟨g,rfl,hmM⟩
 have hm2:=Own.join hm hmM
 clear hm hmM
 try simp only [List.cons_append,List.nil_append]at hm2
 have hm:=hm2
 clear hm2
 go_wp2_with fail
 refine(C2.out _ hm.x).mono ?_
 rintro e w ⟨k,rfl,hmM⟩
 have hm2:=Own.join hm hmM
 clear hm hmM
 try simp only [List.cons_append,List.nil_append]at hm2
 have hm:=hm2
 clear hm2
 go_wp2_with (first|((with_reducible apply wq_build2 (build_halves (some ⟨g,0,none⟩) (some ⟨k,0,none⟩) l.length l.length l.length l.length));exact rfl;exact rfl;exact rfl)|((with_reducible show wpList _ _ _ (Oper.mk _ (Op.store 197 _ _) _ _ _ _::_) _ _);(with_reducible apply wq_stW (cs':=[.slice (some ⟨g,0,none⟩) l.length l.length, .slice (some ⟨k,0,none⟩) l.length l.length]) hm);exact rfl;infer_instance;exact rfl;exact rfl;(focus ((repeat (first|exact .hd|apply Swap.tl|apply Swap.app|apply Swap.app));done));exact rfl;exact rfl;(exact two_one);clear hm;intro w hm))
 refine ret_own hm rfl rfl many_halves (by repeat (first|exact Has.hd|assumption|apply Has.tl|apply Has.app)) rfl rfl ?_
 exact⟨g,k,rfl,own_subT hm (by repeat (first|exact List.Sublist.refl _|exact List.nil_sublist _|apply List.Sublist.cons_cons|apply List.Sublist.cons))⟩
section
variable {P:Program} {ops:Array Oper} {Q:Exit→Act→World→Prop} {rest:List Oper} {dst:Option Tmp} {ty:TypeId} {pos:String} {aft:Array Edge} {gd:Option (Nat×Bool)} {a:Act} {w0 w:World} {L:List Blk} {T e:TypeId} {u0 u1 u2:Value} {x0 x1 x2:Operand} {ks:List (List Byte)}
theorem bs_run3(a b c:List Byte)(ha:a.length=16)(hb:b.length=16)(hc:c.length=16)(w:World):(Instr.buildSlice 161 3 #[(0,A8 a),(1,A8 b),(2,A8 c)]).run Tryz.prog w= .ok (.slice (some ⟨w.heap.size,0,none⟩) 3 3) (w.alloc (.cells (catV [a,b,c]).toArray 132)):=by
 obtain⟨a0,a1,a2,a3,a4,a5,a6,a7,a8,a9,a10,a11,a12,a13,a14,a15,rfl⟩:=len16 a ha
 obtain⟨b0,b1,b2,b3,b4,b5,b6,b7,b8,b9,b10,b11,b12,b13,b14,b15,rfl⟩:=len16 b hb
 obtain⟨c0,c1,c2,c3,c4,c5,c6,c7,c8,c9,c10,c11,c12,c13,c14,c15,rfl⟩:=len16 c hc
 kernel_rfl
theorem gq_bs3(hk:∀k∈ks,k.length=16)(hb:(Instr.buildSlice T 3 #[(0,u0),(1,u1),(2,u2)]).run P w= .ok (.slice (some ⟨w.heap.size,0,none⟩) ks.length ks.length) (w.alloc (.cells (catV ks).toArray e)))(hx0:a.eval x0=u0)(hx1:a.eval x1=u1)(hx2:a.eval x2=u2):gives P w (KeysS ks) ((execOp a.eval (Oper.mk dst (.buildSlice T 3 #[(0,x0),(1,x1),(2,x2)]) ty pos aft gd)).run P w):=by
 unfold execOp
 simp [hx0,hx1,hx2,hb]
 exact gives_val (V:=KeysS ks) (Ext.alloc (Ext.refl _) _) (keys_new w e ks hk)
end
theorem cell1_g {w0 w:World}{L:List Blk}{g:Nat}{t:TypeId}{v:Value}(hm:Own w0 w L)(hh:Has L ⟨g,t,[v]⟩):∀(j:Nat)(u:Value),([v]:List Value)[j]? =some u→∃a,(some ⟨g,0,none⟩:Option Addr)=some a∧w.cell? (a.add j)=some u:=by
 intro j u hj
 cases j with
 | zero=>
   simp at hj
   subst hj
   refine⟨_,rfl, ?_⟩
   have:=row_cell (hm.row hh) 0
   exact this
 |succ j=>simp at hj
theorem bs1_8(w:World):(Instr.buildSlice 22 1 #[(0, .int .u8 8)]).run Tryz.prog w= .ok (.slice (some ⟨w.heap.size,0,none⟩) 1 1) (w.alloc (.cells [v8 8#8].toArray 5)):=by kernel_rfl
theorem step_new(g:Nat)(F:Int→Int→List Byte→List Byte)(hF:∀j m x,(F j m x).length=16)(h:List Byte)(hh:h.length=16)(i:Int)(hi:0≤i)(hi2:i≤9223372036854775807)(j:Nat)(hj:j≤9223372036854775807)(l:List Byte)(p:Option Addr)(c:Nat)(hl:l.length≤31)(w0:World)(hr:RdB w0 p l)
   (CE:∀wx,Ext w0 wx→∀(j m:Int)(x:List Byte),x.length=16→j≤9223372036854775807→m≤9223372036854775807→Gives Tryz.prog 98 #[.pointer (some ⟨g,0,none⟩), .int .i64 j, .int .i64 m,A8 x] wx (A8 (F j m x))):
   Calls Tryz.prog 114 #[.pointer (some ⟨g,0,none⟩),A8 h, .int .i64 i, .int .i64 (j:Int), .slice p l.length c] w0 fun e w'=>∃k,e= .returned (.slice (some ⟨k,0,none⟩) l.length l.length)∧Own w0 w' [⟨k,5,(stepL F h i j l).map v8⟩]:=by
 have hm:=Own.start w0
 obtain⟨_,_,f3,f4⟩:=fl_tiny_at l.length hl
 have h1:=conv_if f4.of
 have CL:=hid fun w (hx:Ext w0 w)=>clone_sl l p c w (hr.ext hx) (by omega)
 obtain⟨B,hB⟩:∃B,B=blk (joinN (l++[8#8])):=⟨_,rfl⟩
 obtain⟨C,hC⟩:∃C,C=cntB j:=⟨_,rfl⟩
 obtain⟨S,hS⟩:∃S,S=bothL (bothL B h) C:=⟨_,rfl⟩
 obtain⟨X,hX⟩:∃X,X=F 0 i S:=⟨_,rfl⟩
 have lB:B.length=16:=by rw [hB];exact blk_length _
 have lC:C.length=16:=by rw [hC];exact cntB_length _
 have lS:S.length=16:=by rw [hS];exact bothL_length _ _
 have lX:X.length=16:=by rw [hX];exact hF _ _ _
 have eR:stepL F h i j l=halvesL X 0 l.length:=by rw [hX,hS,hC,hB];rfl
 have J1:=hid fun w p2 n2 c2 (h:RdB w p2 (l++[8#8])∧n2=(l++[8#8]).length∧n2≤c2)=>show Calls Tryz.prog 115 #[.slice p2 n2 c2] w fun e w'=>∃g,e= .returned (.slice (some ⟨g,0,none⟩) (joinN (l++[8#8])).length (joinN (l++[8#8])).length)∧Own w w' [⟨g,5,(joinN (l++[8#8])).map v8⟩]from by
   rw [h.2.1,joinN_length]
   exact join_new (l++[8#8]) p2 c2 (by simp;omega) w h.1
 have D1:=hid fun w p2 c2 (h:RdB w p2 (joinN (l++[8#8])))=>(hB ▸ oblock_any (joinN (l++[8#8])) p2 c2 w h:Gives Tryz.prog 69 #[.slice p2 (joinN (l++[8#8])).length c2] w (A8 B))
 have C1:=hid fun w=>hC ▸ tcounted_any j hj w
 have E1:=hid fun w (hx:Ext w0 w)=>hX ▸ CE w hx 0 i S lS (by omega) hi2
 have P1:=hid fun (w:World)(p:Option Addr)(c:Nat)(hc:3≤c)(hk:RdK w p 16 [B,h,C])=>show Gives Tryz.prog 134 #[.slice p 3 c] w (A8 S)from hS ▸ tplus_three _ _ _ lB p c w hk hc
 have k1:=hid (show∀q∈[B,h,C],q.length=16 from by simp [lB,hh,lC])
 have H1:=hid fun w p2 (h:RdB w p2 X)=>show Calls Tryz.prog 135 #[.slice p2 16 16, .complex .f64 0 (flv l.length)] w fun e w'=>∃g,e= .returned (.tuple #[.slice (some ⟨g,0,none⟩) l.length l.length, .bool true])∧Own w w' [⟨g,5,(halvesL X 0 l.length).map v8⟩]from by
   have:=halves_new X p2 16 (flv 0) 0 (flv l.length) l.length (flv 32) (by rw [lX];exact f3) (by rw [lX];exact f4) (by omega) (by omega) w h
   rwa [lX,fl0]at this
 have FIT:=hid (show(l.length+1)*(1+1)≤140737488355328 by omega)
 have EL:=hid (show l.map v8++[v8 8#8]=(l++[8#8]).map v8 by simp)
 have n1:decide ((31:Int)<(l.length:Int))=false:=decide_eq_false (by omega)
 have n2:¬(31:Int)<(l.length:Int):=by omega
 have n3:decide (i<0)=false:=decide_eq_false (by omega)
 have n4:¬i<0:=by omega
 have n5:decide ((j:Int)<0)=false:=decide_eq_false (by omega)
 rw [eR]
 clear hB hC hS hX eR f3 f4 hr CE hF
 generalize joinN (l++[8#8])=JN at*
 generalize halvesL X 0 l.length=R at*
 generalize flv l.length=b at*
 go_enter Tryz.func114,Tryz.ntmps114
 go_wp2_with (first|(((with_reducible show qBx);refine zH hm ?_);clear hm;(first|(have hx_:=g1;clear hx_;(first|(have hx_:=g2;clear hx_;(first|(have hx_:=g3;clear hx_;(first|(have hx_:=g4;clear hx_;intro gx_)|intro g4))|intro g3))|intro g2))|intro g1);intro w hm))
 refine(CL.out _ hm.x).mono ?_
 rintro e w ⟨v1,M1,rfl,hs1,hmM⟩
 obtain⟨p1,c1,rfl⟩:=hs1.form
 have hm2:=Own.join hm hmM
 have HS1:=hid hs1
 clear hm hmM hs1
 try simp only [List.cons_append,List.nil_append]at hm2
 have hm:=hm2
 clear hm2
 go_wp2_with (first|((with_reducible apply wq_bs1c bs1_8 hm);exact rfl;exact rfl;clear hm;intro gy w hm)|((with_reducible show wpList _ _ _ (Oper.mk _ (Op.call _) _ _ _ _::_) _ _);refine wplO_app (M:=M1) (R:=_) (ds:=[v8 8#8]) (hm.perm (List.perm_middle.symm)) HS1.out rfl rfl rfl rfl Tryz.underlying22 rfl (cell1_g (g:=gy) hm (by repeat (first|exact Has.hd|assumption|apply Has.tl|apply Has.app))) (by intro u hu;rw [List.mem_singleton.1 hu];rfl) FIT.out ?_;clear hm;intro v2 w M2 hm hs2;obtain⟨p_v2,c_v2,rfl⟩:=hs2.form;replace hm:=hm.perm (List.perm_middle)))
 rw [EL.out]at hs2
 have hr2:=slo_bytes hs2 hm.drop
 clear hs2
 refine(J1.out _ _ _ _ hr2).mono ?_
 rintro e w ⟨g2,rfl,hmM⟩
 have hm2:=Own.join hm.drop.dropN hmM
 clear hm hmM hr2
 try simp only [List.cons_append,List.nil_append]at hm2
 have hm:=hm2
 clear hm2
 go_wp2_with (first|(go_at_call 69;(with_reducible refine(D1.out _ _ _ (hm.rdB (g:=g2) (l:=JN) (by repeat (first|exact Has.hd|assumption|apply Has.tl|apply Has.app)))).mono ?_);rintro e_ w ⟨rfl,hx_⟩;replace hm:=hm.ext hx_;clear hx_)|((with_reducible show qSt);refine zE hm ?_;clear hm;intro w hm)|(((with_reducible show qAl);refine zG hm ?_);clear hm;(first|(have hx_:=g1;clear hx_;(first|(have hx_:=g2;clear hx_;(first|(have hx_:=g3;clear hx_;(first|(have hx_:=g4;clear hx_;intro gx_)|intro g4))|intro g3))|intro g2))|intro g1);intro w hm))
 have hx0:=hm.x
 refine region_new 10 (fun w'=>Ext _ w') 55 (by kernel_rfl) (by kernel_rfl) rfl (fun _ _ h k=>h.trans k) (drew_ext _) ?_
 simp only [zTa]
 repeat (first
     | (apply walk_some (NewS (w.heap.size) 132 ((zer 16).map v8)) 12 (NewS.stable _ _ _) rfl rfl rfl rfl
        · (intro wx hwx;go_simp;exact gives_new (cs:=(zer 16).map v8) hwx.size))
     |(apply walk_some (KeysS ([B,h,C])) 42 (KeysS.stable _) rfl rfl rfl rfl;(intro wx hwx;exact gq_bs3 (k1.out) (bs_run3 B h C lB hh lC wx) rfl rfl rfl))
     | (apply walk_from (T:=[(42,KeysS [B,h,C])]) rfl rfl
        · (intro wx hwx;simp only [withS];(rintro x_ ⟨p,c,rfl,hlc,hk'⟩);refine⟨rfl, ?_⟩;go_simp;exact gives_call (P1.out wx p c hlc hk'))
        · (simp only [zPu];rfl))
     | (apply walk_is rfl rfl rfl
        · (intro wx hwx;first|((with_reducible show qGl);exact zK (hm.ext hwx))|(go_simp;(try go_bits);first|exact gives_same|exact gives_skip|with_reducible exact gives_call (C1.out wx)|with_reducible exact gives_call (E1.out wx (hx0.trans hwx))))
        · (simp only [zPu];rfl))
     | (apply walk_not rfl rfl rfl
        · (simp only [zPu];rfl)))
 intro wz hwz
 simp only [zZi]
 repeat rw [fin_is]
 rw [fin_cons];intro y42 hy42
 repeat rw [fin_is]
 rw [fin_cons];intro x12 hx12
 repeat rw [fin_is]
 rw [fin_nil];intro hap
 simp only [zPu]at hap⊢
 clear hy42
 obtain⟨g12_,rfl,hg12,hr12⟩:=hx12
 replace hm:=hm.push hwz hg12 hr12
 clear hap hr12
 clear hx0
 go_wp2_with (first|((with_reducible show qSt);refine zE hm ?_;clear hm;intro w hm))
 refine(H1.out _ _ (hm.rdB (g:=g12_) (l:=X) (by repeat (first|exact Has.hd|assumption|apply Has.tl|apply Has.app)))).mono ?_
 rintro e w ⟨g4,rfl,hmM⟩
 have hm2:=Own.join hm hmM
 clear hm hmM
 try simp only [List.cons_append,List.nil_append]at hm2
 have hm:=hm2
 clear hm2
 go_wp2_with fail
 go_ret
 exact⟨g4,rfl,own_subT hm (by repeat (first|exact List.Sublist.refl _|exact List.nil_sublist _|apply List.Sublist.cons_cons|apply List.Sublist.cons))⟩
section
variable {P:Program} {ops:Array Oper} {Q:Exit→Act→World→Prop} {rest:List Oper} {dst:Option Tmp} {ty:TypeId} {pos:String} {aft:Array Edge} {gd:Option (Nat×Bool)} {a:Act} {w0 w:World} {L L':List Blk} {T t:TypeId} {x y:Operand} {g k:Nat} {cs cs':List Value} {v:Value}
theorem wq_stfT(hm:Own w0 w L)(hgd:Region.wanted (Oper.mk dst (.store T x y) ty pos aft gd) (yielded ops a.tmps)=true)(hT:One1 P T)(hx:a.eval x= .pointer (some ⟨g,k,none⟩))(hy:a.eval y=v)(hval:v.cells= #[v])(h1:v.oneCell'=true)(hs:Swap L ⟨g,t,cs⟩ ⟨g,t,cs'⟩ L')(he:cs.set k v=cs')(hk:k<cs.length)(hr:∀w',Own w0 w' L'→wpList P ops Q rest (a.put dst undef) w'):wpList P ops Q ((Oper.mk dst (.store T x y) ty pos aft gd)::rest) a w:=wpl_st1 hm hgd rfl hx hy hval h1 hs hk he hr
end
theorem sl_first {M:List Blk}{e:TypeId}{p:Option Addr}{c:Nat}{l:List Byte}(h:SlO M e 1 (.slice p l.length c) l.length (l.map v8))(h0:0<l.length):∃(g o:Nat)(cur:List Value),p=some ⟨g,o,none⟩∧M=[⟨g,e,cur⟩]∧cur[o]? =some (v8 (nth l 0))∧o<cur.length∧l.length≤c∧∀x:Byte,SlO [⟨g,e,cur.set o (v8 x)⟩] e 1 (.slice p l.length c) l.length ((setN l 0 x).map v8):=by
 obtain⟨hl,h⟩:=h
 rcases h with ⟨_,h1,_⟩|⟨g,o,cap,cur,he,rfl,h1,h2,h3,h4⟩
 · omega
 · cases he
   have ho:o<cur.length:=by omega
   rw [Nat.mul_one]at h4
   refine⟨g,o,cur,rfl,rfl, ?_,ho,h1,fun x=>⟨by simp [setN_length], .inr ⟨g,o,c,_,rfl,rfl,h1,h2,by rw [List.length_set];exact h3, ?_⟩⟩⟩
   · have h5:((cur.drop o).take l.length)[0]? =(l.map v8)[0]? :=by rw [h4]
     rw [List.getElem?_take,if_pos h0,List.getElem?_drop,Nat.add_zero]at h5
     rw [h5];exact map8_at l h0
   · rw [Nat.mul_one,List.drop_set,if_neg (by omega),Nat.sub_self,List.take_set,h4]
     exact map8_set l x
theorem flip_sl(g:Nat)(F:Int→Int→List Byte→List Byte)(hF:∀j m x,(F j m x).length=16)(h:List Byte)(hh:h.length=16)(l:List Byte)(p:Option Addr)(c:Nat)(hl:l.length≤1000)(w0:World)(hr:RdB w0 p l)
   (CE:∀wx,Ext w0 wx→∀(j m:Int)(x:List Byte),x.length=16→j≤9223372036854775807→m≤9223372036854775807→Gives Tryz.prog 98 #[.pointer (some ⟨g,0,none⟩), .int .i64 j, .int .i64 m,A8 x] wx (A8 (F j m x))):
   Calls Tryz.prog 112 #[.pointer (some ⟨g,0,none⟩),A8 h, .slice p l.length c] w0 fun e w'=>∃v M,e= .returned v∧SlO M 5 1 v l.length ((flipL F h l).map v8)∧Own w0 w' M:=by
 have hm:=Own.start w0
 have CL:=hid fun w (hx:Ext w0 w)=>clone_sl l p c w (hr.ext hx) (by omega)
 by_cases hs:l.length=0∨16≤l.length
 · have eF:flipL F h l=l:=if_pos hs
   rw [eF]
   clear eF hr CE hF
   by_cases h0:l.length=0
   · have a1:((l.length:Int)==0)=true:=by rw [h0];rfl
     have a2:(l.length:Int)=0:=by omega
     have H0:=hid h0
     clear h0 hs
     go_enter Tryz.func112,Tryz.ntmps112
     go_wp2_with (first|(((with_reducible show qBx);refine zH hm ?_);clear hm;intro gx_;intro w hm))
     refine(CL.out _ hm.x).mono ?_
     rintro e w ⟨v1,M1,rfl,hs1,hmM⟩
     obtain⟨p1,c1,rfl⟩:=hs1.form
     have HS1:=hid hs1
     have hm2:=Own.join hm hmM
     clear hm hmM hs1
     have hm:=hm2
     clear hm2
     go_wp2_with fail
     go_ret
     exact⟨_,M1,rfl,HS1.out,(hm.perm List.perm_append_comm).dropN⟩
   · have a1:((l.length:Int)==0)=false:=by rw [beq_eq_false_iff_ne];omega
     have a2:¬(l.length:Int)=0:=by omega
     have a3:decide ((16:Int)≤(l.length:Int))=true:=decide_eq_true (by omega)
     have a4:(16:Int)≤(l.length:Int):=by omega
     have a5:decide ((l.length:Int)≥16)=true:=decide_eq_true (by omega)
     clear hs
     go_enter Tryz.func112,Tryz.ntmps112
     go_wp2_with (first|(((with_reducible show qBx);refine zH hm ?_);clear hm;intro gx_;intro w hm))
     refine(CL.out _ hm.x).mono ?_
     rintro e w ⟨v1,M1,rfl,hs1,hmM⟩
     obtain⟨p1,c1,rfl⟩:=hs1.form
     have HS1:=hid hs1
     have hm2:=Own.join hm hmM
     clear hm hmM hs1
     have hm:=hm2
     clear hm2
     go_wp2_with fail
     go_ret
     exact⟨_,M1,rfl,HS1.out,(hm.perm List.perm_append_comm).dropN⟩
 · have eF:flipL F h l=setN l 0 (nth l 0^^^(nth (F 0 3 (topB h l)) 0&&&128#8)):=if_neg hs
   have a1:((l.length:Int)==0)=false:=by rw [beq_eq_false_iff_ne];omega
   have a2:¬(l.length:Int)=0:=by omega
   have a3:decide ((16:Int)≤(l.length:Int))=false:=decide_eq_false (by omega)
   have a4:¬(16:Int)≤(l.length:Int):=by omega
   have a5:decide ((l.length:Int)≥16)=false:=decide_eq_false (by omega)
   have B1:=hid fun w (hx:Ext w0 w)=>oblock_any l p c w (hr.ext hx)
   obtain⟨B,hB⟩:∃B,B=blk l:=⟨_,rfl⟩
   obtain⟨S,hS⟩:∃S,S=bothL (setN B 0 (nth B 0|||128#8)) h:=⟨_,rfl⟩
   obtain⟨X,hX⟩:∃X,X=F 0 3 S:=⟨_,rfl⟩
   rw [←hB]at B1
   have lB:B.length=16:=by rw [hB];exact blk_length _
   have lB2:(setN B 0 (nth B 0|||128#8)).length=16:=by rw [setN_length];exact lB
   have lS:S.length=16:=by rw [hS];exact bothL_length _ _
   have lX:X.length=16:=by rw [hX];exact hF _ _ _
   have eF2:flipL F h l=setN l 0 (nth l 0^^^(nth X 0&&&128#8)):=by rw [eF,hX,hS,hB];rfl
   rw [eF2]
   have E1:=hid fun w (hx:Ext w0 w)=>hX ▸ CE w hx 0 3 S lS (by omega) (by omega)
   have P1:=hid fun (w:World)(p:Option Addr)(c:Nat)(hc:2≤c)(hk:RdK w p 16 [setN B 0 (nth B 0|||128#8),h])=>show Gives Tryz.prog 134 #[.slice p 2 c] w (A8 S)from hS ▸ tplus_two _ _ lB2 p c w hk hc
   have k1:=hid (show∀q∈[setN B 0 (nth B 0|||128#8),h],q.length=16 from by simp [lB2,hh])
   have h0:0<l.length:=by omega
   clear hB hS hX eF eF2 hr CE hF hs
   go_enter Tryz.func112,Tryz.ntmps112
   go_wp2_with (first|(((with_reducible show qBx);refine zH hm ?_);clear hm;intro gx_;intro w hm))
   refine(CL.out _ hm.x).mono ?_
   rintro e w ⟨v1,M1,rfl,hs1,hmM⟩
   obtain⟨p1,c1,rfl⟩:=hs1.form
   obtain⟨go,o,cur,rfl,rfl,hc1,ho,hlc,hset⟩:=sl_first hs1 h0
   have HSET:=hid hset
   have HC1:=hid hc1
   have hm2:=Own.join hm hmM
   clear hm hmM hs1 hset hc1
   simp only [List.cons_append,List.nil_append]at hm2
   have hm:=hm2
   clear hm2
   have b1:(0:Int)<(l.length:Int):=by omega
   go_wp2_with (first|(go_at_call 69;(with_reducible refine(B1.out _ hm.x).mono ?_);rintro e_ w ⟨rfl,hx_⟩;replace hm:=hm.ext hx_;clear hx_)|((with_reducible apply wq_bs2 hm (bs_run2 (setN B 0 (nth B 0|||128#8)) h lB2 hh _));exact rfl;exact rfl;exact rfl;clear hm;intro gq w hm)|(go_at_call 134;(with_reducible refine(P1.out _ _ _ (Nat.le_refl 2) (hm.rdK (by repeat (first|exact Has.hd|assumption|apply Has.tl|apply Has.app)) k1.out)).mono ?_);rintro e_ w ⟨rfl,hx_⟩;replace hm:=hm.ext hx_;clear hx_)|(go_at_call 98;(with_reducible refine(E1.out _ hm.x).mono ?_);rintro e_ w ⟨rfl,hx_⟩;replace hm:=hm.ext hx_;clear hx_)|((with_reducible show qLd);first|(refine zA hm ?_)|(refine zB hm ?_))|((((with_reducible show qSt);first|(refine zD hm ?_)|(refine zE hm ?_)));clear hm;intro w hm)|(((with_reducible show qAl);refine zG hm ?_);clear hm;intro gx_;intro w hm))
   refine rgE 8 44 ?_
   simp only [zTa]
   repeat (first
       |(apply walk_is rfl rfl rfl;(intro wx hwx;(with_reducible apply gq_ld1 (hm.ext hwx));infer_instance;exact rfl;(focus ((repeat (first|exact .hd|assumption|apply Has.tl|apply Has.app));done));(exact HC1.out));(simp only [zPu];rfl))
       | (apply walk_is rfl rfl rfl
          · (intro wx hwx;first|((with_reducible show qGl);exact zJ (hm.ext hwx))|(go_simp;(try go_bits);first|exact gives_same|exact gives_skip))
          · (simp only [zPu];rfl))
       | (apply walk_not rfl rfl rfl
          · (simp only [zPu];rfl)))
   intro wz hwz
   simp only [zZi]
   repeat (first|rw [fin_is]|(rw [fin_cons];intro _ _))
   rw [fin_nil]
   try (replace hm:=hm.ext hwz)
   simp only [zPu]
   go_wp2_with (first|((with_reducible show qSt);(with_reducible apply wq_stfT (v:=v8 (nth l 0^^^(nth X 0&&&128#8))) hm);exact rfl;infer_instance;exact rfl;exact rfl;exact rfl;exact rfl;(focus ((repeat (first|exact .hd|apply Swap.tl|apply Swap.app));done));exact rfl;(first|exact ho|omega);clear hm;intro w hm))
   go_ret
   exact⟨_,_,rfl,HSET.out _,own_subT hm (by repeat (first|exact List.Sublist.refl _|exact List.nil_sublist _|apply List.Sublist.cons_cons|apply List.Sublist.cons))⟩
section
variable {P:Program} {ops:Array Oper} {Q:Exit→Act→World→Prop}
theorem rowsIn_round(lp n:Nat){row:String}{args:Array Value}{w:World}{R:Value→World→Prop}(h:Rows P row args w R):RowsIn (Fence.wide.inRound lp) n P row args w R:=
 fun c cs _=>let ⟨v,w',r,s⟩:=h c cs;⟨v,w',r,stepsIn_wide.2 s⟩
theorem callsIn_round(lp n:Nat){f:FuncId}{args:Array Value}{w:World}{R:Ending→World→Prop}(h:Calls P f args w R):CallsIn (Fence.wide.inRound lp) n P f args w R:=
 CallsIn.inRound lp (callsIn_wide.2 h)
theorem uponIn_round(lp n:Nat){o:Oper}{a:Act}{K:Act→World→Prop}{r:Result Next}(h:o.upon P a K Q r):o.uponIn (Fence.wide.inRound lp) n P a K Q r:=by
 cases r with
 | ok x w=>
   cases x with
   |value v=>exact h
   |skip=>exact h
   |defer d=>exact h
   |enter f args=>exact⟨fun hd=>(by cases hd),(callsIn_round lp (n-1) h).mono fun e w' he=>by cases e<;>exact he⟩
   |row r args=>exact⟨fun hd=>(by cases hd),rowsIn_round lp (n-1) h⟩
   |_=>exact h.elim
 |halt x w=>cases x<;>first|exact h|exact h.elim
def noDefer(l:List Oper):Bool:=l.all fun o=>match o.op with| .defer _=>false|_=>true
theorem noDefer_out {l:List Oper}(h:noDefer l=true):∀(i:Nat)(o:Oper),l.toArray[i]? =some o→∀c,o.op≠ .defer c:=fun i o ho c hc=>by
 have hm:o∈l:=by simpa using Array.mem_of_getElem? ho
 have:=List.all_eq_true.1 h o hm
 rw [hc]at this
 simp at this
theorem opIn_round(lp n:Nat)(hQ:¬LetsOut Q)(hd:∀(i:Nat)(o:Oper),ops[i]? =some o→∀c,o.op≠ .defer c){i:Nat}{K:Act→World→Prop}{a:Act}{w:World}(h:wpOp P ops Q i K a w):wpOpIn (Fence.wide.inRound lp) n P ops Q i K a w:=by
 unfold wpOp at h
 unfold wpOpIn
 cases ho:ops[i]? with
 |none=>simp only [ho]at h⊢;exact h
 | some o=>
   simp only [ho]at h⊢
   by_cases hw:Region.wanted o (yielded ops a.tmps)=true
   · simp only [hw,if_true]at h⊢
     rcases h with h|h
     · refine⟨fun _ _=>trivial, ?_⟩
       rw [Oper.semAt_eq _ _ _ (hd i o ho)]
       exact uponIn_round lp n h
     · exact(hQ h.2).elim
   · simp only [hw]at h⊢
     exact⟨fun _ _=>trivial,h⟩
theorem anyIn_round(lp n:Nat)(hQ:¬LetsOut Q)(hd:∀(i:Nat)(o:Oper),ops[i]? =some o→∀c,o.op≠ .defer c){md:Region.Mode}:∀(fuel:Nat)(listed:Array Bool)(a:Act)(w:World),wpAny P md ops Q fuel listed a w→wpAnyIn (Fence.wide.inRound lp) n P md ops Q fuel listed a w
 |0,_,_,_,h=>h
 |fuel+1,_,_,_,⟨h1,h2⟩=>⟨h1,fun i hi=>wpOpIn_mono (fun _ _=>anyIn_round lp n hQ hd fuel _ _ _) (opIn_round lp n hQ hd (h2 i hi))⟩
theorem region_walkIn(lp n:Nat)(hQ:¬LetsOut Q){id:Nat}{pre suf:List Oper}{a0:Act}{w0:World}(H:World→Prop)(hm:P.follows .mixedOrders=true)(hnd:noDefer (pre++suf)=true)
   (hB:orderOk (pre++suf).toArray pre.length a0.tmps.size=true) (hH:∀w w',H w→Ext w w'→H w') (hw:H w0.drew)
   (h:walkA P (pre++suf).toArray H pre (fun t=>Is (a0.tmps.getD t undef)) (fun Vs=>∀w',H w'→fin (fun a w=>Apart (newsOf pre) a→wpList P (pre++suf).toArray Q suf a w) ((pre.map (·.dst)).zip Vs) a0 w')):
   (Code.region id (pre++suf).toArray true).wpIn (Fence.wide.inRound lp) n P Q a0 w0:=by
 obtain⟨Vs,hVl,hfin,hob⟩:=walkA_out _ _ _ h
 refine wpIn_region_any hm (anyIn_round lp n hQ (noDefer_out hnd) _ _ _ _ ?_)
 refine head_ok hVl (orderOk_out hB) hH hob hfin _ _ _ _ (by simp) (fun j _=>by simp [Array.getElem?_replicate];split<;>rfl) ?_ ⟨hw,rfl,rfl, ?_, ?_,fun _ _=>rfl, ?_⟩
 · unfold left;refine Nat.le_trans (List.length_filter_le _ _) (by simp)
 · intro i o e hoi hli
   simp [Array.getElem?_replicate]at hli
   split at hli<;>simp at hli
 · intro i o V hoi hVi hli
   simp [Array.getElem?_replicate]at hli
   split at hli<;>simp at hli
 · intro i o d hoi _ hli
   simp [Array.getElem?_replicate]at hli
   split at hli<;>simp at hli
theorem region_SIn(lp nn:Nat)(hQ:¬LetsOut Q){id:Nat}{pre suf:List Oper}{a0:Act}{w0:World}(H:World→Prop)(sz:Nat)(hm:P.follows .mixedOrders=true)(hnd:noDefer (pre++suf)=true)
   (hB:(orderOk (pre++suf).toArray pre.length sz&&Region.noSelect (pre++suf).toArray)=true) (hsz:a0.tmps.size=sz) (hH:∀w w',H w→Ext w w'→H w') (hw:H w0.drew)
   (h:walkS P (pre++suf).toArray H sz pre a0 [] (fun Vs=>∀w',H w'→fin (fun a w=>Apart (newsOf pre) a→wpList P (pre++suf).toArray Q suf a w) ((pre.map (·.dst)).zip Vs) a0 w')):
   (Code.region id (pre++suf).toArray true).wpIn (Fence.wide.inRound lp) nn P Q a0 w0:=by
 rw [Bool.and_eq_true]at hB
 subst hsz
 refine region_walkIn lp nn hQ H hm hnd hB.1 hH hw (walkA_of_S pre a0 [] _ _ (fun o ho cs b=> ?_) (fun t=>rfl) (by simp) (by simp) rfl h)
 obtain⟨i,hi,he⟩:=List.getElem_of_mem ho
 exact Region.noSelect_spec hB.2 i o cs b (by rw [←he];simp [List.getElem?_append_left hi])
theorem region_in(lp nn:Nat)(hQ:¬LetsOut Q){id:Nat}{l:List Oper}{a0:Act}{w0:World}(n:Nat)(H:World→Prop)(sz:Nat)(hm:P.follows .mixedOrders=true)(hnd:noDefer l=true)
   (hB:(orderOk l.toArray (l.take n).length sz&&Region.noSelect l.toArray)=true) (hsz:a0.tmps.size=sz) (hH:∀w w',H w→Ext w w'→H w') (hw:H w0.drew)
   (h:walkS P l.toArray H sz (l.take n) a0 [] (fun Vs=>∀w',H w'→fin (wpList P l.toArray Q (l.drop n)) (((l.take n).map (·.dst)).zip Vs) a0 w')):
   (Code.region id l.toArray true).wpIn (Fence.wide.inRound lp) nn P Q a0 w0:=by
 have e:=List.take_append_drop n l
 have:=region_SIn lp nn hQ (id:=id) (pre:=l.take n) (suf:=l.drop n) (a0:=a0) (w0:=w0) (Q:=Q) (P:=P) H sz hm (by rw [e];exact hnd) (by rw [e];exact hB) hsz hH hw (by
   rw [e]
   exact walkS_mono _ _ _ _ _ (fun _ hF w' hw'=>fin_mono (Q2:=fun a w=>Apart (newsOf (l.take n)) a→wpList P l.toArray Q (l.drop n) a w) (fun _ _ q _=>q) _ _ _ (hF w' hw')) h)
 rwa [e]at this
end
open Go Go.RowKit Go.Shelf
attribute [local go_sem] Oper.semAt_some
theorem Ext.others {w w':World}(h:Ext w w'):KeepsOthers w w':=⟨h.size,fun _ _ hk _=>h.block hk⟩
theorem Own.kept {w0 A B:World}{L:List Blk}{row:Option Nat}(h:Own w0 A L)(hg:A.grownBy B row)(hr:∀r,row=some r→w0.heap.size≤r∧∃o:Obj,A.heap[r]? =some o∧o.isCells=false):Own w0 B L:=
 ⟨Below.grown h.1 hg h.1.size (fun k e=>(hr k e).1),h.2.1,fun b hb=>⟨(h.2.2 b hb).1,(grownBy_keeps_cells hg (fun r e=>(hr r e).2) (h.2.2 b hb).2 rfl).trans (h.2.2 b hb).2⟩⟩
section
variable {P:Program} {ops:Array Oper} {Q:Exit→Act→World→Prop} {rest:List Oper} {dst:Option Tmp} {ty:TypeId} {pos:String} {aft:Array Edge} {gd:Option (Nat×Bool)} {a:Act} {w0 w:World} {L L':List Blk} {T t:TypeId} {x y:Operand} {g n:Nat} {cs cs':List Value}
theorem wq_stWK(hm:Own w0 w L)(hgd:Region.wanted (Oper.mk dst (.store T x y) ty pos aft gd) (yielded ops a.tmps)=true)(hT:Many P T n)(hx:a.eval x= .pointer (some ⟨g,0,none⟩))(hy:a.eval y= .agg cs'.toArray)(hs:Swap L ⟨g,t,cs⟩ ⟨g,t,cs'⟩ L')(hl:cs'.length=n)(hl2:cs.length=n)(h1:∀v∈cs',v.oneCell'=true)
   (hr:∀w',Own w0 w' L'→KeepsOthers w w'→Below w0.heap.size w w'→wpList P ops Q rest (a.put dst undef) w'):wpList P ops Q ((Oper.mk dst (.store T x y) ty pos aft gd)::rest) a w:=
 wpList_want hgd fun K hK=>by
   have hrow:=hm.row hs.has
   have hrun:=run_storeAt_row (P:=P) (T:=T) hrow (by rw [hl,hl2]) (by rw [hl];exact hT.size) h1
   unfold Oper.wp execOp
   simp only [hx,hy,Sem.run_bind,hrun,Result.andThen_ok]
   refine hK _ _ (hr _ (hm.turn hs) ⟨by simp,fun k o hk ho=> ?_⟩ (below_setRow (Below.refl _ _) g _ (hm.2.2 _ hs.has.mem).1))
   rw [setRow_other]
   · exact hk
   · rintro rfl
     rw [hrow]at hk;cases hk;cases ho
theorem retM_own {F:Fence}{nn:Nat}{fn:Func}{R:Ending→World→Prop}{p:Tmp}{D:Nat}(hm:Own w0 w L)(h:fn.results= #[.cell p T])(hp:a.tmps.getD p undef= .pointer (some ⟨g,0,none⟩))(hT:Many P T n)(hh:Has L ⟨g,t,cs⟩)(hn:cs.length=n)
   (hf:a.defers=[{target:= .collected D,args:= #[]}]) (hD:w0.heap.size≤D) (hK:w.heap[D]? =some (.deferred (some []))) (hR:∀w',Ext w0 w'→R (.returned (.agg cs.toArray)) w'):bodyPostM F nn P fn R .ret a w:=by
 obtain⟨d,hu,hd⟩:=Option.map_eq_some_iff.1 hT.row
 have hm2:Own w0 (w.putObj D (.deferred none)) L:=hm.kept (grownBy_putObj' w D _) (fun r e=>by cases e;exact⟨hD,_,hK,rfl⟩)
 show LeavesInM F nn P fn a.tmps R a.defers .returning w
 rw [hf]
 refine⟨by simp, .inl ⟨_,_,rfl,run_takeDeferred hK, ?_⟩⟩
 exact⟨_,results_cell_row h _ _ g t cs.toArray (0,0) d hp (hm2.row hh) hu (by cases d<;>simp_all) (by rw [List.size_toArray,hn];exact hT.size),hR _ hm2.x⟩
end
theorem numbered_any(p:Option Addr)(n c:Nat)(w0:World):Calls Tryz.prog 122 #[.slice p n c] w0 fun e w=>∃g,e= .returned (.func (.func 140) #[] #[.pointer (some ⟨g,0,none⟩)])∧w0.heap.size≤g∧Row w g 48 [.slice p n c]∧Ext w0 w:=by
 have hm:=Own.start w0
 go_enter Tryz.func122,Tryz.ntmps122
 go_wp2_with (first|(((with_reducible show qBx);refine zI hm ?_);clear hm;intro gx_;intro w hm))
 go_ret
 exact⟨_,rfl,(hm.2.2 _ Has.hd.mem).1,hm.row .hd,hm.x⟩
set_option maxRecDepth 100000 in
theorem numbered1_in(n:Nat)(hn:1≤n)(l Bs:Nat)(w0:World)(N c:Nat)(p:Option Addr)(vs:Nat→Value)(hN:N≤70368744177000)(hNc:N≤c)(hp:0<N→p.isSome=true)(hc:∀j,j<N→w0.cell? ((p.getD default).add j)=some (vs j))
   (J Jx:List {i:Nat//i<N}→World→Prop)
   (hY:∀pre x W,J pre W→pre.length<N→YieldAt Fence.wide (n-1) Tryz.prog l #[.int .i64 (3+(x.1:Int)),vs x.1] W fun e W'=>(e= .returned (.bool true)∧J (pre++[x]) W'∧Below w0.heap.size W W')∨(e= .returned (.bool false)∧Jx (pre++[x]) W'))
   (W:World) (hW:Ext w0 W) (hBs:W.cell? ⟨Bs,0,none⟩=some (.slice p N c)) (h0:J [] W):
   CallsIn Fence.wide n Tryz.prog 140 #[.func (.yield l) #[] #[], .pointer (some ⟨Bs,0,none⟩)] W fun e W'=>(∃v,e= .returned v)∧
     ((∃xs:List {i:Nat//i<N},xs.map (·.1)=List.range N∧J xs W')∨(∃pre:List {i:Nat//i<N},True∧Jx pre W')):=by
 refine callsIn_of_wp Tryz.func140 rfl trivial ?_ rfl
 simp only [Tryz.ntmps140,List.size_toArray,List.length_cons,List.length_nil,Nat.reduceAdd,Nat.reduceSub,Array.replicate_succ,Array.replicate_zero,List.push_toArray,List.append_toArray,List.nil_append,List.cons_append]
 gi_wp2
 gi_loopw [7] (fun i wr=>∃(k:Nat)(xs:List {i:Nat//i<N}),k≤N∧i= .int .i64 k∧xs.map (·.1)=List.range k∧J xs wr∧Below w0.heap.size w0 wr) (fun i _=>N-(intOf i).toNat)
 case atStart=>exact⟨0,[],Nat.zero_le _,rfl,rfl,h0,hW⟩
 case round=>
   obtain⟨k,xs,hk,rfl,hxs,hJs,hnx⟩:=hrel
   have hxl:xs.length=k:=by have:=congrArg List.length hxs;simpa using this
   by_cases hlt:k<N
   · obtain⟨a,rfl⟩:=Option.isSome_iff_exists.1 (hp (by omega))
     have hcell:wr.cell? (a.add k)=some (vs k):=Ext.cell hnx (hc k hlt)
     obtain⟨fn,tmps,assign,body,hy,hR⟩:=hY xs ⟨k,hlt⟩ wr hJs (by rw [hxl];exact hlt)
     dsimp only at hy
     have hlt':(k:Int)<(N:Int):=by omega
     have hb3:(3:Int)+(k:Int)≤9223372036854775807:=by omega
     clear hY hc hp
     gi_wp2
     refine hR.mono ?_
     rintro e W3 (⟨rfl,hJ3,hk3⟩|⟨rfl,hJx3⟩)
     · gi_wp2
       go_roundw
       case rel=>exact⟨k+1,_,by omega,by simp,by rw [List.map_append,hxs,List.range_succ];rfl,hJ3,hnx.trans hk3⟩
       case measure=>simp [intOf];omega
     · gi_wp2
       refine bodyPost_ret (results_none rfl _ _ _) rfl ?_
       exact⟨⟨_,rfl⟩, .inr ⟨_,trivial,hJx3⟩⟩
   · obtain rfl:k=N:=by omega
     gi_wp2
     go_end0
     exact⟨⟨_,rfl⟩, .inl ⟨_,hxs,hJs⟩⟩
theorem numbered_stops(n:Nat)(hn:1≤n)(Bs:Nat)(w0 w:World)(N c:Nat)(p:Option Addr)(vs:Nat→Value)(hN:N≤70368744177000)(hNc:N≤c)(hp:0<N→p.isSome=true)(hc:∀j,j<N→w0.cell? ((p.getD default).add j)=some (vs j))(hw:Ext w0 w)(hBs:w.cell? ⟨Bs,0,none⟩=some (.slice p N c)):
   SeqStopsK Fence.wide n Tryz.prog 140 #[.pointer (some ⟨Bs,0,none⟩)] (fun x:{i:Nat//i<N}=> #[.int .i64 (3+(x.1:Int)),vs x.1]) (Below w0.heap.size) (fun xs=>xs.map (·.1)=List.range N) (fun _=>True) N w:=
 fun l J Jx W hW _ _ hY h0=>numbered1_in n hn l Bs w0 N c p vs hN hNc hp hc J Jx hY W (Ext.trans hw hW) (Ext.cell hW hBs) h0
end Go.Proofs.YtneacgpmjlocjaaGreatDoor
namespace Go.Proofs.YtneacgpmjlocjaaGreatDoor
open Go Go.RowKit Go.Shelf
set_option maxRecDepth 100000
attribute [local go_sem] Oper.semAt_some
def foldH(F:Int→Int→List Byte→List Byte)(ls:List (List Byte))(is:List Nat):List Byte:=is.foldl (fun (s:List Byte)(i:Nat)=>bothL s (partG (F ((i:Int)+3)) (ls.getD i []))) (zer 16)
theorem foldH_snoc(F:Int→Int→List Byte→List Byte)(ls:List (List Byte))(is:List Nat)(i:Nat):foldH F ls (is++[i])=bothL (foldH F ls is) (partG (F ((i:Int)+3)) (ls.getD i [])):=by
 rw [foldH,List.foldl_append];rfl
theorem foldH_range(F:Int→Int→List Byte→List Byte)(ls:List (List Byte)):∀n,foldH F ls (List.range n)=hashF F ls n
 |0=>rfl
 |n+1=>by rw [List.range_succ,foldH_snoc,foldH_range F ls n,hashF]
theorem foldH_length(F:Int→Int→List Byte→List Byte)(ls:List (List Byte))(is:List Nat):(foldH F ls is).length=16:=by
 rcases List.eq_nil_or_concat is with rfl|⟨l,i,rfl⟩
 · exact zer_length
 · rw [List.concat_eq_append,foldH_snoc];exact bothL_length _ _
set_option maxRecDepth 100000 in
theorem hhash_any(kv:Value)(hkv:kv.cells= #[kv])(hkv1:kv.oneCell'=true)(F:Int→Int→List Byte→List Byte)(hF:∀j m x,(F j m x).length=16)(ls:List (List Byte))(q:Option Addr)(d:Nat)(w0:World)(hl:RdR w0 q ls)(hld:ls.length≤d)(hlm:ls.length≤70368744177000)(hls:∀i,(ls.getD i []).length≤70368744177000)
   (CE:∀wx,Ext w0 wx→∀(j m:Int)(x:List Byte),x.length=16→j≤9223372036854775807→m≤9223372036854775807→Gives Tryz.prog 98 #[kv, .int .i64 j, .int .i64 m,A8 x] wx (A8 (F j m x))):
   Gives Tryz.prog 97 #[kv, .slice q ls.length d] w0 (A8 (hashG F ls)):=by
 unfold Gives
 have hm:=Own.start w0
 have HE:=hid CE
 have HF:=hid hF
 have HL:=hid hl
 have HS:=hid hls
 -- the row's cells
 obtain⟨vs,hvs⟩:∃vs:Nat→Value,∀i,i<ls.length→w0.cell? ((q.getD default).add i)=some (vs i)∧∃p c,vs i= .slice p (ls.getD i []).length c∧RdB w0 p (ls.getD i [])∧(ls.getD i []).length≤c:=by
   refine⟨fun i=>(w0.cell? ((q.getD default).add i)).getD undef,fun i hi=> ?_⟩
   obtain⟨p,c,h1,h2,h3⟩:=hl.2 i hi
   dsimp only
   exact⟨by rw [h1];rfl,p,c,by rw [h1];rfl,h2,h3.1⟩
 have HV:=hid hvs
 have HQ:=hid hl.1
 have lG:=hashG_length F ls
 have eG:Hid (foldH F ls (List.range ls.length)=hashG F ls):=hid (foldH_range F ls ls.length)
 have lFo:=hid (foldH_length F ls)
 clear CE hF hl hls hvs
 generalize hN:ls.length=N at*
 generalize hashG F ls=D at*
 refine(callsIn_wide (n:=4)).1 ?_
 refine callsIn_of_wp_marks Tryz.func97 rfl trivial ?_ rfl
 refine wpIn_wide.2 ?_
 simp only [Tryz.ntmps97,List.size_toArray,List.length_cons,List.length_nil,Nat.reduceAdd,Nat.reduceSub,Array.replicate_succ,Array.replicate_zero,List.push_toArray,List.append_toArray,List.nil_append,List.cons_append]
 go_wp2_with (first|((with_reducible apply wq_box1 (v:=kv) hm);exact rfl;exact rfl;exact hkv;clear hm;intro g1 w hm)|(((with_reducible show qAl);refine zG hm ?_);clear hm;(first|(have hx_:=g1;clear hx_;(first|(have hx_:=g2;clear hx_;(first|(have hx_:=g3;clear hx_;intro gx_)|intro g3))|intro g2))|intro g1);intro w hm))
 refine(numbered_any q N d _).mono ?_
 rintro e_ w ⟨gb,rfl,hgb_,hrb_,hx_⟩
 replace hm:=hm.push hx_ hgb_ hrb_
 clear hgb_ hrb_ hx_
 go_wp2_with fail
 refine(wpIn_wide (n:=4)).1 ?_
 have hx0:=hm.x
 have hBs:_root_.Go.World.cell? w ⟨gb,0,none⟩=some (.slice q N d):=by rw [row_cell (hm.row .hd) 0];rfl
 refine wpIn_rangeFunc_ownG (F:=Fence.wide) rfl (by omega) (gf:=140) (lb:= #[.pointer (some ⟨gb,0,none⟩)]) rfl trivial (enters_of Tryz.func140 (by kernel_rfl) rfl)
   (numbered_stops 3 (by omega) gb w0 w N d q vs hlm hld HQ.out (fun j hj=>(HV.out j hj).1) hx0 hBs) belowK_t (belowK_b hx0.size) (Below.refl _ _) (fun _=>rfl)
   (fun (pre:List {i:Nat//i<N}) W=>Own w0 W [⟨gb,48,[.slice q N d]⟩,⟨g3,132,(foldH F ls (pre.map fun x:{i:Nat//i<N}=>x.1)).map v8⟩,⟨g2,132,(zer 16).map v8⟩,⟨g1,103,[kv]⟩])
   (fun _ _ _=>False)
   (fun s A B row hs hg hr=>hs.kept hg (fun r e=>⟨Nat.le_trans hx0.size (hr r e).1,(hr r e).2⟩))
   (fun _ _ _ _ _ hs _ _=>hs)
   hm
   (fun x=>{tmps:= #[kv, .slice q N d, .pointer (some ⟨g1,0,none⟩),undef, .pointer (some ⟨g2,0,none⟩), .pointer (some ⟨g3,0,none⟩), .int .i64 (3+(x.1:Int)),vs x.1, .slice q N d, .func (.func 140) #[] #[.pointer (some ⟨gb,0,none⟩)], .int .i64 (3+(x.1:Int)),vs x.1,undef,undef,undef,undef,undef,undef,undef],defers:=[]}) ?assign ?body ?done ?stop
 case assign=>
   intro l x W K hK
   gi_wp2
   exact hK
 case body=>
   rintro l pre ⟨i,hi⟩ W hI _
   obtain⟨_,p,cp,hv,hrd,hcp⟩:=HV.out i hi
   have hm:=hI
   clear hI
   dsimp only
   rw [hv]
   have hxW:=hm.x
   have hlb:=HS.out i
   have c1:=fun wx (hwx:Ext W wx)=>hpart_any kv (F (3+(i:Int))) (HF.out _) (3+(i:Int)) (ls.getD i []) p cp wx (hrd.ext (hxW.trans hwx)) hcp hlb (fun wy hy m x hx1 hx2=>HE.out wy ((hxW.trans hwx).trans hy) _ m x hx1 (by omega) hx2)
   have lP:=partG_length (F (3+(i:Int))) (ls.getD i [])
   have c2:=fun wx=>hplus_any (foldH F ls (pre.map fun x:{i:Nat//i<N}=>x.1)) (partG (F (3+(i:Int))) (ls.getD i [])) (lFo.out _) lP wx
   have e2:bothL (foldH F ls (pre.map fun x:{i:Nat//i<N}=>x.1)) (partG (F (3+(i:Int))) (ls.getD i []))=foldH F ls ((pre++[(⟨i,hi⟩:{i:Nat//i<N})]).map fun x:{i:Nat//i<N}=>x.1):=by rw [List.map_append,mCo,mNi,foldH_snoc,Int.add_comm]
   rw [e2]at c2
   have l1:=lFo.out (pre.map fun x:{i:Nat//i<N}=>x.1)
   have l2:=lFo.out ((pre++[(⟨i,hi⟩:{i:Nat//i<N})]).map fun x:{i:Nat//i<N}=>x.1)
   have C1:=hid c1
   have C2:=hid c2
   clear c1 c2 e2 hv hrd hcp hlb
   generalize ls.getD i []=b at*
   generalize hS2:foldH F ls ((pre++[(⟨i,hi⟩:{i:Nat//i<N})]).map fun x:{i:Nat//i<N}=>x.1)=S2 at*
   generalize foldH F ls (pre.map fun x:{i:Nat//i<N}=>x.1)=S1 at*
   generalize partG (F (3+(i:Int))) b=Pt at*
   have HS2:=hid hS2
   clear hS2
   refine wpIn_block ?_
   refine region_in l _ (by rintro ⟨_,_,h⟩;exact h) 6 (fun w'=>Ext _ w') 19 (by kernel_rfl) (by kernel_rfl) (by kernel_rfl) rfl (fun _ _ h k=>h.trans k) (drew_ext _) ?_
   simp only [zTa]
   repeat (first
       | (apply walk_is rfl rfl rfl
          · (intro wx hwx;first|((with_reducible show qGl);first|(exact zJ (hm.ext hwx))|(exact zK (hm.ext hwx))|(exact zL (hm.ext hwx)))|(go_simp;(try go_bits);first|exact gives_same|exact gives_skip|with_reducible exact gives_call (C1.out wx hwx)|with_reducible exact gives_call (C2.out wx)))
          · (simp only [zPu];rfl))
       | (apply walk_not rfl rfl rfl
          · (simp only [zPu];rfl)))
   intro wz hwz
   simp only [zZi]
   repeat (first|rw [fin_is]|(rw [fin_cons];intro _ _))
   rw [fin_nil]
   try (replace hm:=hm.ext hwz)
   simp only [zPu]
   go_wp2_with ((with_reducible apply wq_stWK hm);exact rfl;infer_instance;exact rfl;exact rfl;(exact(by repeat (first|exact Swap.hd|assumption|apply Swap.tl)));(rw [List.length_map];assumption);(rw [List.length_map];assumption);(exact one_v8 _);clear hm;intro w hm hko hbe)
   exact⟨(hwz.others.trans hko).from _,(Below.mono hwz hxW.size).trans (Below.mono hbe (Nat.le_refl _)),by dsimp only;rw [HS2.out];exact hm⟩
 case done=>
   rintro D2 xs W hD hxs hI hK
   rw [hxs,eG.out]at hI
   have hm:=hI
   clear hI
   go_wp2_with (first|((with_reducible apply wq_stWK hm);exact rfl;infer_instance;exact rfl;exact rfl;(exact(by repeat (first|exact Swap.hd|assumption|apply Swap.tl)));(rw [List.length_map];assumption);(rw [List.length_map];exact zer_length);(exact one_v8 _);clear hm;intro w hm hko _;replace hK:=hko.same _ _ hK rfl;clear hko)|(first|((with_reducible show qLd);refine zB hm ?_)))
   exact retM_own hm rfl rfl (by infer_instance) (by repeat (first|exact Has.hd|assumption|apply Has.tl)) (by rw [List.length_map];assumption) rfl (Nat.le_trans hx0.size hD) hK (fun w' h=>⟨rfl,h⟩)
 case stop=>
   rintro D2 c pre W _ _ h _
   exact h.elim
end Go.Proofs.YtneacgpmjlocjaaGreatDoor
