/-
  Texts of the program, walked, and plain ones. Conditions: those written in each theorem.
-/
import Derived.Test.YtneacgpmjlocjaaGreatDoorZTopText0
import Derived.Test.YtneacgpmjlocjaaGreatDoorZTopText2
import Derived.Test.YtneacgpmjlocjaaGreatDoorZTopText9
import Derived.Test.YtneacgpmjlocjaaGreatDoorZTopText11
import Derived.Test.YtneacgpmjlocjaaGreatDoorZTopText7
import Derived.Test.YtneacgpmjlocjaaGreatDoorZTopText8
import Derived.Test.YtneacgpmjlocjaaGreatDoorZTopText4
import Derived.Lib.AppendZerosOnto
import Derived.Test.YtneacgpmjlocjaaGreatDoorZTopText5
set_option linter.unusedSimpArgs false
set_option linter.unusedVariables false
set_option maxHeartbeats 16000000
open Go.Lib (hid)
namespace Go.Proofs.YtneacgpmjlocjaaGreatDoor
open Go Go.RowKit
set_option maxRecDepth 100000
theorem snum_any(d:Nat)(hd:d<64)(w:World):Calls Tryz.prog 26 #[v8 (sgnB d)] w fun e w'=>e= .returned (.tuple #[v8 (BitVec.ofNat 8 d), .bool true])∧w=w':=by
 have e2:v8 (BitVec.ofNat 8 d)= .int .u8 (d:Int):=by rw [v8];congr 1;simp;omega
 rw [e2]
 clear e2
 by_cases h1:d<26
 · have e1:v8 (sgnB d)= .int .u8 (65+(d:Int)):=by rw [sgnB,if_pos h1,v8];congr 1;simp;omega
   rw [e1]
   clear e1
   have b1:(d:Int)<26:=by omega
   go_enter Tryz.func26,Tryz.ntmps26
   go_wp2
   all_goals first|(exfalso;omega)|(go_ret2;exact⟨congrArg (fun z=>Ending.returned (Value.tuple #[Value.int .u8 z, .bool true])) (show 65+(d:Int)-65=(d:Int)from by omega),rfl⟩)
 · by_cases h2:d<52
   · have e1:v8 (sgnB d)= .int .u8 (71+(d:Int)):=by rw [sgnB,if_neg h1,if_pos h2,v8];congr 1;simp;omega
     rw [e1]
     clear e1
     have b1:(d:Int)<52:=by omega
     have b2:26≤(d:Int):=by omega
     go_enter Tryz.func26,Tryz.ntmps26
     go_wp2
     all_goals first|(exfalso;omega)|(go_ret2;exact⟨congrArg (fun z=>Ending.returned (Value.tuple #[Value.int .u8 z, .bool true])) (show 71+(d:Int)-97+26=(d:Int)from by omega),rfl⟩)
   · by_cases h3:d<62
     · obtain⟨k,rfl⟩:∃k,d=k+52:=⟨d-52,by omega⟩
       have e1:v8 (sgnB (k+52))= .int .u8 (48+(k:Int)):=by rw [sgnB,if_neg h1,if_neg h2,if_pos h3,v8];congr 1;simp;omega
       rw [e1,show((k+52:Nat):Int)=(k:Int)+52 from by omega]
       clear e1
       have b1:(k:Int)<10:=by omega
       go_enter Tryz.func26,Tryz.ntmps26
       go_wp2
       all_goals first|(exfalso;omega)|(go_ret2;exact⟨congrArg (fun z=>Ending.returned (Value.tuple #[Value.int .u8 z, .bool true])) (show 48+(k:Int)-48+52=(k:Int)+52 from by omega),rfl⟩)
     · by_cases h4:d=62
       · subst h4
         rw [show v8 (sgnB 62)= .int .u8 45 from rfl]
         go_enter Tryz.func26,Tryz.ntmps26
         go_wp2
         go_ret2
         exact⟨rfl,rfl⟩
       · obtain rfl:d=63:=by omega
         rw [show v8 (sgnB 63)= .int .u8 95 from rfl]
         go_enter Tryz.func26,Tryz.ntmps26
         go_wp2
         go_ret2
         exact⟨rfl,rfl⟩
def sgnL:List Byte:=tab 64 sgnB
theorem sgnL_text:bstr sgnL=⟨#[65,66,67,68,69,70,71,72,73,74,75,76,77,78,79,80,81,82,83,84,85,86,87,88,89,90,97,98,99,100,101,102,103,104,105,106,107,108,109,110,111,112,113,114,115,116,117,118,119,120,121,122,48,49,50,51,52,53,54,55,56,57,45,95]⟩:=by decide+kernel
theorem sgnL_nth(d:Nat)(h:d<64):nth sgnL d=sgnB d:=nth_tab h
theorem sxenc_any(b:List Byte)(p:Option Addr)(c:Nat)(hl:b.length≤1000)(hc:b.length≤c)(w0:World)(hr:RdB w0 p b):Gives Tryz.prog 16 #[.slice p b.length c] w0 (.string (bstr (sxE b))):=by
 unfold Gives
 have hm:=Own.start w0
 have HR:=hid fun w (hx:Ext w0 w)=>hr.ext hx
 obtain⟨N,hN⟩:=exq (b.length)
 have HN:=hid hN
 rw [←hN]at hl hc⊢
 clear hr hN
 obtain⟨R,hR⟩:∃R:Nat,R=(N+2)/3*4:=⟨_,rfl⟩
 have q0:((N:Int)+2).tdiv 3*4=(R:Int):=by rw [Int.tdiv_eq_ediv_of_nonneg (by omega),hR];omega
 have hR1:R≤2000:=by omega
 clear hR
 go_enter Tryz.func16,Tryz.ntmps16
 go_wp2_with (first|((with_reducible apply wq_mkR 0 R hm);exact rfl;exact rfl;exact rfl;exact rfl;(focus omega);(focus omega);(focus omega);clear hm;intro g1 w hm))
 -- LOOP
 have HS0:=SlO.room g1 5 1 R ((zeros R).map v8) (by simp) (by unfold maxLen;omega)
 go_loopw [3,4] (fun vo vi wr=>∃(q o d:Nat)(r:Option Addr)(M:List Blk),vi= .int .i64 (3*(q:Int))∧vo= .slice r o d∧o=min (4*q) (sxN N)∧3*q≤N+2∧SlO M 5 1 (.slice r o d) o ((sxF b o).map v8)∧Own w0 wr (M++[])) (fun _ vi _=>N+3-(intOf vi).toNat)
 case atStart=>exact⟨0,0,R,_,_,rfl,rfl,by simp,by omega,HS0,hm⟩
 case round =>
   obtain⟨q,o,d,r,M,rfl,rfl,ho,hq,hs,hm⟩:=hrel
   by_cases hlt:3*q<N
   · have hd1:decide (3*(q:Int)<(N:Int))=true:=decide_eq_true (by omega)
     have hd2:3*(q:Int)<(N:Int):=by omega
     have hb:0≤3*(q:Int)∧3*(q:Int)<(N:Int):=by omega
     have t0:(3*(q:Int)).toNat=3*q:=by omega
     have t1:(3*(q:Int)+1).toNat=3*q+1:=by omega
     have t2:(3*(q:Int)+2).toNat=3*q+2:=by omega
     have ho4:o=4*q:=by rw [ho];unfold sxN;split<;>omega
     obtain⟨A,rfl⟩:=Option.isSome_iff_exists.1 ((HR.out w0 (Ext.refl _)).1 (by rw [←HN.out];omega))
     have HO:=hid hs
     have O4:=hid ho4
     clear hs ho ho4
     obtain⟨NN,hNN⟩:=exq (n24 (nth b (3*q)) (nth b (3*q+1)) (nth b (3*q+2)))
     have SX:=hid fun (k:Nat)(hk:k<4)=>(show six b (4*q+k)=NN>>>(18-6*k)&&&63#32 from by
       rw [hNN,six,show(4*q+k)/4=q by omega,show(4*q+k)%4=k by omega])
     have S64:=hid fun (k:Nat)(hk:k<4)=>(show(NN>>>(18-6*k)&&&63#32).toNat<64 from by rw [←SX.out k hk];exact six_lt b _)
     have HN1:=hid hNN
     clear hNN
     by_cases h2:3*q+2<N
     · skip
       have d1:decide (3*(q:Int)+1<(N:Int))=true:=decide_eq_true (by omega)
       have d2:decide (3*(q:Int)+2<(N:Int))=true:=decide_eq_true (by omega)
       have e1:3*(q:Int)+1<(N:Int):=by omega
       have f1:0≤3*(q:Int)+1∧3*(q:Int)+1<(N:Int):=by omega
       have e2:3*(q:Int)+2<(N:Int):=by omega
       have f2:0≤3*(q:Int)+2∧3*(q:Int)+2<(N:Int):=by omega
       have EN:=hid (show((nth b (3*q)).setWidth 32<<<16|||(nth b (3*q+1)).setWidth 32<<<8|||(nth b (3*q+2)).setWidth 32)=NN from HN1.out.symm)
       go_wp2_with (first|((with_reducible apply wq_rdb (k:=3*q) (HR.out _ hm.x));exact rfl;infer_instance;exact rfl;(rw [←HN.out];omega))|((with_reducible apply wq_rdb (k:=3*q+1) (HR.out _ hm.x));exact rfl;infer_instance;exact rfl;(rw [←HN.out];omega))|((with_reducible apply wq_rdb (k:=3*q+2) (HR.out _ hm.x));exact rfl;infer_instance;exact rfl;(rw [←HN.out];omega)))
       rw [EN.out]
       clear EN HN1
       go_wp2_with fail
       go_loopw [3,58] (fun vo vi wr=>∃(k o d:Nat)(r:Option Addr)(M:List Blk),vi= .int .i64 (k:Int)∧vo= .slice r o d∧o=4*q+k∧k≤4∧SlO M 5 1 (.slice r o d) o ((sxF b o).map v8)∧Own w0 wr (M++[])) (fun _ vi _=>4-(intOf vi).toNat)
       case atStart=>exact⟨0,o,d,r,M,rfl,rfl,by rw [O4.out];rfl,by omega,HO.out,hm⟩
       case round=>
         obtain⟨k,o,d,r,M,rfl,rfl,ho,hk,hs,hm⟩:=hrel
         clear HO O4
         have HO:=hid hs
         have FIT:=hid (show(o+1)*(1+1)≤140737488355328 from by omega)
         have EO:=hid fun (x:Byte)(hx:x=sgnB (six b o).toNat)=>(show(sxF b o).map v8++[x].map v8=(sxF b (o+1)).map v8 from by rw [←List.map_append,hx,sxF_succ])
         have OK:=hid ho
         clear hs ho
         by_cases hlk:k<4
         · rcases (show k=0∨k=1∨k=2∨k=3 from by omega)with rfl|rfl|rfl|rfl
           · have IX:=S64.out 0 (by omega)
             obtain⟨X,hX⟩:=exq (sgnB (NN>>>18&&&63#32).toNat)
             have SN:=sgnL_nth _ IX
             rw [←hX]at SN
             have SNN:=hid SN
             have IXX:=hid IX
             have EX:=hid (EO.out X (by rw [hX,OK.out,SX.out 0 (by omega)]))
             clear hX SN IX
             go_wp2_with (first|((with_reducible apply wq_idxS (l:=sgnL) (k:=(NN>>>18&&&63#32).toNat) Tryz.underlying9);exact rfl;exact congrArg Value.string sgnL_text.symm;exact rfl;exact rfl;exact IXX.out;rw [SNN.out])|((with_reducible apply wq_bs1c (bs1_b X) hm);exact rfl;exact rfl;clear hm;intro gz w hm)|((with_reducible show wpList _ _ _ (Oper.mk _ (Op.call _) _ _ _ _::_) _ _);refine wplO_app (M:=M) (R:=_) (ds:=[X].map v8) (hm.perm (List.perm_middle.symm)) HO.out rfl rfl rfl rfl Tryz.underlying22 rfl (cells_b (hm.rdB (g:=gz) (l:=[X]) (by repeat (first|exact Has.hd|assumption|apply Has.tl|apply Has.app)))) (one_map _) FIT.out ?_;clear hm;intro v1 w M1 hm hs1;obtain⟨p_v1,c_v1,rfl⟩:=hs1.form;replace hm:=hm.perm (List.perm_middle)))
             go_roundw
             case rel=>exact⟨1,o+1,_,_,M1,by go_num,rfl,by rw [OK.out],by omega,EX.out ▸ hs1,hm.drop⟩
             case measure=>simp [intOf]<;>omega
           · have IX:=S64.out 1 (by omega)
             obtain⟨X,hX⟩:=exq (sgnB (NN>>>12&&&63#32).toNat)
             have SN:=sgnL_nth _ IX
             rw [←hX]at SN
             have SNN:=hid SN
             have IXX:=hid IX
             have EX:=hid (EO.out X (by rw [hX,OK.out,SX.out 1 (by omega)]))
             clear hX SN IX
             go_wp2_with (first|((with_reducible apply wq_idxS (l:=sgnL) (k:=(NN>>>12&&&63#32).toNat) Tryz.underlying9);exact rfl;exact congrArg Value.string sgnL_text.symm;exact rfl;exact rfl;exact IXX.out;rw [SNN.out])|((with_reducible apply wq_bs1c (bs1_b X) hm);exact rfl;exact rfl;clear hm;intro gz w hm)|((with_reducible show wpList _ _ _ (Oper.mk _ (Op.call _) _ _ _ _::_) _ _);refine wplO_app (M:=M) (R:=_) (ds:=[X].map v8) (hm.perm (List.perm_middle.symm)) HO.out rfl rfl rfl rfl Tryz.underlying22 rfl (cells_b (hm.rdB (g:=gz) (l:=[X]) (by repeat (first|exact Has.hd|assumption|apply Has.tl|apply Has.app)))) (one_map _) FIT.out ?_;clear hm;intro v1 w M1 hm hs1;obtain⟨p_v1,c_v1,rfl⟩:=hs1.form;replace hm:=hm.perm (List.perm_middle)))
             go_roundw
             case rel=>exact⟨2,o+1,_,_,M1,by go_num,rfl,by rw [OK.out],by omega,EX.out ▸ hs1,hm.drop⟩
             case measure=>simp [intOf]<;>omega
           · have IX:=S64.out 2 (by omega)
             obtain⟨X,hX⟩:=exq (sgnB (NN>>>6&&&63#32).toNat)
             have SN:=sgnL_nth _ IX
             rw [←hX]at SN
             have SNN:=hid SN
             have IXX:=hid IX
             have EX:=hid (EO.out X (by rw [hX,OK.out,SX.out 2 (by omega)]))
             clear hX SN IX
             go_wp2_with (first|((with_reducible apply wq_idxS (l:=sgnL) (k:=(NN>>>6&&&63#32).toNat) Tryz.underlying9);exact rfl;exact congrArg Value.string sgnL_text.symm;exact rfl;exact rfl;exact IXX.out;rw [SNN.out])|((with_reducible apply wq_bs1c (bs1_b X) hm);exact rfl;exact rfl;clear hm;intro gz w hm)|((with_reducible show wpList _ _ _ (Oper.mk _ (Op.call _) _ _ _ _::_) _ _);refine wplO_app (M:=M) (R:=_) (ds:=[X].map v8) (hm.perm (List.perm_middle.symm)) HO.out rfl rfl rfl rfl Tryz.underlying22 rfl (cells_b (hm.rdB (g:=gz) (l:=[X]) (by repeat (first|exact Has.hd|assumption|apply Has.tl|apply Has.app)))) (one_map _) FIT.out ?_;clear hm;intro v1 w M1 hm hs1;obtain⟨p_v1,c_v1,rfl⟩:=hs1.form;replace hm:=hm.perm (List.perm_middle)))
             go_roundw
             case rel=>exact⟨3,o+1,_,_,M1,by go_num,rfl,by rw [OK.out],by omega,EX.out ▸ hs1,hm.drop⟩
             case measure=>simp [intOf]<;>omega
           · have IX:=S64.out 3 (by omega)
             obtain⟨X,hX⟩:=exq (sgnB (NN>>>0&&&63#32).toNat)
             have SN:=sgnL_nth _ IX
             rw [←hX]at SN
             have SNN:=hid SN
             have IXX:=hid IX
             have EX:=hid (EO.out X (by rw [hX,OK.out,SX.out 3 (by omega)]))
             clear hX SN IX
             go_wp2_with (first|((with_reducible apply wq_idxS (l:=sgnL) (k:=(NN>>>0&&&63#32).toNat) Tryz.underlying9);exact rfl;exact congrArg Value.string sgnL_text.symm;exact rfl;exact rfl;exact IXX.out;rw [SNN.out])|((with_reducible apply wq_bs1c (bs1_b X) hm);exact rfl;exact rfl;clear hm;intro gz w hm)|((with_reducible show wpList _ _ _ (Oper.mk _ (Op.call _) _ _ _ _::_) _ _);refine wplO_app (M:=M) (R:=_) (ds:=[X].map v8) (hm.perm (List.perm_middle.symm)) HO.out rfl rfl rfl rfl Tryz.underlying22 rfl (cells_b (hm.rdB (g:=gz) (l:=[X]) (by repeat (first|exact Has.hd|assumption|apply Has.tl|apply Has.app)))) (one_map _) FIT.out ?_;clear hm;intro v1 w M1 hm hs1;obtain⟨p_v1,c_v1,rfl⟩:=hs1.form;replace hm:=hm.perm (List.perm_middle)))
             go_roundw
             case rel=>exact⟨4,o+1,_,_,M1,by go_num,rfl,by rw [OK.out],by omega,EX.out ▸ hs1,hm.drop⟩
             case measure=>simp [intOf]<;>omega
         · obtain rfl:k=4:=by omega
           rw [show((4:Nat):Int)=4 from rfl]
           have hd9:decide ((4:Int)<4)=false:=by decide
           go_wp2_with fail
           go_roundw
           case rel=>exact⟨q+1,o,d,r,M,by go_num,rfl,by rw [OK.out];unfold sxN;split<;>omega,by omega,HO.out,hm⟩
           case measure=>simp [intOf]<;>omega
     · by_cases h1:3*q+1<N
       · skip
         have d1:decide (3*(q:Int)+1<(N:Int))=true:=decide_eq_true (by omega)
         have d2:decide (3*(q:Int)+2<(N:Int))=false:=decide_eq_false (by omega)
         have e1:3*(q:Int)+1<(N:Int):=by omega
         have f1:0≤3*(q:Int)+1∧3*(q:Int)+1<(N:Int):=by omega
         have e2:¬3*(q:Int)+2<(N:Int):=by omega
         have EN:=hid (show((nth b (3*q)).setWidth 32<<<16|||(nth b (3*q+1)).setWidth 32<<<8)=NN from by rw [HN1.out,nth_ge (l:=b) (i:=3*q+2) (by rw [←HN.out];omega)];simp [n24])
         go_wp2_with (first|((with_reducible apply wq_rdb (k:=3*q) (HR.out _ hm.x));exact rfl;infer_instance;exact rfl;(rw [←HN.out];omega))|((with_reducible apply wq_rdb (k:=3*q+1) (HR.out _ hm.x));exact rfl;infer_instance;exact rfl;(rw [←HN.out];omega)))
         rw [EN.out]
         clear EN HN1
         go_wp2_with fail
         go_loopw [3,58] (fun vo vi wr=>∃(k o d:Nat)(r:Option Addr)(M:List Blk),vi= .int .i64 (k:Int)∧vo= .slice r o d∧o=4*q+k∧k≤3∧SlO M 5 1 (.slice r o d) o ((sxF b o).map v8)∧Own w0 wr (M++[])) (fun _ vi _=>3-(intOf vi).toNat)
         case atStart=>exact⟨0,o,d,r,M,rfl,rfl,by rw [O4.out];rfl,by omega,HO.out,hm⟩
         case round=>
           obtain⟨k,o,d,r,M,rfl,rfl,ho,hk,hs,hm⟩:=hrel
           clear HO O4
           have HO:=hid hs
           have FIT:=hid (show(o+1)*(1+1)≤140737488355328 from by omega)
           have EO:=hid fun (x:Byte)(hx:x=sgnB (six b o).toNat)=>(show(sxF b o).map v8++[x].map v8=(sxF b (o+1)).map v8 from by rw [←List.map_append,hx,sxF_succ])
           have OK:=hid ho
           clear hs ho
           by_cases hlk:k<3
           · rcases (show k=0∨k=1∨k=2 from by omega)with rfl|rfl|rfl
             · have IX:=S64.out 0 (by omega)
               obtain⟨X,hX⟩:=exq (sgnB (NN>>>18&&&63#32).toNat)
               have SN:=sgnL_nth _ IX
               rw [←hX]at SN
               have SNN:=hid SN
               have IXX:=hid IX
               have EX:=hid (EO.out X (by rw [hX,OK.out,SX.out 0 (by omega)]))
               clear hX SN IX
               go_wp2_with (first|((with_reducible apply wq_idxS (l:=sgnL) (k:=(NN>>>18&&&63#32).toNat) Tryz.underlying9);exact rfl;exact congrArg Value.string sgnL_text.symm;exact rfl;exact rfl;exact IXX.out;rw [SNN.out])|((with_reducible apply wq_bs1c (bs1_b X) hm);exact rfl;exact rfl;clear hm;intro gz w hm)|((with_reducible show wpList _ _ _ (Oper.mk _ (Op.call _) _ _ _ _::_) _ _);refine wplO_app (M:=M) (R:=_) (ds:=[X].map v8) (hm.perm (List.perm_middle.symm)) HO.out rfl rfl rfl rfl Tryz.underlying22 rfl (cells_b (hm.rdB (g:=gz) (l:=[X]) (by repeat (first|exact Has.hd|assumption|apply Has.tl|apply Has.app)))) (one_map _) FIT.out ?_;clear hm;intro v1 w M1 hm hs1;obtain⟨p_v1,c_v1,rfl⟩:=hs1.form;replace hm:=hm.perm (List.perm_middle)))
               go_roundw
               case rel=>exact⟨1,o+1,_,_,M1,by go_num,rfl,by rw [OK.out],by omega,EX.out ▸ hs1,hm.drop⟩
               case measure=>simp [intOf]<;>omega
             · have IX:=S64.out 1 (by omega)
               obtain⟨X,hX⟩:=exq (sgnB (NN>>>12&&&63#32).toNat)
               have SN:=sgnL_nth _ IX
               rw [←hX]at SN
               have SNN:=hid SN
               have IXX:=hid IX
               have EX:=hid (EO.out X (by rw [hX,OK.out,SX.out 1 (by omega)]))
               clear hX SN IX
               go_wp2_with (first|((with_reducible apply wq_idxS (l:=sgnL) (k:=(NN>>>12&&&63#32).toNat) Tryz.underlying9);exact rfl;exact congrArg Value.string sgnL_text.symm;exact rfl;exact rfl;exact IXX.out;rw [SNN.out])|((with_reducible apply wq_bs1c (bs1_b X) hm);exact rfl;exact rfl;clear hm;intro gz w hm)|((with_reducible show wpList _ _ _ (Oper.mk _ (Op.call _) _ _ _ _::_) _ _);refine wplO_app (M:=M) (R:=_) (ds:=[X].map v8) (hm.perm (List.perm_middle.symm)) HO.out rfl rfl rfl rfl Tryz.underlying22 rfl (cells_b (hm.rdB (g:=gz) (l:=[X]) (by repeat (first|exact Has.hd|assumption|apply Has.tl|apply Has.app)))) (one_map _) FIT.out ?_;clear hm;intro v1 w M1 hm hs1;obtain⟨p_v1,c_v1,rfl⟩:=hs1.form;replace hm:=hm.perm (List.perm_middle)))
               go_roundw
               case rel=>exact⟨2,o+1,_,_,M1,by go_num,rfl,by rw [OK.out],by omega,EX.out ▸ hs1,hm.drop⟩
               case measure=>simp [intOf]<;>omega
             · have IX:=S64.out 2 (by omega)
               obtain⟨X,hX⟩:=exq (sgnB (NN>>>6&&&63#32).toNat)
               have SN:=sgnL_nth _ IX
               rw [←hX]at SN
               have SNN:=hid SN
               have IXX:=hid IX
               have EX:=hid (EO.out X (by rw [hX,OK.out,SX.out 2 (by omega)]))
               clear hX SN IX
               go_wp2_with (first|((with_reducible apply wq_idxS (l:=sgnL) (k:=(NN>>>6&&&63#32).toNat) Tryz.underlying9);exact rfl;exact congrArg Value.string sgnL_text.symm;exact rfl;exact rfl;exact IXX.out;rw [SNN.out])|((with_reducible apply wq_bs1c (bs1_b X) hm);exact rfl;exact rfl;clear hm;intro gz w hm)|((with_reducible show wpList _ _ _ (Oper.mk _ (Op.call _) _ _ _ _::_) _ _);refine wplO_app (M:=M) (R:=_) (ds:=[X].map v8) (hm.perm (List.perm_middle.symm)) HO.out rfl rfl rfl rfl Tryz.underlying22 rfl (cells_b (hm.rdB (g:=gz) (l:=[X]) (by repeat (first|exact Has.hd|assumption|apply Has.tl|apply Has.app)))) (one_map _) FIT.out ?_;clear hm;intro v1 w M1 hm hs1;obtain⟨p_v1,c_v1,rfl⟩:=hs1.form;replace hm:=hm.perm (List.perm_middle)))
               go_roundw
               case rel=>exact⟨3,o+1,_,_,M1,by go_num,rfl,by rw [OK.out],by omega,EX.out ▸ hs1,hm.drop⟩
               case measure=>simp [intOf]<;>omega
           · obtain rfl:k=3:=by omega
             rw [show((3:Nat):Int)=3 from rfl]
             have hd9:decide ((3:Int)<3)=false:=by decide
             go_wp2_with fail
             go_roundw
             case rel=>exact⟨q+1,o,d,r,M,by go_num,rfl,by rw [OK.out];unfold sxN;split<;>omega,by omega,HO.out,hm⟩
             case measure=>simp [intOf]<;>omega
       · skip
         have d1:decide (3*(q:Int)+1<(N:Int))=false:=decide_eq_false (by omega)
         have d2:decide (3*(q:Int)+2<(N:Int))=false:=decide_eq_false (by omega)
         have e1:¬3*(q:Int)+1<(N:Int):=by omega
         have e2:¬3*(q:Int)+2<(N:Int):=by omega
         have EN:=hid (show((nth b (3*q)).setWidth 32<<<16)=NN from by rw [HN1.out,nth_ge (l:=b) (i:=3*q+1) (by rw [←HN.out];omega),nth_ge (l:=b) (i:=3*q+2) (by rw [←HN.out];omega)];simp [n24])
         go_wp2_with (first|((with_reducible apply wq_rdb (k:=3*q) (HR.out _ hm.x));exact rfl;infer_instance;exact rfl;(rw [←HN.out];omega)))
         rw [EN.out]
         clear EN HN1
         go_wp2_with fail
         go_loopw [3,58] (fun vo vi wr=>∃(k o d:Nat)(r:Option Addr)(M:List Blk),vi= .int .i64 (k:Int)∧vo= .slice r o d∧o=4*q+k∧k≤2∧SlO M 5 1 (.slice r o d) o ((sxF b o).map v8)∧Own w0 wr (M++[])) (fun _ vi _=>2-(intOf vi).toNat)
         case atStart=>exact⟨0,o,d,r,M,rfl,rfl,by rw [O4.out];rfl,by omega,HO.out,hm⟩
         case round=>
           obtain⟨k,o,d,r,M,rfl,rfl,ho,hk,hs,hm⟩:=hrel
           clear HO O4
           have HO:=hid hs
           have FIT:=hid (show(o+1)*(1+1)≤140737488355328 from by omega)
           have EO:=hid fun (x:Byte)(hx:x=sgnB (six b o).toNat)=>(show(sxF b o).map v8++[x].map v8=(sxF b (o+1)).map v8 from by rw [←List.map_append,hx,sxF_succ])
           have OK:=hid ho
           clear hs ho
           by_cases hlk:k<2
           · rcases (show k=0∨k=1 from by omega)with rfl|rfl
             · have IX:=S64.out 0 (by omega)
               obtain⟨X,hX⟩:=exq (sgnB (NN>>>18&&&63#32).toNat)
               have SN:=sgnL_nth _ IX
               rw [←hX]at SN
               have SNN:=hid SN
               have IXX:=hid IX
               have EX:=hid (EO.out X (by rw [hX,OK.out,SX.out 0 (by omega)]))
               clear hX SN IX
               go_wp2_with (first|((with_reducible apply wq_idxS (l:=sgnL) (k:=(NN>>>18&&&63#32).toNat) Tryz.underlying9);exact rfl;exact congrArg Value.string sgnL_text.symm;exact rfl;exact rfl;exact IXX.out;rw [SNN.out])|((with_reducible apply wq_bs1c (bs1_b X) hm);exact rfl;exact rfl;clear hm;intro gz w hm)|((with_reducible show wpList _ _ _ (Oper.mk _ (Op.call _) _ _ _ _::_) _ _);refine wplO_app (M:=M) (R:=_) (ds:=[X].map v8) (hm.perm (List.perm_middle.symm)) HO.out rfl rfl rfl rfl Tryz.underlying22 rfl (cells_b (hm.rdB (g:=gz) (l:=[X]) (by repeat (first|exact Has.hd|assumption|apply Has.tl|apply Has.app)))) (one_map _) FIT.out ?_;clear hm;intro v1 w M1 hm hs1;obtain⟨p_v1,c_v1,rfl⟩:=hs1.form;replace hm:=hm.perm (List.perm_middle)))
               go_roundw
               case rel=>exact⟨1,o+1,_,_,M1,by go_num,rfl,by rw [OK.out],by omega,EX.out ▸ hs1,hm.drop⟩
               case measure=>simp [intOf]<;>omega
             · have IX:=S64.out 1 (by omega)
               obtain⟨X,hX⟩:=exq (sgnB (NN>>>12&&&63#32).toNat)
               have SN:=sgnL_nth _ IX
               rw [←hX]at SN
               have SNN:=hid SN
               have IXX:=hid IX
               have EX:=hid (EO.out X (by rw [hX,OK.out,SX.out 1 (by omega)]))
               clear hX SN IX
               go_wp2_with (first|((with_reducible apply wq_idxS (l:=sgnL) (k:=(NN>>>12&&&63#32).toNat) Tryz.underlying9);exact rfl;exact congrArg Value.string sgnL_text.symm;exact rfl;exact rfl;exact IXX.out;rw [SNN.out])|((with_reducible apply wq_bs1c (bs1_b X) hm);exact rfl;exact rfl;clear hm;intro gz w hm)|((with_reducible show wpList _ _ _ (Oper.mk _ (Op.call _) _ _ _ _::_) _ _);refine wplO_app (M:=M) (R:=_) (ds:=[X].map v8) (hm.perm (List.perm_middle.symm)) HO.out rfl rfl rfl rfl Tryz.underlying22 rfl (cells_b (hm.rdB (g:=gz) (l:=[X]) (by repeat (first|exact Has.hd|assumption|apply Has.tl|apply Has.app)))) (one_map _) FIT.out ?_;clear hm;intro v1 w M1 hm hs1;obtain⟨p_v1,c_v1,rfl⟩:=hs1.form;replace hm:=hm.perm (List.perm_middle)))
               go_roundw
               case rel=>exact⟨2,o+1,_,_,M1,by go_num,rfl,by rw [OK.out],by omega,EX.out ▸ hs1,hm.drop⟩
               case measure=>simp [intOf]<;>omega
           · obtain rfl:k=2:=by omega
             rw [show((2:Nat):Int)=2 from rfl]
             have hd9:decide ((2:Int)<2)=false:=by decide
             go_wp2_with fail
             go_roundw
             case rel=>exact⟨q+1,o,d,r,M,by go_num,rfl,by rw [OK.out];unfold sxN;split<;>omega,by omega,HO.out,hm⟩
             case measure=>simp [intOf]<;>omega
   · have hd1:decide (3*(q:Int)<(N:Int))=false:=decide_eq_false (by omega)
     have hd2:¬3*(q:Int)<(N:Int):=by omega
     have hoN:o=sxN N:=by rw [ho];unfold sxN;split<;>omega
     have hrd:=slo_rdZ hs hm
     have s1:=fun w (hx:Ext wr w)=>conv_str r (sxF b o) d w (hrd.ext hx)
     have S1:=s1 _ (Ext.refl _)
     rw [sxF_length]at S1
     have ES:=hid (show sxF b o=sxE b from by rw [hoN,sxE,HN.out])
     clear s1 hrd hs ho hoN
     go_wp2_with fail
     go_ret
     exact⟨by rw [←ES.out];rfl,hm.x⟩
def dcF(ks:List (List Byte))(x:List Byte):Nat→List Byte
 |0=>x
 |c+1=>unr (dcF ks x c) (ks.getD (ks.length-1-c) [])
theorem dcF_length(ks:List (List Byte))(x:List Byte)(hx:x.length=16):∀c,(dcF ks x c).length=16
 |0=>hx
 |c+1=>unr_length _ _
def aesD(k0:List Byte)(ks:List (List Byte))(kl b:List Byte):List Byte:=bothL (dcF ks (unl b kl) ks.length) k0
theorem aesD_length(k0:List Byte)(ks:List (List Byte))(kl b:List Byte):(aesD k0 ks kl b).length=16:=bothL_length _ _
theorem dcF_rnds(ks:List (List Byte))(x:List Byte)(hx:x.length=16):∀c,c≤ks.length→dcF ks (rnds x ks) c=rnds x (ks.take (ks.length-c))
 |0,_=>by rw [dcF,Nat.sub_zero,List.take_length]
 | c +1,h=>by
   rw [dcF,dcF_rnds ks x hx c (by omega)]
   have e:ks.take (ks.length-c)=ks.take (ks.length-(c+1))++[ks.getD (ks.length-1-c) []]:=by
     rw [show ks.length-c=(ks.length-(c+1))+1 from by omega,List.take_add_one,List.getD_eq_getElem?_getD,show ks.length-1-c=ks.length-(c+1)from by omega,List.getElem?_eq_getElem (by omega)]
     rfl
   rw [e,rnds_append]
   exact unr_rnd _ _ (rnds_length _ _ hx)
theorem aesD_aesE(k0:List Byte)(ks:List (List Byte))(kl b:List Byte)(hb:b.length=16):aesD k0 ks kl (aesE k0 ks kl b)=b:=by
 have lx:=bothL_length b k0
 rw [aesD,aesE,unl_last _ _ (rnds_length _ _ lx),dcF_rnds ks _ lx _ (Nat.le_refl _),Nat.sub_self,tZe]
 exact both_back b k0 hb
def flv(n:Nat):Nat:=floatOfInt .f64 (n:Int)
def flOk(x N:Nat):Bool:=
 (FloatKind.f64.format.order (flv x) 0==some .gt||FloatKind.f64.format.order (flv x) 0==some .eq)&&
 (FloatKind.f64.format.order (flv x) (flv N)==some .lt||FloatKind.f64.format.order (flv x) (flv N)==some .eq)&&
 (floatToIntVal .f64 (flv x) .i64==some (x:Int))&&
 (FloatKind.f64.format.order (flv x) (flv x)==some .eq)
theorem fl_core:((List.range 269).all fun n=>flOk n (n+32)&&flOk (n+16) (n+32)&&flOk 16 (n+32))=true:=by decide+kernel
theorem fl_tiny:((List.range 32).all fun n=>flOk 0 (2*n)&&flOk n (2*n)&&flOk 0 32&&flOk n 32)=true:=by decide+kernel
structure FlIn (b n B N:Nat):Prop where
 ge:(FloatKind.f64.format.order b 0==some .gt||FloatKind.f64.format.order b 0==some .eq)=true
 le:(FloatKind.f64.format.order b B==some .lt||FloatKind.f64.format.order b B==some .eq)=true
 int:floatToIntVal .f64 b .i64=some (n:Int)
 eq:(FloatKind.f64.format.order b b==some .eq)=true
 of:floatOfInt .f64 (n:Int)=b
 up:floatOfInt .f64 (N:Int)=B
theorem flIn_of {x N:Nat}(h:flOk x N=true):FlIn (flv x) x (flv N) N:=by
 simp only [flOk,Bool.and_eq_true]at h
 exact⟨h.1.1.1,h.1.1.2,by simpa using h.1.2,h.2,rfl,rfl⟩
theorem fl_core_at(n:Nat)(h1:32≤n)(h2:n≤300):FlIn (flv (n-32)) (n-32) (flv n) n∧FlIn (flv (n-16)) (n-16) (flv n) n∧FlIn (flv 16) 16 (flv n) n:=by
 have:=List.all_eq_true.1 fl_core (n-32) (by rw [List.mem_range];omega)
 simp only [Bool.and_eq_true]at this
 rw [show n-32+32=n by omega,show n-32+16=n-16 by omega]at this
 exact⟨flIn_of this.1.1,flIn_of this.1.2,flIn_of this.2⟩
theorem fl_tiny_at(n:Nat)(h:n≤31):FlIn (flv 0) 0 (flv (2*n)) (2*n)∧FlIn (flv n) n (flv (2*n)) (2*n)∧FlIn (flv 0) 0 (flv 32) 32∧FlIn (flv n) n (flv 32) 32:=by
 have:=List.all_eq_true.1 fl_tiny n (by rw [List.mem_range];omega)
 simp only [Bool.and_eq_true]at this
 exact⟨flIn_of this.1.1.1,flIn_of this.1.1.2,flIn_of this.1.2,flIn_of this.2⟩
theorem conv_fi {b n:Nat}(h:floatToIntVal .f64 b .i64=some (n:Int))(w:World):(convert 218 3 (.float .f64 b)).run Tryz.prog w= .ok (.int .i64 (n:Int)) w:=run_convert_float_int w _ _ _ _ _ _ (by kernel_rfl) (by kernel_rfl) h
theorem conv_if {b n:Nat}(h:floatOfInt .f64 (n:Int)=b)(w:World):(convert 3 218 (.int .i64 (n:Int))).run Tryz.prog w= .ok (.float .f64 b) w:=h ▸ run_convert_int_float w _ _ _ _ _ (by kernel_rfl) (by kernel_rfl)
theorem fits_any(b n B N g:Nat)(h:FlIn b n B N)(w:World)(hc:w.cell? ⟨g,0,none⟩=some (.int .i64 (N:Int))):Calls Tryz.prog 153 #[.float .f64 b, .pointer (some ⟨g,0,none⟩)] w fun e w'=>e= .returned (.bool true)∧w'=w:=by
 have h1:=h.ge
 have h2:=h.le
 have h4:=h.eq
 have h3:=conv_fi h.int
 have h5:=conv_if h.of
 have h6:=conv_if h.up
 clear h
 go_enter Tryz.func153,Tryz.ntmps153
 go_wp2
 go_ret
 exact⟨rfl,rfl⟩
theorem own_cell {w0 w:World}{L:List Blk}{g:Nat}{t:TypeId}{v:Value}(hm:Own w0 w L)(hh:Has L ⟨g,t,[v]⟩):w.cell? ⟨g,0,none⟩=some v:=row_cell (hm.row hh) 0
theorem whole_any(b n c m B N:Nat)(hn:FlIn b n B N)(hk:FlIn c m B N)(h:n+m≤N)(hN:N≤9223372036854775807)(w0:World):Calls Tryz.prog 148 #[.complex .f64 b c, .int .i64 (N:Int)] w0 fun e w'=>e= .returned (.tuple #[.int .i64 (n:Int), .int .i64 (m:Int), .bool true])∧Ext w0 w':=by
 have hm:=Own.start w0
 have F1:=hid fun g w hc=>fits_any b n B N g hn w hc
 have F2:=hid fun g w hc=>fits_any c m B N g hk w hc
 have h3:=conv_fi hn.int
 have h4:=conv_fi hk.int
 have h5:decide ((N:Int)-(n:Int)<(m:Int))=false:=decide_eq_false (by omega)
 have h6:¬((N:Int)-(n:Int)<(m:Int)):=by omega
 have h7:(N:Int)-(n:Int)≤9223372036854775807:=by omega
 have h8: -9223372036854775808≤(N:Int)-(n:Int):=by omega
 clear hn hk
 go_enter Tryz.func148,Tryz.ntmps148
 go_wp2_with (first|(go_at_call 153;have hc_:=own_cell (g:=g1) (t:=3) (v:= .int .i64 (N:Int)) hm Has.hd;(with_reducible refine(F1.out g1 _ hc_).mono ?_);rintro e_ w_ ⟨rfl,rfl⟩;clear hc_)|(go_at_call 153;have hc_:=own_cell (g:=g1) (t:=3) (v:= .int .i64 (N:Int)) hm Has.hd;(with_reducible refine(F2.out g1 _ hc_).mono ?_);rintro e_ w_ ⟨rfl,rfl⟩;clear hc_)|((with_reducible show qLd);first|(refine zC hm ?_))|((first|((with_reducible show qBx);first|(refine zI hm ?_)));clear hm;(first|(have hx_:=g1;clear hx_;intro gx_)|intro g1);intro w hm))
 go_ret3
 exact⟨rfl,hm.x⟩
theorem eq_nil8(q:Option Addr)(n c:Nat)(w:World):(binOp .eql 22 (.slice q n c) (.slice none 0 0)).run Tryz.prog w= .ok (.bool q.isNone) w:=by
 have h:=run_equal_slice_nil (P:=Tryz.prog) (w:=w) 22 5 q n c (by kernel_rfl)
 simp [binOp,h]
theorem clone_any(l:List Byte)(p:Option Addr)(c:Nat)(w0:World)(hl:RdB w0 p l)(hb:l.length≤70368744177000):GivesR Tryz.prog 74 #[.slice p l.length c] w0 (BytesS l):=by
 unfold GivesR
 have hm:=Own.start w0
 cases p with
 | none=>
   have e1:=fun c w=>eq_nil8 none 0 c w
   obtain rfl:l=[]:=by
     rcases Nat.eq_zero_or_pos l.length with h|h
     · exact List.length_eq_zero_iff.1 h
     · have:=hl.1 h;simp at this
   clear hl
   simp only [List.length_nil]
   go_enter Tryz.func74,Tryz.ntmps74
   go_wp2
   go_ret
   exact⟨_,rfl,⟨none,0,rfl,Nat.le_refl _,RdB.nil _ _⟩,hm.x⟩
 | some a=>
   have HL:=hid hl
   have FIT:=hid (show(0+l.length)*(1+1)≤140737488355328 by omega)
   have LY:=hid (show(l.map v8).length=l.length*1 by simp)
   clear hl
   have e1:=fun n c w=>eq_nil8 (some a) n c w
   go_enter Tryz.func74,Tryz.ntmps74
   go_wp2_with (first|((with_reducible apply wq_bs0 bs0_b hm);exact rfl;clear hm;intro gz w hm)|((with_reducible show wpList _ _ _ (Oper.mk _ (Op.call _) _ _ _ _::_) _ _);refine wplO_app (M:=[⟨gz,5,[]⟩]) (R:=[]) (ds:=l.map v8) hm (slo_room0 gz _ 1) rfl rfl rfl rfl Tryz.underlying22 LY.out (cellsB (HL.out.ext hm.x)) (one_map _) FIT.out ?_;clear hm;intro v1 w M1 hm hs1;obtain⟨p_v1,c_v1,rfl⟩:=hs1.form;simp only [Nat.zero_add,List.nil_append]at hs1⊢))
   go_ret
   have hr:=slo_bytes hs1 hm
   exact⟨_,rfl,⟨_,_,rfl,hr.2.2,hr.1⟩,hm.x⟩
theorem of_any(l:List Byte)(p:Option Addr)(d:Nat)(b n c k B:Nat)(hn:FlIn b n B l.length)(hk:FlIn c k B l.length)(h:n+k≤l.length)(hk0:0<k)(hd:l.length≤d)(hb:l.length≤70368744177000)(w0:World)(hl:RdB w0 p l):
   Calls Tryz.prog 149 #[.slice p l.length d, .complex .f64 b c] w0 fun e w'=>∃v,e= .returned (.tuple #[v, .bool true])∧BytesS ((l.drop n).take k) v w'∧Ext w0 w':=by
 have hm:=Own.start w0
 obtain⟨a,rfl⟩:=Option.isSome_iff_exists.1 (hl.1 (by omega))
 have W1:=hid fun w=>whole_any b n c k B l.length hn hk h (by omega) w
 have lT:((l.drop n).take k).length=k:=by rw [List.length_take,List.length_drop];omega
 have C1:=hid fun (w:World)(hx:Ext w0 w)(e:Nat)=>show GivesR Tryz.prog 74 #[.slice (some (a.add n)) k e] w (BytesS ((l.drop n).take k))from by
   have:=clone_any ((l.drop n).take k) (some (a.add n)) e w ((hl.sub n k h hk0).ext hx) (by omega)
   rwa [lT]at this
 generalize (l.drop n).take k=T at*
 have a1:(n:Int)+(k:Int)≤9223372036854775807:=by omega
 have a2:(0:Int)≤(n:Int)+(k:Int):=by omega
 have a3:(n:Int)≤(n:Int)+(k:Int):=by omega
 have a4:(n:Int)+(k:Int)≤(d:Int):=by omega
 have a5:¬d=n:=by omega
 clear hn hk hl
 go_enter Tryz.func149,Tryz.ntmps149
 go_wp2_with (first|(go_at_call 148;(with_reducible refine(W1.out _).mono ?_);rintro e_ w ⟨rfl,hx_⟩;replace hm:=hm.ext hx_;clear hx_)|(go_at_call 74;(with_reducible refine(C1.out _ hm.x _).mono ?_);rintro e_ w ⟨v_,rfl,hv_,hx_⟩;replace hm:=hm.ext hx_;clear hx_))
 go_ret2
 exact⟨_,rfl,hv_,hm.x⟩
def slP(p:Option Addr)(c l:Nat):Option Addr:=if c=l then p else p.map (·.add l)
theorem addr_zero(a:Addr):a.add 0=a:=by unfold Addr.add;split<;>simp_all
section
variable {P:Program} {ops:Array Oper} {Q:Exit→Act→World→Prop} {rest:List Oper} {dst:Option Tmp} {ty:TypeId} {pos:String} {aft:Array Edge} {gd:Option (Nat×Bool)} {a:Act} {w:World} {T e:TypeId} {x y z:Operand}
theorem run_slL(hT:P.underlying T=some (.slice e))[hE:One1 P e](p:Option Addr)(n c l:Nat)(hl:l≤n)(w:World):(Instr.sliceAt T (.slice p n c) (some (.int .i64 (l:Int))) none none).run P w= .ok (.slice (slP p c l) (n-l) (c-l)) w:=by
 obtain⟨i,hi1,hi2⟩:=Option.map_eq_some_iff.1 hE.size
 simp [Instr.sliceAt,Instr.slice,Instr.sliceBounds,Instr.sliceBound,asIntOf,Sem.run_bind,run_underlying hT,sizeOf,typeInfo,hi1,hi2,hl,slP]
theorem run_slH(hT:P.underlying T=some (.slice e))[hE:One1 P e](p:Option Addr)(n c h:Nat)(hh:h≤c)(w:World):(Instr.sliceAt T (.slice p n c) none (some (.int .i64 (h:Int))) none).run P w= .ok (.slice p h c) w:=by
 obtain⟨i,hi1,hi2⟩:=Option.map_eq_some_iff.1 hE.size
 simp [Instr.sliceAt,Instr.slice,Instr.sliceBounds,Instr.sliceBound,asIntOf,Sem.run_bind,run_underlying hT,sizeOf,typeInfo,hi1,hi2,hh]
 intro _
 cases p<;>simp [addr_zero]
theorem run_slLH(hT:P.underlying T=some (.slice e))[hE:One1 P e](p:Option Addr)(n c l h:Nat)(hl:l≤h)(hh:h≤c)(w:World):(Instr.sliceAt T (.slice p n c) (some (.int .i64 (l:Int))) (some (.int .i64 (h:Int))) none).run P w= .ok (.slice (slP p c l) (h-l) (c-l)) w:=by
 obtain⟨i,hi1,hi2⟩:=Option.map_eq_some_iff.1 hE.size
 simp [Instr.sliceAt,Instr.slice,Instr.sliceBounds,Instr.sliceBound,asIntOf,Sem.run_bind,run_underlying hT,sizeOf,typeInfo,hi1,hi2,hl,hh,slP]
theorem gq_slL {p:Option Addr}{n c l r:Nat}(hT:P.underlying T=some (.slice e))(hE:One1 P e)(hx:a.eval x= .slice p n c)(hy:a.eval y= .int .i64 (l:Int))(hl:l≤n)(hr:n-l=r):gives P w (Is (.slice (slP p c l) r (c-l))) ((execOp a.eval (Oper.mk dst (.slice T x (some y) none none) ty pos aft gd)).run P w):=by
 subst hr
 unfold execOp
 simp only [hx,hy,Sem.run_bind,run_slL hT p n c l hl w,Result.andThen_ok,Sem.run_pure,Option.map_some,Option.map_none]
 exact gives_same
theorem wq_slL {p:Option Addr}{n c l r:Nat}(hT:P.underlying T=some (.slice e))(hE:One1 P e)(hgd:Region.wanted (Oper.mk dst (.slice T x (some y) none none) ty pos aft gd) (yielded ops a.tmps)=true)(hx:a.eval x= .slice p n c)(hy:a.eval y= .int .i64 (l:Int))(hl:l≤n)(hr:n-l=r)(hk:wpList P ops Q rest (a.put dst (.slice (slP p c l) r (c-l))) w):wpList P ops Q ((Oper.mk dst (.slice T x (some y) none none) ty pos aft gd)::rest) a w:=
 wpList_want hgd fun K hK=>by
   subst hr
   unfold Oper.wp execOp
   simp only [hx,hy,Sem.run_bind,run_slL hT p n c l hl w,Result.andThen_ok,Sem.run_pure,Option.map_some,Option.map_none]
   exact hK _ _ hk
theorem wq_slH {p:Option Addr}{n c h:Nat}(hT:P.underlying T=some (.slice e))(hE:One1 P e)(hgd:Region.wanted (Oper.mk dst (.slice T x none (some y) none) ty pos aft gd) (yielded ops a.tmps)=true)(hx:a.eval x= .slice p n c)(hy:a.eval y= .int .i64 (h:Int))(hh:h≤c)(hk:wpList P ops Q rest (a.put dst (.slice p h c)) w):wpList P ops Q ((Oper.mk dst (.slice T x none (some y) none) ty pos aft gd)::rest) a w:=
 wpList_want hgd fun K hK=>by
   unfold Oper.wp execOp
   simp only [hx,hy,Sem.run_bind,run_slH hT p n c h hh w,Result.andThen_ok,Sem.run_pure,Option.map_some,Option.map_none]
   exact hK _ _ hk
theorem wq_slLH {p:Option Addr}{n c l h r:Nat}(hT:P.underlying T=some (.slice e))(hE:One1 P e)(hgd:Region.wanted (Oper.mk dst (.slice T x (some y) (some z) none) ty pos aft gd) (yielded ops a.tmps)=true)(hx:a.eval x= .slice p n c)(hy:a.eval y= .int .i64 (l:Int))(hz:a.eval z= .int .i64 (h:Int))(hl:l≤h)(hh:h≤c)(hr:h-l=r)(hk:wpList P ops Q rest (a.put dst (.slice (slP p c l) r (c-l))) w):wpList P ops Q ((Oper.mk dst (.slice T x (some y) (some z) none) ty pos aft gd)::rest) a w:=
 wpList_want hgd fun K hK=>by
   subst hr
   unfold Oper.wp execOp
   simp only [hx,hy,hz,Sem.run_bind,run_slLH hT p n c l h hl hh w,Result.andThen_ok,Sem.run_pure,Option.map_some,Option.map_none]
   exact hK _ _ hk
end
theorem RdB.slL {w:World}{p:Option Addr}{L:List Byte}(h:RdB w p L)(c l:Nat)(hc:L.length≤c):RdB w (slP p c l) (L.drop l):=by
 unfold slP
 by_cases e:c=l
 · have:L.drop l=[]:=List.drop_eq_nil_of_le (by omega)
   rw [this];exact RdB.nil _ _
 · rw [if_neg e]
   cases p with
   | none=>
     have:L=[]:=RdB.none h
     subst this
     rw [List.drop_nil];exact RdB.nil _ _
   | some a=>
     refine⟨fun _=>rfl,fun i hi=> ?_⟩
     rw [List.length_drop]at hi
     have e:(a.add l).add i=a.add (l+i):=by unfold Addr.add;split<;>split<;>simp_all<;>omega
     simp only [Option.map,Option.getD_some,e]
     have:=h.2 (l+i) (by omega)
     simp only [Option.getD_some]at this
     rw [this];simp [List.getElem?_drop]
theorem RdB.slLH {w:World}{p:Option Addr}{L:List Byte}(h:RdB w p L)(c l k:Nat)(hc:L.length≤c):RdB w (slP p c l) ((L.drop l).take k):=(h.slL c l hc).take k
theorem right15_any(key:List Byte)(p:Option Addr)(c:Nat)(w:World):Calls Tryz.prog 35 #[.slice p key.length c] w fun e w'=>e= .returned (.bool (rightL key))∧w=w':=by
 by_cases h0:0<key.length
 · have a1:decide ((0:Int)<(key.length:Int))=true:=decide_eq_true (by omega)
   have a2:(0:Int)<(key.length:Int):=by omega
   have e1:decide (0<key.length)=true:=decide_eq_true h0
   by_cases h1:key.length≤128
   · have a3:decide ((key.length:Int)≤128)=true:=decide_eq_true (by omega)
     have a4:(key.length:Int)≤128:=by omega
     have e:Hid (rightL key=true):=hid (by rw [rightL,e1,decide_eq_true h1];rfl)
     rw [e.out]
     clear e1
     go_enter Tryz.func35,Tryz.ntmps35
     go_wp2
     go_ret
     exact⟨rfl,rfl⟩
   · have a3:decide ((key.length:Int)≤128)=false:=decide_eq_false (by omega)
     have a4:¬(key.length:Int)≤128:=by omega
     have e:Hid (rightL key=false):=hid (by rw [rightL,e1,decide_eq_false h1];rfl)
     rw [e.out]
     clear e1
     go_enter Tryz.func35,Tryz.ntmps35
     go_wp2
     go_ret
     exact⟨rfl,rfl⟩
 · have e:rightL key=false:=by rw [rightL,decide_eq_false h0];rfl
   rw [e]
   have a2:key.length=0:=by omega
   rw [a2]
   go_enter Tryz.func35,Tryz.ntmps35
   go_wp2
   go_ret
   exact⟨rfl,rfl⟩
theorem Own.join {w0 w w':World}{L M:List Blk}(h:Own w0 w L)(k:Own w w' M):Own w0 w' (M++L):=
 ⟨h.1.trans k.1,by
   rw [List.map_append,List.nodup_append]
   refine⟨k.2.1,h.2.1,fun a ha b hb e=> ?_⟩
   obtain⟨x,hx,rfl⟩:=List.mem_map.1 ha
   obtain⟨y,hy,rfl⟩:=List.mem_map.1 hb
   have h1:=(k.2.2 x hx).1
   have h2:=h.lt y hy
   omega,fun b hb=>by
   rcases List.mem_append.1 hb with hb|hb
   · exact⟨Nat.le_trans h.1.size (k.2.2 b hb).1,(k.2.2 b hb).2⟩
   · exact⟨(h.2.2 b hb).1,row_ext (h.2.2 b hb).2 k.1⟩⟩
theorem Own.rdK {w0 w:World}{L:List Blk}{g:Nat}{e:TypeId}{ks:List (List Byte)}(hm:Own w0 w L)(hh:Has L ⟨g,e,catV ks⟩)(hk:∀k∈ks,k.length=16):RdK w (some ⟨g,0,none⟩) 16 ks:=⟨hk,RdB.of_row (hm.row hh)⟩
theorem RdR.row {w:World}{p:Option Addr}{ls:List (List Byte)}(h:RdR w p ls)(k:Nat)(hk:k<ls.length):∃a:Addr,p=some a∧∃(q:Option Addr)(c:Nat),w.cell? (a.add k)=some (.slice q (ls.getD k []).length c)∧RdB w q (ls.getD k [])∧(ls.getD k []).length≤c∧(ls.getD k []).length≤maxLen:=by
 obtain⟨a,rfl⟩:=Option.isSome_iff_exists.1 (h.1 (by omega))
 exact⟨a,rfl,h.2 k hk⟩
theorem clone_own(l:List Byte)(p:Option Addr)(c:Nat)(w0:World)(hl:RdB w0 p l)(hb:l.length≤70368744177000):Calls Tryz.prog 74 #[.slice p l.length c] w0 fun e w'=>∃v M,e= .returned v∧Own w0 w' (M++[])∧SlO M 5 1 v l.length (l.map v8):=by
 have hm:=Own.start w0
 cases p with
 | none=>
   have e1:=fun c w=>eq_nil8 none 0 c w
   obtain rfl:l=[]:=by
     rcases Nat.eq_zero_or_pos l.length with h|h
     · exact List.length_eq_zero_iff.1 h
     · have:=hl.1 h;simp at this
   clear hl
   simp only [List.length_nil]
   go_enter Tryz.func74,Tryz.ntmps74
   go_wp2
   go_ret
   exact⟨_,[],rfl,hm,SlO.nil _ _⟩
 | some a=>
   have HL:=hid hl
   have FIT:=hid (show(0+l.length)*(1+1)≤140737488355328 by omega)
   have LY:=hid (show(l.map v8).length=l.length*1 by simp)
   clear hl
   have e1:=fun n c w=>eq_nil8 (some a) n c w
   go_enter Tryz.func74,Tryz.ntmps74
   go_wp2_with (first|((with_reducible apply wq_bs0 bs0_b hm);exact rfl;clear hm;intro gz w hm)|((with_reducible show wpList _ _ _ (Oper.mk _ (Op.call _) _ _ _ _::_) _ _);refine wplO_app (M:=[⟨gz,5,[]⟩]) (R:=[]) (ds:=l.map v8) hm (slo_room0 gz _ 1) rfl rfl rfl rfl Tryz.underlying22 LY.out (cellsB (HL.out.ext hm.x)) (one_map _) FIT.out ?_;clear hm;intro v1 w M1 hm hs1;obtain⟨p_v1,c_v1,rfl⟩:=hs1.form;simp only [Nat.zero_add,List.nil_append]at hs1⊢))
   go_ret
   exact⟨_,M1,rfl,hm,hs1⟩
theorem of_own(l:List Byte)(p:Option Addr)(d:Nat)(b n c k B:Nat)(hn:FlIn b n B l.length)(hk:FlIn c k B l.length)(h:n+k≤l.length)(hd:l.length≤d)(hb:l.length≤70368744177000)(w0:World)(hl:RdB w0 p l):
   Calls Tryz.prog 149 #[.slice p l.length d, .complex .f64 b c] w0 fun e w'=>∃v M,e= .returned (.tuple #[v, .bool true])∧Own w0 w' (M++[])∧SlO M 5 1 v k (((l.drop n).take k).map v8):=by
 have hm:=Own.start w0
 have W1:=hid fun w=>whole_any b n c k B l.length hn hk h (by omega) w
 have lT:((l.drop n).take k).length=k:=by rw [List.length_take,List.length_drop];omega
 have C1:=hid fun (w:World)(hx:Ext w0 w)=>show Calls Tryz.prog 74 #[.slice (slP p d n) k (d-n)] w fun e w'=>∃v M,e= .returned v∧Own w w' (M++[])∧SlO M 5 1 v k (((l.drop n).take k).map v8)from by
   have:=clone_own ((l.drop n).take k) (slP p d n) (d-n) w ((hl.ext hx).slLH d n k hd) (by omega)
   rwa [lT]at this
 obtain⟨T,hT⟩:=exq ((l.drop n).take k)
 rw [←hT]at C1⊢
 have a1:(n:Int)+(k:Int)≤9223372036854775807:=by omega
 have a2:(0:Int)≤(n:Int)+(k:Int):=by omega
 have hkd:n+k≤d:=by omega
 clear hn hk hl hT lT
 go_enter Tryz.func149,Tryz.ntmps149
 go_wp2_with (first|(go_at_call 148;(with_reducible refine(W1.out _).mono ?_);rintro e_ w ⟨rfl,hx_⟩;replace hm:=hm.ext hx_;clear hx_)|((with_reducible apply wq_slLH (l:=n) (h:=n+k) (r:=k) Tryz.underlying22);infer_instance;exact rfl;exact rfl;exact rfl;exact rfl;exact(by omega);exact hkd;exact(by omega))|(go_at_call 74;(with_reducible refine(C1.out _ hm.x).mono ?_);rintro e_ w ⟨v_,M_,rfl,hm1,hs_⟩;replace hm:=hm1.rebase hm.x;clear hm1))
 go_ret2
 exact⟨_,M_,rfl,hm,hs_⟩
theorem fl_16:((List.range 400).all fun n=>flOk 0 (n+16)&&flOk n (n+16)&&flOk 16 (n+16))=true:=by decide+kernel
theorem flv_0:flv 0=0:=by decide+kernel
theorem flv_16:flv 16=4625196817309499392:=by decide+kernel
theorem fl_16_at(n:Nat)(h:n<400):FlIn 0 0 (flv (n+16)) (n+16)∧FlIn (flv n) n (flv (n+16)) (n+16)∧FlIn 4625196817309499392 16 (flv (n+16)) (n+16):=by
 have:=List.all_eq_true.1 fl_16 n (by rw [List.mem_range];omega)
 simp only [Bool.and_eq_true]at this
 exact⟨flv_0 ▸ flIn_of this.1.1,flIn_of this.1.2,flv_16 ▸ flIn_of this.2⟩
theorem wq_growZ {ops:Array Oper}{Q:Exit→Act→World→Prop}{rest:List Oper}{o:Oper}{a:Act}{w0 w:World}{L:List Blk}{s x:Operand}{N:Int}(n:Nat)(h0:0<n)(hn:n≤70368744177664)(hm:Own w0 w L)(hgd:o.guard=none)(ho:o.op= .call {callee:= .builtin .append,args:= #[s,x],argTypes:= #[22,3]})(hs:a.eval s= .slice none 0 0)(hx:a.eval x= .int .i64 N)(hN:N=(n:Int))
   (hr:∀g w' G cur,n≤G→G≤maxLen→cur.length=G→Own w0 w' (⟨g,5,cur⟩::L)→wpList Tryz.prog ops Q rest (a.put o.dst (.slice (some ⟨g,0,none⟩) n G)) w'):wpList Tryz.prog ops Q (o::rest) a w:=by
 subst hN
 obtain⟨i,hi,hz,hsz,hb⟩:=info_byte
 refine wpList_plain hgd fun K hK=> ?_
 have h:=Lib.run_append_grow_zeros (P:=Tryz.prog) w 22 3 o.type 5 i (.int .u8 0) .i64 .i64 Tryz.underlying22 Tryz.underlying3 hi hz none 0 0 [] (by simp [Builtin.firstCells]) n h0 (by omega) (by omega) (by omega) (by rw [hb];omega) (by rw [hb,Nat.zero_add,nextslicecap_zero h0];omega)
 rw [Nat.zero_add]at h
 have hG:=grownCap_ge w n 0 5
 have hM:=grownCap_le_maxLen w n 0 5 (by unfold maxLen;omega)
 obtain⟨G,hGe⟩:∃G,G=grownCap w n 0 5:=⟨_,rfl⟩
 rw [←hGe]at h hG hM
 obtain⟨X,hX⟩:∃X,X=([]:List Value).toArray++Builtin.zeroCells (Value.int .u8 0).cells n++Builtin.zeroCells (Value.int .u8 0).cells (G-n):=⟨_,rfl⟩
 rw [←hX]at h
 have hl:X.toList.length=G:=by
   rw [hX]
   simp only [Array.length_toList,Array.size_append,size_zeroCells]
   simp [Value.cells]
   omega
 have ho2:=hm.drew.alloc 5 X.toList
 rw [Array.toArray_toList]at ho2
 unfold Oper.wp
 simp only [execOp,ho,resolve,invoke,builtin,hs,hx,Sem.run_bind,Sem.run_pure,Result.andThen_ok,List.map_toArray,mCo,mNi,h]
 exact hK _ _ (hr _ _ G X.toList hG hM hl ho2)
theorem grow_any(n:Nat)(hn:n≤70368744177664)(w0:World):Calls Tryz.prog 63 #[.slice none 0 0, .int .i64 (n:Int)] w0 fun e w'=>∃v M,e= .returned v∧Own w0 w' (M++[])∧SlO M 5 1 v 0 []:=by
 have hm:=Own.start w0
 have i0:(0:Int)≤(n:Int):=by omega
 have i1:(n:Int)≤70368744177664:=by omega
 by_cases h0:n=0
 · subst h0
   go_enter Tryz.func63,Tryz.ntmps63
   go_wp2_with fail
   go_ret
   exact⟨_,[],rfl,hm,SlO.nil _ _⟩
 · have hp:(0:Int)<(n:Int):=by omega
   have hp2:0<n:=by omega
   go_enter Tryz.func63,Tryz.ntmps63
   go_wp2_with (first|((with_reducible show wpList _ _ _ (Oper.mk _ (Op.call _) _ _ _ _::_) _ _);refine wq_growZ n hp2 hn hm rfl rfl rfl rfl rfl ?_;clear hm;intro g1 w G cur hG hM hcur hm))
   go_ret
   exact⟨_,_,rfl,hm,SlO.room g1 _ 1 G cur (by omega) hM⟩
theorem flat_step(ls:List (List Byte))(k:Nat)(h:k<ls.length):(ls.take (k+1)).flatten=(ls.take k).flatten++ls.getD k []:=by
 rw [List.take_succ_eq_append_getElem h,List.flatten_append,List.getD_eq_getElem?_getD,List.getElem?_eq_getElem h];simp
theorem flat_le(ls:List (List Byte))(k:Nat):(ls.take k).flatten.length≤ls.flatten.length:=by
 have:=congrArg (fun l=>l.flatten.length) (List.take_append_drop k ls)
 simp only [List.flatten_append,List.length_append]at this
 omega
theorem concat_any(ls:List (List Byte))(p:Option Addr)(c:Nat)(w0:World)(hr:RdR w0 p ls)(hl:ls.length≤1000000)(hf:ls.flatten.length≤35184372088832):Calls Tryz.prog 43 #[.slice p ls.length c] w0 fun e w'=>∃v M,e= .returned v∧Own w0 w' (M++[])∧SlO M 5 1 v ls.flatten.length (ls.flatten.map v8):=by
 have hm:=Own.start w0
 have HR:=hid hr
 have FS:=hid (flat_step ls)
 have FL:=hid (flat_le ls)
 have FE:Hid ((ls.take ls.length).flatten=ls.flatten):=hid (by rw [List.take_length])
 have F0:Hid ((ls.take 0).flatten=[]):=hid rfl
 have HF:=hid hf
 have GR:=hid fun (n:Nat)(hn:n≤70368744177664) w=>grow_any n hn w
 obtain⟨F,hF⟩:∃F:Nat→List Byte,F=fun k=>(ls.take k).flatten:=⟨_,rfl⟩
 have FS2:Hid (∀k,k<ls.length→F (k+1)=F k++ls.getD k []):=hid (by rw [hF];exact FS.out)
 have FL2:Hid (∀k,(F k).length≤ls.flatten.length):=hid (by rw [hF];exact FL.out)
 have FE2:Hid (F ls.length=ls.flatten):=hid (by rw [hF];exact FE.out)
 have F02:Hid (F 0=[]):=hid (by rw [hF];exact F0.out)
 clear hF FS FL FE F0 hr hf
 obtain⟨N,hN⟩:∃N,N=ls.length:=⟨_,rfl⟩
 rw [←hN]at FS2 FE2 hl⊢
 have HN:=hid hN
 clear hN
 go_enter Tryz.func43,Tryz.ntmps43
 go_wp2_with fail
 go_loopw [3,11] (fun va vi wr=>∃k:Nat,k≤N∧vi= .int .i64 k∧va= .int .i64 ((F k).length:Int)∧Own w0 wr []) (fun _ vi _=>N-(intOf vi).toNat)
 case atStart=>exact⟨0,by omega,rfl,by rw [F02.out];rfl,hm⟩
 case round=>
   obtain⟨k,hk,rfl,rfl,hm⟩:=hrel
   by_cases hlt:k<N
   · have hd:decide ((k:Int)<(N:Int))=true:=decide_eq_true (by omega)
     have hd2:(k:Int)<(N:Int):=by omega
     obtain⟨a,rfl,q,d,hcell,_,_,_⟩:=(HR.out.ext hm.x).row k (by rw [←HN.out];exact hlt)
     have hsum:(F (k+1)).length=(F k).length+(ls.getD k []).length:=by rw [FS2.out k hlt,List.length_append]
     have hle:=FL2.out (k+1)
     have hff:=HF.out
     obtain⟨TK,hTK⟩:=exq ((F k).length)
     obtain⟨LK,hLK⟩:=exq ((ls.getD k []).length)
     rw [←hTK,←hLK]at hsum
     rw [←hLK]at hcell
     rw [←hTK]
     have HS:=hid hsum
     have i1:(TK:Int)+(LK:Int)≤35184372088832:=by omega
     have i2:(0:Int)≤(TK:Int)+(LK:Int):=by omega
     clear hsum hle hff hTK hLK
     go_wp2_with fail
     go_roundw
     case rel=>exact⟨k+1,by omega,by go_num,by rw [HS.out];go_num,hm⟩
     case measure=>simp [intOf]<;>omega
   · obtain rfl:k=N:=by omega
     have hd:decide ((k:Int)<(k:Int))=false:=decide_eq_false (by omega)
     obtain⟨TN,hTN⟩:=exq ((F k).length)
     rw [←hTN]
     have hff:=HF.out
     have hTN2:TN=ls.flatten.length:=by rw [hTN,FE2.out]
     have GRn:=hid (GR.out TN (by omega))
     clear hTN hff hTN2
     go_wp2_with fail
     refine(GRn.out _).mono ?_
     rintro e_ w ⟨v,M,rfl,hm1,hso⟩
     replace hm:=hm1.rebase hm.x
     clear hm1
     obtain⟨pv,cv,rfl⟩:=hso.form
     have HSO:=hid hso
     clear hso
     go_wp2_with fail
     go_loopw [6,27] (fun va vi wr=>∃(i:Nat)(r:Option Addr)(d:Nat)(M:List Blk),i≤k∧vi= .int .i64 i∧va= .slice r (F i).length d∧SlO M 5 1 (.slice r (F i).length d) (F i).length ((F i).map v8)∧Own w0 wr (M++[])) (fun _ vi _=>k-(intOf vi).toNat)
     case atStart=>exact⟨0,pv,cv,M,by omega,rfl,by rw [F02.out];rfl,by rw [F02.out];exact HSO.out,hm⟩
     case round=>
       obtain⟨i,r,d,M2,hi,rfl,rfl,hso,hm⟩:=hrel
       have HSO2:=hid hso
       by_cases hlt2:i<k
       · have hd:decide ((i:Int)<(k:Int))=true:=decide_eq_true (by omega)
         have hd2:(i:Int)<(k:Int):=by omega
         obtain⟨a,rfl,q,e,hcell,hrd,hle2,_⟩:=(HR.out.ext hm.x).row i (by rw [←HN.out];exact hlt2)
         have HS2:=hid (FS2.out i hlt2)
         have hsum:(F (i+1)).length=(F i).length+(ls.getD i []).length:=by rw [FS2.out i hlt2,List.length_append]
         have hle:=FL2.out (i+1)
         have hff:=HF.out
         have LX:=hid (show((ls.getD i []).map v8).length=(ls.getD i []).length*1 by rw [List.length_map,Nat.mul_one])
         obtain⟨X,hX⟩:=exq (ls.getD i [])
         rw [←hX]at hcell hrd hle2 HS2 hsum LX
         obtain⟨FI,hFI⟩:=exq (F i)
         rw [←hFI]at HSO2 HS2 hsum⊢
         have HRD:=hid hrd
         have HSUM:=hid hsum
         have FIT:=hid (show(FI.length+X.length)*(1+1)≤140737488355328 by omega)
         clear hso hX hFI hsum hle hff hrd
         go_wp2_with (first|((with_reducible show wpList _ _ _ (Oper.mk _ (Op.call _) _ _ _ _::_) _ _);refine wplO_app (M:=M2) (R:=_) (ds:=X.map v8) hm HSO2.out rfl rfl rfl rfl Tryz.underlying22 LX.out (cells_b HRD.out) (one_map _) FIT.out ?_;clear hm;intro v1 w M1 hm hs1;obtain⟨p_v1,c_v1,rfl⟩:=hs1.form))
         go_roundw
         case rel=>exact⟨i+1,_,_,M1,by omega,by go_num,by rw [HSUM.out],by rw [HSUM.out,HS2.out,List.map_append];exact hs1,hm⟩
         case measure=>simp [intOf]<;>omega
       · obtain rfl:i=k:=by omega
         have hd:decide ((i:Int)<(i:Int))=false:=decide_eq_false (by omega)
         go_wp2_with fail
         go_ret
         rw [FE2.out]at hso
         refine⟨.slice r (F i).length d,M2,rfl,hm, ?_⟩
         rw [FE2.out]
         exact hso
theorem ret_own3 {P:Program}{w0 w:World}{L:List Blk}{T t:TypeId}{g:Nat}{cs:List Value}{a:Act}{fn:Func}{R:Ending→World→Prop}{p u:Tmp}{n:Nat}{v:Value}(hm:Own w0 w L)(h:fn.results= #[.tmp u, .cell p T])(hp:a.tmps.getD p undef= .pointer (some ⟨g,0,none⟩))(hu:a.tmps.getD u undef=v)(hT:Many P T n)(hh:Has L ⟨g,t,cs⟩)(hn:cs.length=n)
   (hf:a.defers=[]) (hR:R (.returned (.tuple #[v, .agg cs.toArray])) w):bodyPost P fn R .ret a w:=by
 obtain⟨d,hd1,hd2⟩:=Option.map_eq_some_iff.1 hT.row
 subst hu
 refine bodyPost_ret (v:= .tuple #[a.tmps.getD u undef, .agg cs.toArray]) ?_ hf hR
 have hl:=run_loadVar_row w g t T cs.toArray (0,0) d (hm.row hh) hd1 (by cases d<;>simp_all) (by rw [List.size_toArray,hn];exact hT.size)
 have hp':a.tmps[p]?.getD undef= .pointer (some ⟨g,0,none⟩):=by simpa using hp
 simp [results,h,hp',asAddr,hl]
def rgt(m:List Byte)(n:Nat):List Byte:=(m.drop n).take 16
theorem aparts_any(m:List Byte)(n:Nat)(hl:m.length=n+16)(hn:n<400)(p:Option Addr)(c:Nat)(hc:n+16≤c)(w0:World)(hr:RdB w0 p m):
   Calls Tryz.prog 176 #[.slice p (n+16) c] w0 fun e w'=>∃v M R,e= .returned (.tuple #[v,WV (num (rgt m n) 0 8) (num (rgt m n) 8 8)])∧Own w0 w' (M++R)∧SlO M 5 1 v n ((m.take n).map v8):=by
 have hm:=Own.start w0
 obtain⟨f1,f2,f3⟩:=fl_16_at n hn
 have cv:=conv_if f2.of
 have O1:=hid fun w (hx:Ext w0 w)=>(show Calls Tryz.prog 149 #[.slice p (n+16) c, .complex .f64 0 (flv n)] w fun e w'=>∃v M,e= .returned (.tuple #[v, .bool true])∧Own w w' (M++[])∧SlO M 5 1 v n ((m.take n).map v8)from by
   have:=of_own m p c 0 0 (flv n) n (flv (n+16)) (by rw [hl];exact f1) (by rw [hl];exact f2) (by omega) (by omega) (by omega) w (hr.ext hx)
   rwa [hl,dZe]at this)
 have O2:=hid fun w (hx:Ext w0 w)=>(show Calls Tryz.prog 149 #[.slice p (n+16) c, .complex .f64 (flv n) 4625196817309499392] w fun e w'=>∃v M,e= .returned (.tuple #[v, .bool true])∧Own w w' (M++[])∧SlO M 5 1 v 16 ((rgt m n).map v8)from by
   have:=of_own m p c (flv n) n 4625196817309499392 16 (flv (n+16)) (by rw [hl];exact f2) (by rw [hl];exact f3) (by omega) (by omega) (by omega) w (hr.ext hx)
   rwa [hl]at this)
 have lR:(rgt m n).length=16:=by rw [rgt,List.length_take,List.length_drop];omega
 have lB:(m.take n).length=n:=by rw [List.length_take];omega
 obtain⟨Rg,hRg⟩:=exq (rgt m n)
 obtain⟨Bk,hBk⟩:=exq (m.take n)
 rw [←hRg]at O2 lR⊢
 rw [←hBk]at O1 lB⊢
 have LD:=hid fun (w:World)(q:Option Addr)(d:Nat)(h:RdB w q Rg)=>(show Gives Tryz.prog 183 #[.slice q 16 d] w (WV (num Rg 0 8) (num Rg 8 8))from by
   have:=load_any Rg q d w h (by omega);rwa [lR]at this)
 have LR:=hid lR
 have LB:=hid lB
 obtain⟨FN,hFN⟩:=exq (flv n)
 rw [←hFN]at cv O1 O2
 clear f1 f2 f3 hr hl lR lB hRg hBk hFN
 go_enter Tryz.func176,Tryz.ntmps176
 go_wp2_with (first|(go_at_call 149;(with_reducible refine(O1.out _ hm.x).mono ?_);rintro e_ w ⟨v1,M1,rfl,hm1,hs1⟩;rw [List.append_nil]at hm1;replace hm:=hm.join hm1;obtain⟨p1,c1,rfl⟩:=hs1.form;clear hm1)|(go_at_call 149;(with_reducible refine(O2.out _ hm.x).mono ?_);rintro e_ w ⟨v2,M2,rfl,hm1,hs2⟩;rw [List.append_nil]at hm1;replace hm:=hm.join hm1;obtain⟨p2,c2,rfl⟩:=hs2.form;clear hm1)|(go_at_call 183;(with_reducible refine(LD.out _ _ _ (slo_rdZ hs2 hm)).mono ?_);rintro e_ w ⟨rfl,hx_⟩;replace hm:=hm.ext hx_;clear hx_)|((((with_reducible show qSt);first|(refine zE hm ?_)));clear hm;intro w hm)|((first|((with_reducible show qAl);first|(refine zG hm ?_)));clear hm;intro gx_;intro w hm))
 exact ret_own3 hm rfl rfl rfl (by infer_instance) (by repeat (first|exact Has.hd|assumption|apply Has.tl|apply Has.app)) rfl rfl ⟨_,M1,_,rfl,hm.dropN,hs1⟩
section
variable {P:Program} {ops:Array Oper} {Q:Exit→Act→World→Prop} {rest:List Oper} {dst:Option Tmp} {ty:TypeId} {pos:String} {aft:Array Edge} {gd:Option (Nat×Bool)} {a:Act} {w0 w:World} {L:List Blk} {T e:TypeId}
theorem wq_bs2g {u0 u1:Value}{x0 x1:Operand}{cs:List Value}(hb:∀w,(Instr.buildSlice T 2 #[(0,u0),(1,u1)]).run P w= .ok (.slice (some ⟨w.heap.size,0,none⟩) 2 2) (w.alloc (.cells cs.toArray e)))(hm:Own w0 w L)(hgd:Region.wanted (Oper.mk dst (.buildSlice T 2 #[(0,x0),(1,x1)]) ty pos aft gd) (yielded ops a.tmps)=true)(hx0:a.eval x0=u0)(hx1:a.eval x1=u1)(hr:∀g w',Own w0 w' (⟨g,e,cs⟩::L)→wpList P ops Q rest (a.put dst (.slice (some ⟨g,0,none⟩) 2 2)) w'):wpList P ops Q ((Oper.mk dst (.buildSlice T 2 #[(0,x0),(1,x1)]) ty pos aft gd)::rest) a w:=
 wpList_want hgd fun K hK=>by
   unfold Oper.wp execOp
   simp [hx0,hx1,hb,Sem.run_bind,Result.andThen_ok,Sem.run_pure]
   exact hK _ _ (hr _ _ (hm.alloc e cs))
end
theorem bs_s2(p q:Option Addr)(n c m d:Nat)(w:World):(Instr.buildSlice 48 2 #[(0, .slice p n c),(1, .slice q m d)]).run Tryz.prog w= .ok (.slice (some ⟨w.heap.size,0,none⟩) 2 2) (w.alloc (.cells [.slice p n c, .slice q m d].toArray 22)):=by kernel_rfl
theorem bs_s3(p q r:Option Addr)(n c m d k e:Nat)(w:World):(Instr.buildSlice 48 3 #[(0, .slice p n c),(1, .slice q m d),(2, .slice r k e)]).run Tryz.prog w= .ok (.slice (some ⟨w.heap.size,0,none⟩) 3 3) (w.alloc (.cells [.slice p n c, .slice q m d, .slice r k e].toArray 22)):=by kernel_rfl
theorem rdR2 {w:World}{g:Nat}{t:TypeId}{p q:Option Addr}{a b:List Byte}{c d:Nat}(h:Row w g t [.slice p a.length c, .slice q b.length d])(ha:RdB w p a)(hb:RdB w q b)(hc:a.length≤c)(hd:b.length≤d)(la:a.length≤maxLen)(lb:b.length≤maxLen):RdR w (some ⟨g,0,none⟩) [a,b]:=by
 refine⟨fun _=>rfl,fun i hi=> ?_⟩
 have hcell:∀k,w.cell? (((some (⟨g,0,none⟩:Addr)).getD default).add k)=w.cell? ⟨g,k,none⟩:=fun k=>by rw [show((some (⟨g,0,none⟩:Addr)).getD default).add k=⟨g,k,none⟩from by simp [Addr.add];exact fun h=>h.symm]
 match i,hi with
 |0,_=>exact⟨p,c,(hcell 0).trans (row_cell h 0),ha,hc,la⟩
 |1,_=>exact⟨q,d,(hcell 1).trans (row_cell h 1),hb,hd,lb⟩
theorem rdR3 {w:World}{g:Nat}{t:TypeId}{p q r:Option Addr}{a b x:List Byte}{c d e:Nat}(h:Row w g t [.slice p a.length c, .slice q b.length d, .slice r x.length e])(ha:RdB w p a)(hb:RdB w q b)(hx:RdB w r x)(hc:a.length≤c)(hd:b.length≤d)(he:x.length≤e)(la:a.length≤maxLen)(lb:b.length≤maxLen)(lx:x.length≤maxLen):RdR w (some ⟨g,0,none⟩) [a,b,x]:=by
 refine⟨fun _=>rfl,fun i hi=> ?_⟩
 have hcell:∀k,w.cell? (((some (⟨g,0,none⟩:Addr)).getD default).add k)=w.cell? ⟨g,k,none⟩:=fun k=>by rw [show((some (⟨g,0,none⟩:Addr)).getD default).add k=⟨g,k,none⟩from by simp [Addr.add];exact fun h=>h.symm]
 match i,hi with
 |0,_=>exact⟨p,c,(hcell 0).trans (row_cell h 0),ha,hc,la⟩
 |1,_=>exact⟨q,d,(hcell 1).trans (row_cell h 1),hb,hd,lb⟩
 |2,_=>exact⟨r,e,(hcell 2).trans (row_cell h 2),hx,he,lx⟩
theorem ajoined_any(b:List Byte)(lo hi:BitVec 64)(hb:b.length≤1000000)(q:Option Addr)(d:Nat)(hd:b.length≤d)(w0:World)(hr:RdB w0 q b):
   Calls Tryz.prog 179 #[.slice q b.length d,WV lo hi] w0 fun e w'=>∃v M R,e= .returned v∧Own w0 w' (M++R)∧SlO M 5 1 v (b.length+16) ((b++(putL lo 8++putL hi 8)).map v8):=by
 have hm:=Own.start w0
 have BB:=hid fun w=>bytes_any lo hi w
 have lP:(putL lo 8++putL hi 8).length=16:=by rw [List.length_append,putL_length,putL_length]
 obtain⟨Pb,hPb⟩:=exq (putL lo 8++putL hi 8)
 rw [←hPb]at BB lP⊢
 have BS:=hid fun g=>bs_s2 q (some ⟨g,0,none⟩) b.length d 16 16
 have RR:=hid fun (g g2:Nat)(t:TypeId)(w:World)(hx:Ext w0 w)(h:Row w g t [.slice q b.length d, .slice (some ⟨g2,0,none⟩) 16 16])(h2:RdB w (some ⟨g2,0,none⟩) Pb)=>(rdR2 (a:=b) (b:=Pb) (by rw [lP];exact h) (hr.ext hx) h2 hd (by omega) (by unfold maxLen;omega) (by unfold maxLen;omega))
 have lF:[b,Pb].flatten.length=b.length+16:=by simp [lP]
 have eF:Hid ([b,Pb].flatten=b++Pb):=hid (by simp)
 have CC:=hid fun (w:World)(p:Option Addr)(h:RdR w p [b,Pb])=>(show Calls Tryz.prog 43 #[.slice p 2 2] w fun e w'=>∃v M,e= .returned v∧Own w w' (M++[])∧SlO M 5 1 v (b.length+16) ((b++Pb).map v8)from by
   have:=concat_any [b,Pb] p 2 w h (by simp) (by rw [lF];omega)
   rwa [lF,eF.out]at this)
 have h1:=Nat.le_of_eq lP
 have h2:=Nat.le_of_eq lP.symm
 obtain⟨BL,hBL⟩:=exq (b.length)
 rw [←hBL]at BS RR CC⊢
 clear hr hPb hb hd hBL lF
 go_enter Tryz.func179,Tryz.ntmps179
 go_wp2_with (first|(go_at_call 186;(with_reducible refine(BB.out _).mono ?_);rintro e_ w ⟨rfl,hx_⟩;replace hm:=hm.ext hx_;clear hx_)|((with_reducible apply wq_bs2g (BS.out _) hm);exact rfl;exact rfl;exact rfl;clear hm;intro gb w hm)|(go_at_call 43;(with_reducible refine(CC.out _ _ (RR.out gb g2 _ _ hm.x (hm.row .hd) (hm.rdB (g:=g2) (l:=Pb) (.tl .hd)))).mono ?_);rintro e_ w ⟨v2,M2,rfl,hm1,hs2⟩;rw [List.append_nil]at hm1;replace hm:=hm.join hm1;clear hm1)|((with_reducible show qLd);first|(refine zB hm ?_))|((((with_reducible show qSt);first|(refine zE hm ?_)));clear hm;intro w hm)|((first|((with_reducible show qAl);first|(refine zG hm ?_))|((with_reducible show qBx);first|(refine zH hm ?_)));clear hm;(first|(have hx_:=g1;clear hx_;(first|(have hx_:=g2;clear hx_;intro gx_)|intro g2))|intro g1);intro w hm))
 go_ret
 exact⟨_,M2,_,rfl,hm,hs2⟩
end Go.Proofs.YtneacgpmjlocjaaGreatDoor
