/-
  Texts of the program, walked, and plain ones. Conditions: those written in each theorem.
-/
import Derived.Test.YtllnjbiebdkmbaaGreatDoorZTopReturns0
import Derived.Test.YtllnjbiebdkmbaaGreatDoorZTopReturns20
import Derived.Test.YtllnjbiebdkmbaaGreatDoorZTopReturns14
import Derived.Test.YtllnjbiebdkmbaaGreatDoorZTopReturns18
import Derived.Test.YtllnjbiebdkmbaaGreatDoorZTopReturns11
import Derived.Test.YtllnjbiebdkmbaaGreatDoorZTopReturns8
import Derived.Test.YtllnjbiebdkmbaaGreatDoorZTopReturns19
import Derived.Test.YtllnjbiebdkmbaaGreatDoorZTopReturns7
import Derived.Test.YtllnjbiebdkmbaaGreatDoorZTopReturns3
import Derived.Test.YtllnjbiebdkmbaaGreatDoorZTopReturns6
set_option linter.unusedSimpArgs false
set_option linter.unusedVariables false
set_option maxHeartbeats 16000000
namespace Go.Proofs.YtllnjbiebdkmbaaGreatDoor
open Go Go.RowKit
set_option maxRecDepth 100000
def nhS(W:List (BitVec 32))(b:List Byte):Nat→List (BitVec 64)
 |0=>zer 4
 |k+1=>tab 4 fun p=>nth (nhS W b k) p+(proN (wrd b (16*k)) (nth W (4*k+4*p)) (wrd b (16*k+8)) (nth W (4*k+4*p+2))+proN (wrd b (16*k+4)) (nth W (4*k+4*p+1)) (wrd b (16*k+12)) (nth W (4*k+4*p+3)))
theorem nhS_length(W:List (BitVec 32))(b:List Byte)(k:Nat):(nhS W b k).length=4:=by
 cases k with
 |zero=>exact zer_length
 |succ k=>exact tab_length
def p8F(cur:List Byte)(t:List (BitVec 64)):Nat→List Byte
 |0=>cur
 |k+1=>over (p8F cur t k) (8*k) (putL (nth t k) 8)
theorem p8F_length(cur:List Byte)(t:List (BitVec 64))(k:Nat)(h:8*k≤cur.length):(p8F cur t k).length=cur.length:=by
 induction k with
 |zero=>rfl
 | succ k ih=>
   have:=ih (by omega)
   rw [p8F,over,List.length_append,List.length_append,List.length_take,List.length_drop,putL_length];omega
def nhL(W:List (BitVec 32))(b:List Byte):List Byte:=p8F (zer 32) (nhS W b (b.length/16)) 4
theorem nhL_length(W:List (BitVec 32))(b:List Byte):(nhL W b).length=32:=by rw [nhL,p8F_length _ _ _ (by rw [zer_length];omega),zer_length]
theorem build_m(a b c d:BitVec 32)(w:World):(Instr.build 234 #[(0,v32 a),(1,v32 b),(2,v32 c),(3,v32 d)]).run Tryz.prog w= .ok (.agg ([a,b,c,d].map v32).toArray) w:=by kernel_rfl
theorem nhash_any(gw n:Nat)(W:List (BitVec 32))(b:List Byte)(hW:W.length=268)(hb:b.length=16*n)(hn:n≤64)(p:Option Addr)(c:Nat)(w0:World)(hr:RdB w0 p b)(hw:Row w0 gw 74 (W.map v32)):
   Gives Tryz.prog 138 #[.slice (some ⟨gw,0,none⟩) 268 268, .slice p b.length c] w0 (.tuple #[A8 (nhL W b), .int .i64 0]):=by
 unfold Gives
 have hm:=Own.start w0
 have W1:=Lib.hid fun (k:Nat)(e:Int)(he:e=(k:Int))(hk:k+4≤b.length)(w:World)(h:Ext w0 w)=>(show Gives Tryz.prog 60 #[.slice p b.length c, .int .i64 e] w (v32 (wrd b k))from by
   subst he
   exact word_any b p c (k:Int) w (hr.ext h) (by omega) (by omega) (by omega))
 have lR:=nhL_length W b
 have ER:Hid (nhL W b=p8F (zer 32) (nhS W b n) 4):=Lib.hid (by rw [nhL,hb,Nat.mul_comm,Nat.mul_div_cancel _ (by omega)])
 have S0:Hid (nhS W b 0=zer 4):=Lib.hid rfl
 have SK:=Lib.hid fun k=>(show nhS W b (k+1)=part 4 4 (fun p=>nth (nhS W b k) p+(proN (wrd b (16*k)) (nth W (4*k+4*p)) (wrd b (16*k+8)) (nth W (4*k+4*p+2))+proN (wrd b (16*k+4)) (nth W (4*k+4*p+1)) (wrd b (16*k+12)) (nth W (4*k+4*p+3)))) (nth (nhS W b k))from part_all.symm)
 have LS:=Lib.hid (nhS_length W b)
 have RW:=Lib.hid fun wx (h:Ext w0 wx)=>row_ext hw h
 have EW:=Lib.hid fun k (h:k<268)=>(show(W.map v32)[k]? =some (v32 (nth W k))from map32_at _ (by omega))
 generalize nhL W b=RES at*
 generalize nhS W b=S at*
 have BM:=Lib.hid build_m
 have hb1:((b.length:Nat):Int)≤1024:=by omega
 generalize hL:b.length=L at*
 have hm16:(L:Int).tmod 16=0:=by subst hb;rw [Int.tmod_eq_emod_of_nonneg (by omega)];omega
 have hq:(L:Int).tdiv 16=(n:Int):=by subst hb;rw [Int.tdiv_eq_ediv_of_nonneg (by omega)];omega
 have hn1:(n:Int)≤64:=by omega
 have g1_:¬(1024:Int)<(L:Int):=by omega
 have g2_:decide ((L:Int)>1024)=false:=decide_eq_false (by omega)
 have g3_:¬(268:Int)<(n:Int)*4+12:=by omega
 have g4_:decide ((268:Int)<(n:Int)*4+12)=false:=decide_eq_false (by omega)
 have HLB:=Lib.hid hb
 clear hr hw hL hb
 go_enter Tryz.func138,Tryz.ntmps138
 go_wp2_with (first|((first|((with_reducible show qAl);first|((with_reducible apply wq_new hm);exact rfl;infer_instance)));clear hm;(first|(have hx_:=g1;clear hx_;(first|(have hx_:=g2;clear hx_;intro gx_)|intro g2))|intro g1);intro w hm))
 refine wp_scope_goto 0 (fun a_ w_=>∃(k ga gs:Nat)(A:Int)(u2 u3 u9 u10 u11 u12 u13 u14 u15 u16 u17 u18 u19 u20 u21 u22 u23 u24 u25 u26 u27 u28 u29 u30 u31 u32 u33 u34 u35 u36 u37 u38 u39 u40 u41 u42 u43 u44 u45 u46 u47 u48 u49 u50 u51 u52 u53 u54 u55 u56 u57 u58 u59 u60 u61 u62 u63 u64 u65 u66 u67 u68 u69 u70 u71 u72 u73 u74 u75 u76 u77 u78 u79 u80 u81 u82 u83 u84 u85 u86 u87 u88 u89 u90 u91 u92 u93 u94 u95 u96 u97 u98 u99 u100 u101 u102 u103 u104 u105 u106 u107 u108 u109 u110 u111:Value),a_={tmps:= #[(.slice (some ⟨gw,0,none⟩) 268 268),(.slice p L c),u2,u3,(.pointer (some ⟨g1,0,none⟩)),(.int .i64 0),(.pointer (some ⟨ga,0,none⟩)),(.pointer (some ⟨gs,0,none⟩)),(.int .i64 A),u9,u10,u11,u12,u13,u14,u15,u16,u17,u18,u19,u20,u21,u22,u23,u24,u25,u26,u27,u28,u29,u30,u31,u32,u33,u34,u35,u36,u37,u38,u39,u40,u41,u42,u43,u44,u45,u46,u47,u48,u49,u50,u51,u52,u53,u54,u55,u56,u57,u58,u59,u60,u61,u62,u63,u64,u65,u66,u67,u68,u69,u70,u71,u72,u73,u74,u75,u76,u77,u78,u79,u80,u81,u82,u83,u84,u85,u86,u87,u88,u89,u90,u91,u92,u93,u94,u95,u96,u97,u98,u99,u100,u101,u102,u103,u104,u105,u106,u107,u108,u109,u110,u111],defers:=[]}∧Own w0 w_ [⟨gs,233,(S k).map v64⟩,⟨ga,110,(zer 32).map v8⟩,⟨g1,110,(zer 32).map v8⟩]∧A=16*(k:Int)∧k≤n) (fun a_ _=>L-(intOf (a_.tmps.getD 8 undef)).toNat) rfl ?_ ?_
 · clear hm
   have key_:∀(P_:Act→World→Prop),(∀(w_:World)(k ga gs:Nat)(A:Int)(u2 u3 u9 u10 u11 u12 u13 u14 u15 u16 u17 u18 u19 u20 u21 u22 u23 u24 u25 u26 u27 u28 u29 u30 u31 u32 u33 u34 u35 u36 u37 u38 u39 u40 u41 u42 u43 u44 u45 u46 u47 u48 u49 u50 u51 u52 u53 u54 u55 u56 u57 u58 u59 u60 u61 u62 u63 u64 u65 u66 u67 u68 u69 u70 u71 u72 u73 u74 u75 u76 u77 u78 u79 u80 u81 u82 u83 u84 u85 u86 u87 u88 u89 u90 u91 u92 u93 u94 u95 u96 u97 u98 u99 u100 u101 u102 u103 u104 u105 u106 u107 u108 u109 u110 u111:Value),Own w0 w_ [⟨gs,233,(S k).map v64⟩,⟨ga,110,(zer 32).map v8⟩,⟨g1,110,(zer 32).map v8⟩]∧A=16*(k:Int)∧k≤n→P_ {tmps:= #[(.slice (some ⟨gw,0,none⟩) 268 268),(.slice p L c),u2,u3,(.pointer (some ⟨g1,0,none⟩)),(.int .i64 0),(.pointer (some ⟨ga,0,none⟩)),(.pointer (some ⟨gs,0,none⟩)),(.int .i64 A),u9,u10,u11,u12,u13,u14,u15,u16,u17,u18,u19,u20,u21,u22,u23,u24,u25,u26,u27,u28,u29,u30,u31,u32,u33,u34,u35,u36,u37,u38,u39,u40,u41,u42,u43,u44,u45,u46,u47,u48,u49,u50,u51,u52,u53,u54,u55,u56,u57,u58,u59,u60,u61,u62,u63,u64,u65,u66,u67,u68,u69,u70,u71,u72,u73,u74,u75,u76,u77,u78,u79,u80,u81,u82,u83,u84,u85,u86,u87,u88,u89,u90,u91,u92,u93,u94,u95,u96,u97,u98,u99,u100,u101,u102,u103,u104,u105,u106,u107,u108,u109,u110,u111],defers:=[]} w_)→∀(a_:Act)(w_:World),(∃(k ga gs:Nat)(A:Int)(u2 u3 u9 u10 u11 u12 u13 u14 u15 u16 u17 u18 u19 u20 u21 u22 u23 u24 u25 u26 u27 u28 u29 u30 u31 u32 u33 u34 u35 u36 u37 u38 u39 u40 u41 u42 u43 u44 u45 u46 u47 u48 u49 u50 u51 u52 u53 u54 u55 u56 u57 u58 u59 u60 u61 u62 u63 u64 u65 u66 u67 u68 u69 u70 u71 u72 u73 u74 u75 u76 u77 u78 u79 u80 u81 u82 u83 u84 u85 u86 u87 u88 u89 u90 u91 u92 u93 u94 u95 u96 u97 u98 u99 u100 u101 u102 u103 u104 u105 u106 u107 u108 u109 u110 u111:Value),a_={tmps:= #[(.slice (some ⟨gw,0,none⟩) 268 268),(.slice p L c),u2,u3,(.pointer (some ⟨g1,0,none⟩)),(.int .i64 0),(.pointer (some ⟨ga,0,none⟩)),(.pointer (some ⟨gs,0,none⟩)),(.int .i64 A),u9,u10,u11,u12,u13,u14,u15,u16,u17,u18,u19,u20,u21,u22,u23,u24,u25,u26,u27,u28,u29,u30,u31,u32,u33,u34,u35,u36,u37,u38,u39,u40,u41,u42,u43,u44,u45,u46,u47,u48,u49,u50,u51,u52,u53,u54,u55,u56,u57,u58,u59,u60,u61,u62,u63,u64,u65,u66,u67,u68,u69,u70,u71,u72,u73,u74,u75,u76,u77,u78,u79,u80,u81,u82,u83,u84,u85,u86,u87,u88,u89,u90,u91,u92,u93,u94,u95,u96,u97,u98,u99,u100,u101,u102,u103,u104,u105,u106,u107,u108,u109,u110,u111],defers:=[]}∧Own w0 w_ [⟨gs,233,(S k).map v64⟩,⟨ga,110,(zer 32).map v8⟩,⟨g1,110,(zer 32).map v8⟩]∧A=16*(k:Int)∧k≤n)→P_ a_ w_:=
     fun P_ h_ a_ w_ z=>z.elim fun k z=>z.elim fun ga z=>z.elim fun gs z=>z.elim fun A z=>z.elim fun u2 z=>z.elim fun u3 z=>z.elim fun u9 z=>z.elim fun u10 z=>z.elim fun u11 z=>z.elim fun u12 z=>z.elim fun u13 z=>z.elim fun u14 z=>z.elim fun u15 z=>z.elim fun u16 z=>z.elim fun u17 z=>z.elim fun u18 z=>z.elim fun u19 z=>z.elim fun u20 z=>z.elim fun u21 z=>z.elim fun u22 z=>z.elim fun u23 z=>z.elim fun u24 z=>z.elim fun u25 z=>z.elim fun u26 z=>z.elim fun u27 z=>z.elim fun u28 z=>z.elim fun u29 z=>z.elim fun u30 z=>z.elim fun u31 z=>z.elim fun u32 z=>z.elim fun u33 z=>z.elim fun u34 z=>z.elim fun u35 z=>z.elim fun u36 z=>z.elim fun u37 z=>z.elim fun u38 z=>z.elim fun u39 z=>z.elim fun u40 z=>z.elim fun u41 z=>z.elim fun u42 z=>z.elim fun u43 z=>z.elim fun u44 z=>z.elim fun u45 z=>z.elim fun u46 z=>z.elim fun u47 z=>z.elim fun u48 z=>z.elim fun u49 z=>z.elim fun u50 z=>z.elim fun u51 z=>z.elim fun u52 z=>z.elim fun u53 z=>z.elim fun u54 z=>z.elim fun u55 z=>z.elim fun u56 z=>z.elim fun u57 z=>z.elim fun u58 z=>z.elim fun u59 z=>z.elim fun u60 z=>z.elim fun u61 z=>z.elim fun u62 z=>z.elim fun u63 z=>z.elim fun u64 z=>z.elim fun u65 z=>z.elim fun u66 z=>z.elim fun u67 z=>z.elim fun u68 z=>z.elim fun u69 z=>z.elim fun u70 z=>z.elim fun u71 z=>z.elim fun u72 z=>z.elim fun u73 z=>z.elim fun u74 z=>z.elim fun u75 z=>z.elim fun u76 z=>z.elim fun u77 z=>z.elim fun u78 z=>z.elim fun u79 z=>z.elim fun u80 z=>z.elim fun u81 z=>z.elim fun u82 z=>z.elim fun u83 z=>z.elim fun u84 z=>z.elim fun u85 z=>z.elim fun u86 z=>z.elim fun u87 z=>z.elim fun u88 z=>z.elim fun u89 z=>z.elim fun u90 z=>z.elim fun u91 z=>z.elim fun u92 z=>z.elim fun u93 z=>z.elim fun u94 z=>z.elim fun u95 z=>z.elim fun u96 z=>z.elim fun u97 z=>z.elim fun u98 z=>z.elim fun u99 z=>z.elim fun u100 z=>z.elim fun u101 z=>z.elim fun u102 z=>z.elim fun u103 z=>z.elim fun u104 z=>z.elim fun u105 z=>z.elim fun u106 z=>z.elim fun u107 z=>z.elim fun u108 z=>z.elim fun u109 z=>z.elim fun u110 z=>z.elim fun u111 z=>Eq.subst (motive:=fun z_=>P_ z_ w_) z.1.symm (h_ w_ k ga gs A u2 u3 u9 u10 u11 u12 u13 u14 u15 u16 u17 u18 u19 u20 u21 u22 u23 u24 u25 u26 u27 u28 u29 u30 u31 u32 u33 u34 u35 u36 u37 u38 u39 u40 u41 u42 u43 u44 u45 u46 u47 u48 u49 u50 u51 u52 u53 u54 u55 u56 u57 u58 u59 u60 u61 u62 u63 u64 u65 u66 u67 u68 u69 u70 u71 u72 u73 u74 u75 u76 u77 u78 u79 u80 u81 u82 u83 u84 u85 u86 u87 u88 u89 u90 u91 u92 u93 u94 u95 u96 u97 u98 u99 u100 u101 u102 u103 u104 u105 u106 u107 u108 u109 u110 u111 z.2)
   refine key_ _ ?_
   clear key_
   intro w k ga gs A u2 u3 u9 u10 u11 u12 u13 u14 u15 u16 u17 u18 u19 u20 u21 u22 u23 u24 u25 u26 u27 u28 u29 u30 u31 u32 u33 u34 u35 u36 u37 u38 u39 u40 u41 u42 u43 u44 u45 u46 u47 u48 u49 u50 u51 u52 u53 u54 u55 u56 u57 u58 u59 u60 u61 u62 u63 u64 u65 u66 u67 u68 u69 u70 u71 u72 u73 u74 u75 u76 u77 u78 u79 u80 u81 u82 u83 u84 u85 u86 u87 u88 u89 u90 u91 u92 u93 u94 u95 u96 u97 u98 u99 u100 u101 u102 u103 u104 u105 u106 u107 u108 u109 u110 u111
   rintro ⟨hm,hA,hk⟩
   have hA0:(0:Int)≤A:=by omega
   have hA1:A≤1024:=by omega
   have t0:A.tdiv 16=(k:Int):=by rw [hA,Int.tdiv_eq_ediv_of_nonneg (by omega)];omega
   by_cases hlt:k<n
   · have hd : decide (A<(L:Int))=true:=decide_eq_true (by rw [HLB.out];omega)
     have hd2:A<(L:Int):=by rw [HLB.out];omega
     have C0:=Lib.hid fun w h=>W1.out (16*k) A (by omega) (by rw [HLB.out];omega) w h
     have C1:=Lib.hid fun w h=>W1.out (16*k+4) (A+4) (by omega) (by rw [HLB.out];omega) w h
     have C2:=Lib.hid fun w h=>W1.out (16*k+8) (A+8) (by omega) (by rw [HLB.out];omega) w h
     have C3:=Lib.hid fun w h=>W1.out (16*k+12) (A+12) (by omega) (by rw [HLB.out];omega) w h
     have lS:=LS.out k
     obtain⟨m0,h0_⟩:∃x,x=wrd b (16*k):=⟨_,rfl⟩
     obtain⟨m1,h1_⟩:∃x,x=wrd b (16*k+4):=⟨_,rfl⟩
     obtain⟨m2,h2_⟩:∃x,x=wrd b (16*k+8):=⟨_,rfl⟩
     obtain⟨m3,h3_⟩:∃x,x=wrd b (16*k+12):=⟨_,rfl⟩
     obtain⟨MM,hMM⟩:∃x,x=[m0,m1,m2,m3]:=⟨_,rfl⟩
     obtain⟨f,hf⟩:∃f,f=fun p=>nth (S k) p+(proN (nth MM 0) (nth W (4*k+4*p)) (nth MM 2) (nth W (4*k+4*p+2))+proN (nth MM 1) (nth W (4*k+4*p+1)) (nth MM 3) (nth W (4*k+4*p+3))):=⟨_,rfl⟩
     have SKk:Hid (S (k+1)=part 4 4 f (nth (S k))):=Lib.hid (by rw [SK.out k,hf,hMM,←h0_,←h1_,←h2_,←h3_];rfl)
     have BMk:=Lib.hid (BM.out m0 m1 m2 m3)
     rw [←hMM]at BMk
     rw [←h0_]at C0
     rw [←h1_]at C1
     rw [←h2_]at C2
     rw [←h3_]at C3
     have lM:MM.length=4:=by rw [hMM];rfl
     clear h0_ h1_ h2_ h3_ hMM
     obtain⟨V,hV⟩:∃x,x=S k:=⟨_,rfl⟩
     rw [←hV]at SKk lS hm hf
     clear hV
     have HF:=Lib.hid hf
     have V0:Hid (V=part 4 0 f (nth V)):=Lib.hid (part_start lS)
     have HA:=Lib.hid hA
     have HLT:=Lib.hid hlt
     clear hf hA
     go_wp2_with (first|(go_at_call 60;(with_reducible refine(C0.out _ hm.x).mono ?_);rintro e_ w ⟨rfl,hx_⟩;replace hm:=hm.ext hx_;clear hx_)|(go_at_call 60;(with_reducible refine(C1.out _ hm.x).mono ?_);rintro e_ w ⟨rfl,hx_⟩;replace hm:=hm.ext hx_;clear hx_)|(go_at_call 60;(with_reducible refine(C2.out _ hm.x).mono ?_);rintro e_ w ⟨rfl,hx_⟩;replace hm:=hm.ext hx_;clear hx_)|(go_at_call 60;(with_reducible refine(C3.out _ hm.x).mono ?_);rintro e_ w ⟨rfl,hx_⟩;replace hm:=hm.ext hx_;clear hx_)|((with_reducible apply wq_build4 BMk.out);exact rfl;exact rfl;exact rfl;exact rfl;exact rfl)|((((with_reducible show qSt);first|((with_reducible apply wq_stW hm);exact rfl;infer_instance;exact rfl;exact rfl;(focus (repeat first|exact .hd|assumption|apply Swap.tl);done);(focus (first|rfl|omega|(simp;done)|(simp;omega)));(focus (first|rfl|omega|(simp;done)|(simp;omega)));(focus (first|exact one_map _|(simp [one8,one32,one64];done))))));clear hm;intro w hm)|((first|((with_reducible show qAl);first|((with_reducible apply wq_new hm);exact rfl;infer_instance)));clear hm;(first|(have hx_:=g1;clear hx_;(first|(have hx_:=g2;clear hx_;intro gx_)|intro g2))|intro g1);intro w hm))
     rw [V0.out]at hm
     go_loopw [56] (fun vi wr=>∃q:Nat,q≤4∧vi= .int .i64 q∧Own w0 wr [⟨g2,234,MM.map v32⟩,⟨gs,233,(part 4 q f (nth V)).map v64⟩,⟨ga,110,(zer 32).map v8⟩,⟨g1,110,(zer 32).map v8⟩]) (fun vi _=>4-(intOf vi).toNat)
     case atStart=>exact⟨0,by omega,rfl,hm⟩
     case round =>
       obtain⟨q,hq4,rfl,hm⟩:=hrel
       by_cases hql:q<4
       · have hd:decide ((q:Int)<4)=true:=decide_eq_true (by omega)
         have hd2:(q:Int)<4:=by omega
         obtain⟨O,hO⟩:∃O,O=4*k+4*q:=⟨_,rfl⟩
         have PS:Hid (setN (part 4 q f (nth V)) q (nth (part 4 q f (nth V)) q+(proN (nth MM 0) (nth W O) (nth MM 2) (nth W (O+2))+proN (nth MM 1) (nth W (O+1)) (nth MM 3) (nth W (O+3))))=part 4 (q+1) f (nth V)):=Lib.hid (by
           rw [nth_part_ge hql (Nat.le_refl _),hO]
           exact part_set' hql (by rw [HF.out]))
         have O1:O+4≤268:=by have:=HLT.out;omega
         have t1:((k:Int)*4+(q:Int)*4).toNat=O:=by omega
         have x1:(0:Int)≤(k:Int)*4+(q:Int)*4:=by omega
         have x2:(k:Int)*4+(q:Int)*4≤268:=by omega
         have x3:¬268=O:=by omega
         obtain⟨LN,hLN⟩:∃x,268-O=x:=⟨_,rfl⟩
         have z0:0<LN:=by omega
         have z1:1<LN:=by omega
         have z2:2<LN:=by omega
         have z3:3<LN:=by omega
         have y0:(0:Int)<(LN:Int):=by omega
         have y1:(1:Int)<(LN:Int):=by omega
         have y2:(2:Int)<(LN:Int):=by omega
         have y3:(3:Int)<(LN:Int):=by omega
         have e0:=Lib.hid (EW.out O (by omega))
         have e1:=Lib.hid (EW.out (O+1) (by omega))
         have e2:=Lib.hid (EW.out (O+2) (by omega))
         have e3:=Lib.hid (EW.out (O+3) (by omega))
         have P1:=Lib.hid fun wx=>Gives.of_same (product_any (nth MM 0) (nth W O) (nth MM 2) (nth W (O+2)) wx)
         have P2:=Lib.hid fun wx=>Gives.of_same (product_any (nth MM 1) (nth W (O+1)) (nth MM 3) (nth W (O+3)) wx)
         have lP:(part 4 q f (nth V)).length=4:=part_length
         obtain⟨PV,hPV⟩:∃x,x=part 4 q f (nth V):=⟨_,rfl⟩
         rw [←hPV]at PS lP hm
         clear hPV hO
         go_wp2_with fail
         have R1:=Lib.hid fun wx (h:Ext wr wx)=>RW.out wx (hm.x.trans h)
         refine region_at 28 (fun w'=>Ext _ w') 112 (by kernel_rfl) (by kernel_rfl) rfl (fun _ _ h k=>h.trans k) (drew_ext _) ?_
         simp only [tSC,List.take_zero,dSC,List.drop_zero,List.map_cons,List.map_nil]
         repeat (first
             | (apply walk_is rfl rfl rfl
                · (intro wx hwx;(with_reducible apply gq_row1 ((R1.out) wx hwx));infer_instance;exact rfl;(first|exact e0.out|exact e1.out|exact e2.out|exact e3.out))
                · (simp only [Act.put,sIB,sCS,sCZ];rfl))
             | (apply walk_is rfl rfl rfl
                · (intro wx hwx;first|((with_reducible show gives _ _ _ (Sem.run _ (execOp _ (Oper.mk _ (Op.load _ _) _ _ _ _)) _));first|((with_reducible apply gq_ldv (hm.ext hwx));infer_instance;exact rfl;(focus (repeat first|exact .hd|assumption|apply Has.tl);done);(focus (first|omega|(simp;omega)|(refine ltB ?_;first|omega|(simp;done)|(simp;omega))))))|(go_simp;(try go_bits);first|exact gives_same|exact gives_skip|with_reducible exact gives_call (P1.out wx)|with_reducible exact gives_call (P2.out wx)))
                · (simp only [Act.put,sIB,sCS,sCZ];rfl))
             | (apply walk_not rfl rfl rfl
                · (simp only [Act.put,sIB,sCS,sCZ];rfl)))
         intro wz hwz
         simp only [zCC,zNR]
         repeat (first|rw [fin_is]|(rw [fin_cons];intro _ _))
         rw [fin_nil]
         try (replace hm:=hm.ext hwz)
         simp only [Act.put,sIB,sCS,sCZ]
         go_wp2_with (first|((((with_reducible show qSt);first|((with_reducible apply wq_stv hm);exact rfl;infer_instance;exact rfl;(focus (repeat first|exact .hd|assumption|apply Swap.tl);done);infer_instance;exact rfl;(focus (first|omega|(simp;omega)|(refine ltB ?_;first|omega|(simp;done)|(simp;omega)))))));clear hm;intro w hm))
         go_roundw
         case rel=>exact⟨q+1,by omega,by go_num,by rw [←PS.out];exact hm⟩
         case measure=>simp [intOf]<;>omega
       · obtain rfl:q=4:=by omega
         have hd:decide (((4:Nat):Int)<4)=false:=decide_eq_false (by omega)
         rw [←SKk.out]at hm
         go_wp2_with fail
         go_step3
         refine⟨rfl,⟨_,_,_,_,_,_,_,_,_,_,_,_,_,_,_,_,_,_,_,_,_,_,_,_,_,_,_,_,_,_,_,_,_,_,_,_,_,_,_,_,_,_,_,_,_,_,_,_,_,_,_,_,_,_,_,_,_,_,_,_,_,_,_,_,_,_,_,_,_,_,_,_,_,_,_,_,_,_,_,_,_,_,_,_,_,_,_,_,_,_,_,_,_,_,_,_,_,_,_,_,_,_,_,_,_,_,_,_,_,rfl,⟨hm.drop,by have:=HA.out;omega,by have:=HLT.out;omega⟩⟩, ?_⟩
         simp [intOf]
         have:=HA.out
         have:=HLT.out
         have:=HLB.out
         omega
   · obtain rfl :k=n:=by omega
     have hd:decide (A<(L:Int))=false:=decide_eq_false (by rw [HLB.out];omega)
     have hd2:¬A<(L:Int):=by rw [HLB.out];omega
     have lS:=LS.out k
     obtain⟨V,hV⟩:∃x,x=S k:=⟨_,rfl⟩
     rw [←hV]at ER lS hm
     clear hV
     have lV:=lS
     go_wp2_with (first|((with_reducible show qLd);first|((with_reducible apply wq_ldW hm);exact rfl;infer_instance;exact rfl;(focus (repeat first|exact .hd|assumption|apply Has.tl);done);(focus (first|rfl|omega|(simp;done)|(simp;omega))))))
     have P0:Hid (p8F (zer 32) V 0=zer 32):=Lib.hid rfl
     have PK:=Lib.hid fun k m (h:8≤m)=>(show over (p8F (zer 32) V k) (8*k) ((putL (nth V k) 8).take m)=p8F (zer 32) V (k+1)from by rw [List.take_of_length_le (by rw [putL_length];exact h)];rfl)
     have LP:=Lib.hid fun k (h:k≤4)=>(show(p8F (zer 32) V k).length=32 by rw [p8F_length _ _ _ (by rw [zer_length];omega),zer_length])
     obtain⟨F,hF⟩:∃F,F=p8F (zer 32) V:=⟨_,rfl⟩
     rw [←hF]at P0 PK LP ER
     clear hF
     rw [←P0.out]at hm
     go_loopw [99] (fun vi wr=>∃q:Nat,q≤4∧vi= .int .i64 q∧Own w0 wr [⟨gs,233,V.map v64⟩,⟨ga,110,(F q).map v8⟩,⟨g1,110,(F 0).map v8⟩]) (fun vi _=>4-(intOf vi).toNat)
     case atStart=>exact⟨0,by omega,rfl,hm⟩
     case round =>
       obtain⟨q,hq4,rfl,hm⟩:=hrel
       have lF:=LP.out q hq4
       by_cases hql:q<4
       · have hd:decide ((q:Int)<4)=true:=decide_eq_true (by omega)
         have hd2:(q:Int)<4:=by omega
         have PKq:=Lib.hid (PK.out q)
         obtain⟨FQ,hFQ⟩:∃x,x=F q:=⟨_,rfl⟩
         rw [←hFQ]at PKq lF hm
         clear hFQ
         have s0:(0:Int)≤8*(q:Int):=by omega
         have s1:8*(q:Int)≤32:=by omega
         have s2:(8*(q:Int)).toNat=8*q:=by omega
         have s3:¬32=8*q:=by omega
         go_wp2_with (first|((with_reducible apply wq_idx (l:=V) (k:=q) Tryz.underlying233);infer_instance;exact rfl;exact rfl;exact rfl;exact lS;exact hql)|(go_at_call 43;(with_reducible refine(putlong_any' _ _).mono ?_);rintro e_ w ⟨rfl,hx_⟩;replace hm:=hm.ext hx_;clear hx_)|((((with_reducible show qSt);first|((with_reducible apply wq_stW hm);exact rfl;infer_instance;exact rfl;exact rfl;(focus (repeat first|exact .hd|assumption|apply Swap.tl);done);(focus (first|rfl|omega|(simp;done)|(simp;omega)));(focus (first|rfl|omega|(simp;done)|(simp;omega)));(focus (first|exact one_map _|(simp [one8,one32,one64];done))))));clear hm;intro w hm)|((first|((with_reducible show qAl);first|((with_reducible apply wq_new hm);exact rfl;infer_instance)));clear hm;(first|(have hx_:=g1;clear hx_;(first|(have hx_:=g2;clear hx_;intro gx_)|intro g2))|intro g1);intro w hm))
         refine region_at 4 (fun w'=>Ext _ w') 112 (by kernel_rfl) (by kernel_rfl) rfl (fun _ _ h k=>h.trans k) (drew_ext _) ?_
         simp only [tSC,List.take_zero,dSC,List.drop_zero,List.map_cons,List.map_nil]
         repeat (first
             | (apply walk_is rfl rfl rfl
                · (intro wx hwx;go_simp;(try go_bits);first|exact gives_same|exact gives_skip)
                · (simp only [Act.put,sIB,sCS,sCZ];rfl))
             | (apply walk_not rfl rfl rfl
                · (simp only [Act.put,sIB,sCS,sCZ];rfl)))
         intro wz hwz
         simp only [zCC,zNR]
         repeat (first|rw [fin_is]|(rw [fin_cons];intro _ _))
         rw [fin_nil]
         try (replace hm:=hm.ext hwz)
         simp only [Act.put,sIB,sCS,sCZ]
         ((with_reducible show wpList _ _ _ (Oper.mk _ (Op.call _) _ _ _ _::_) _ _);refine wpl_cp8 hm rfl rfl rfl rfl Tryz.underlying22 (by kernel_rfl) (by repeat (first|exact Swap.hd|assumption|apply Swap.tl)) (hm.rdB (l:=putL (nth V q) 8) .hd) (putL_length _ _).symm ((PKq.out _ (by omega))) (by omega) ?_;clear hm;intro w hm)
         go_wp2_with fail
         go_roundw
         case rel=>exact⟨q+1,by omega,by go_num,hm.drop⟩
         case measure=>simp [intOf]<;>omega
       · obtain rfl:q=4:=by omega
         have hd:decide (((4:Nat):Int)<4)=false:=decide_eq_false (by omega)
         rw [←ER.out]at hm
         have l0:=LP.out 0 (by omega)
         have l1:=Nat.le_of_eq l0
         have l2:=Nat.le_of_eq l0.symm
         have l3:=Nat.le_of_eq lR
         have l4:=Nat.le_of_eq lR.symm
         go_wp2_with (first|((with_reducible show qLd);first|((with_reducible apply wq_ldW hm);exact rfl;infer_instance;exact rfl;(focus (repeat first|exact .hd|assumption|apply Has.tl);done);(focus (first|rfl|omega|(simp;done)|(simp;omega)))))|((((with_reducible show qSt);first|((with_reducible apply wq_stW hm);exact rfl;infer_instance;exact rfl;exact rfl;(focus (repeat first|exact .hd|assumption|apply Swap.tl);done);(focus (first|rfl|omega|(simp;done)|(simp;omega)));(focus (first|rfl|omega|(simp;done)|(simp;omega)));(focus (first|exact one_map _|(simp [one8,one32,one64];done))))));clear hm;intro w hm))
         try simp only [Exit.jump]
         exact ret_own2 hm rfl rfl rfl (by infer_instance) (by repeat (first|exact Has.hd|assumption|apply Has.tl)) (by rw [List.length_map];exact lR) rfl ⟨rfl,hm.x⟩
 · intro hp
   go_wp2_with (first|((first|((with_reducible show qAl);first|((with_reducible apply wq_new hm);exact rfl;infer_instance)));clear hm;(first|(have hx_:=g1;clear hx_;(first|(have hx_:=g2;clear hx_;intro gx_)|intro g2))|intro g1);intro w hm))
   go_step3
   rename_i hK
   exact hK _ _ (hp _ _ ⟨_,_,_,_,_,_,_,_,_,_,_,_,_,_,_,_,_,_,_,_,_,_,_,_,_,_,_,_,_,_,_,_,_,_,_,_,_,_,_,_,_,_,_,_,_,_,_,_,_,_,_,_,_,_,_,_,_,_,_,_,_,_,_,_,_,_,_,_,_,_,_,_,_,_,_,_,_,_,_,_,_,_,_,_,_,_,_,_,_,_,_,_,_,_,_,_,_,_,_,_,_,_,_,_,_,_,_,_,_,rfl,⟨by rw [S0.out];exact hm,rfl,Nat.zero_le _⟩⟩)
def twL(n:Nat):List Byte:=putL (BitVec.ofNat 64 n) 8++putL 0#64 8
theorem twL_length(n:Nat):(twL n).length=16:=by rw [twL,List.length_append,putL_length,putL_length]
theorem v64_nat(n:Nat)(h:n<18446744073709551616):v64 (BitVec.ofNat 64 n)= .int .u64 (n:Int):=by
 show Value.int .u64 ((BitVec.ofNat 64 n).toNat:Int)=_
 rw [BitVec.toNat_ofNat,Nat.mod_eq_of_lt h]
theorem tweak_any(n:Nat)(hn:n≤1000)(w0:World):GivesR Tryz.prog 18 #[.int .i64 (n:Int)] w0 (BytesS (twL n)):=by
 unfold GivesR
 have hm:=Own.start w0
 have BB:=Lib.hid fun (w:World)=>(show Gives Tryz.prog 32 #[.agg #[.int .u64 (n:Int), .int .u64 0]] w (A8 (twL n))from by
   have:=bytes_any (BitVec.ofNat 64 n) 0#64 w
   rw [WV,v64_nat n (by omega)]at this
   exact this)
 have lT:=twL_length n
 generalize twL n=T at*
 have h1:=Nat.le_of_eq lT
 have h2:=Nat.le_of_eq lT.symm
 have LT:=Lib.hid lT
 clear lT
 have n0:(0:Int)≤(n:Int):=by omega
 have n1:(n:Int)≤1000:=by omega
 go_enter Tryz.func18,Tryz.ntmps18
 go_wp2_with (first|(go_at_call 32;(with_reducible refine(BB.out _).mono ?_);rintro e_ w ⟨rfl,hx_⟩;replace hm:=hm.ext hx_;clear hx_)|((((with_reducible show qSt);first|((with_reducible apply wq_stW hm);exact rfl;infer_instance;exact rfl;exact rfl;(focus (repeat first|exact .hd|assumption|apply Swap.tl);done);(focus (first|rfl|omega|(simp;done)|(simp;omega)));(focus (first|rfl|omega|(simp;done)|(simp;omega)));(focus (first|exact one_map _|(simp [one8,one32,one64];done))))));clear hm;intro w hm)|((first|((with_reducible show qAl);first|((with_reducible apply wq_new hm);exact rfl;infer_instance)));clear hm;(first|(have hx_:=g1;clear hx_;intro gx_)|intro g1);intro w hm))
 go_ret
 exact⟨_,rfl,⟨some ⟨g1,0,none⟩,16,by rw [LT.out];rfl,by rw [LT.out];exact Nat.le_refl _,hm.rdB (g:=g1) (l:=T) (by repeat (first|exact Has.hd|assumption|apply Has.tl))⟩,hm.x⟩
theorem least3(g:Nat)(t:TypeId)(v:Value)(w0:World)(h:Row w0 g t [.int .i64 3,v]):Calls Tryz.prog 42 #[.pointer (some ⟨g,0,none⟩)] w0 fun e w'=>e= .returned (.int .i64 1)∧w0=w':=by
 have c1:w0.cell? ⟨g,0,none⟩=some (.int .i64 3):=by rw [row_cell h];rfl
 go_enter Tryz.func42,Tryz.ntmps42
 go_wp2
 go_ret
 exact⟨rfl,rfl⟩
theorem least12(g:Nat)(t:TypeId)(v:Value)(a:Int)(ha:a=1∨a=2)(w0:World)(h:Row w0 g t [.int .i64 a,v]):Calls Tryz.prog 42 #[.pointer (some ⟨g,0,none⟩)] w0 fun e w'=>e= .returned (.int .i64 16)∧w0=w':=by
 have c1:w0.cell? ⟨g,0,none⟩=some (.int .i64 a):=by rw [row_cell h];rfl
 rcases ha with rfl|rfl
 · go_enter Tryz.func42,Tryz.ntmps42
   go_wp2
   go_ret
   exact⟨rfl,rfl⟩
 · go_enter Tryz.func42,Tryz.ntmps42
   go_wp2
   go_ret
   exact⟨rfl,rfl⟩
theorem awrong_any(g:Nat)(p:Option Addr)(n c:Nat)(hn:16≤n)(w:World):Calls Tryz.prog 116 #[.pointer (some ⟨g,0,none⟩), .slice p n c] w fun e w'=>e= .returned (.int .i64 0)∧w=w':=by
 have d1:decide ((n:Int)<16)=false:=decide_eq_false (by omega)
 have d2:¬(n:Int)<16:=by omega
 go_enter Tryz.func116,Tryz.ntmps116
 go_wp2
 go_ret
 exact⟨rfl,rfl⟩
def akC(tw ms:List Byte)(gw:Nat):List Value:=tw.map v8++(ms.map v8++[.slice (some ⟨gw,0,none⟩) 268 268])
def AdR(w:World)(g:Nat)(tw ms:List Byte)(W:List (BitVec 32)):Prop:=∃gw,Row w g 150 (akC tw ms gw)∧Row w gw 74 (W.map v32)∧tw.length=16∧ms.length=16∧W.length=268
theorem AdR.ext {w w':World}{g:Nat}{tw ms:List Byte}{W:List (BitVec 32)}(h:AdR w g tw ms W)(hx:Ext w w'):AdR w' g tw ms W:=by
 obtain⟨gw,h1,h2,h3⟩:=h
 exact⟨gw,row_ext h1 hx,row_ext h2 hx,h3⟩
theorem akC_tw(tw ms:List Byte)(gw:Nat)(h1:tw.length=16):((akC tw ms gw).drop 0).take 16=tw.map v8:=by
 rw [List.drop_zero,akC];exact List.take_left' (by simp [h1])
theorem akC_ms(tw ms:List Byte)(gw:Nat)(h1:tw.length=16)(h2:ms.length=16):((akC tw ms gw).drop 16).take 16=ms.map v8:=by
 rw [akC,List.drop_left' (by simp [h1])];exact List.take_left' (by simp [h2])
theorem akC_w(tw ms:List Byte)(gw:Nat)(h1:tw.length=16)(h2:ms.length=16):(akC tw ms gw)[32]? =some (.slice (some ⟨gw,0,none⟩) 268 268):=by
 rw [akC,List.getElem?_append_right (by simp [h1]),List.getElem?_append_right (by simp [h1,h2])];simp [h1,h2]
theorem build_ak(tw ms:List Byte)(gw:Nat)(h1:tw.length=16)(h2:ms.length=16)(w:World):(Instr.build 150 #[(0,A8 tw),(1,A8 ms),(2, .slice (some ⟨gw,0,none⟩) 268 268)]).run Tryz.prog w= .ok (.agg (akC tw ms gw).toArray) w:=by
 obtain⟨a0,a1,a2,a3,a4,a5,a6,a7,a8,a9,a10,a11,a12,a13,a14,a15,rfl⟩:=len16 tw h1
 obtain⟨b0,b1,b2,b3,b4,b5,b6,b7,b8,b9,b10,b11,b12,b13,b14,b15,rfl⟩:=len16 ms h2
 kernel_rfl
theorem build_wide2(lo hi:Int)(w:World):(Instr.build 71 #[(0, .int .u64 lo),(1, .int .u64 hi)]).run Tryz.prog w= .ok (.agg #[.int .u64 lo, .int .u64 hi]) w:=by kernel_rfl
theorem adnew_any(key:List Byte)(hk:key.length=1104)(p:Option Addr)(c:Nat)(hc:1104≤c)(w0:World)(hr:RdB w0 p key):Calls Tryz.prog 51 #[.slice p 1104 c] w0 fun e w'=>∃g,e= .returned (.tuple #[.pointer (some ⟨g,0,none⟩), .int .i64 0])∧w0.heap.size≤g∧∃L,Own w0 w' L∧Keeps L (fun _=>True) (fun wx=>AdR wx g (blk key) (blk (key.drop 16)) (nhW (key.drop 32))):=by
 have hm:=Own.start w0
 have l32:(key.drop 32).length=1072:=by rw [List.length_drop,hk]
 have NW:=Lib.hid fun w (hx:Ext w0 w)=>nwords_any (key.drop 32) l32 (slP p c 32) (c-32) w ((hr.ext hx).slL c 32 (by omega))
 have B1:=Lib.hid fun w (hx:Ext w0 w)=>(show Gives Tryz.prog 54 #[.slice p 1104 c] w (A8 (blk key))from by have:=oblock_any key p c w (hr.ext hx);rwa [hk]at this)
 have B2:=Lib.hid fun w (hx:Ext w0 w)=>(show Gives Tryz.prog 54 #[.slice (slP p c 16) 1088 (c-16)] w (A8 (blk (key.drop 16)))from by have:=oblock_any (key.drop 16) (slP p c 16) (c-16) w ((hr.ext hx).slL c 16 (by omega));rwa [show(key.drop 16).length=1088 from by rw [List.length_drop,hk]]at this)
 have l1:=blk_length key
 have l2:=blk_length (key.drop 16)
 have l3:=nhW_length (key.drop 32)
 obtain⟨X,hX⟩:∃x,x=blk key:=⟨_,rfl⟩
 obtain⟨Y,hY⟩:∃x,x=blk (key.drop 16):=⟨_,rfl⟩
 obtain⟨Z,hZ⟩:∃x,x=nhW (key.drop 32):=⟨_,rfl⟩
 rw [←hX]at B1 l1⊢
 rw [←hY]at B2 l2⊢
 rw [←hZ]at NW l3⊢
 have BA:=Lib.hid fun gw w=>build_ak X Y gw l1 l2 w
 have L3:=Lib.hid l3
 have c2:(1104:Int)≤(c:Int):=by omega
 clear hr hk l32 hX hY hZ l3
 go_enter Tryz.func51,Tryz.ntmps51
 go_wp2_with (first|((with_reducible apply wq_slL (l:=32) (r:=1072) Tryz.underlying22);infer_instance;exact rfl;exact rfl;exact rfl;exact(by omega);exact rfl)|(go_at_call 64;(with_reducible refine(NW.out _ hm.x).mono ?_);rintro e_ w ⟨gw,rfl,hg_,hr_,hx_⟩;replace hm:=hm.push hx_ hg_ hr_;clear hx_ hg_ hr_))
 have BG:=Lib.hid (BA.out gw)
 have hx0:=hm.x
 have b1:=fun wx (h:Ext w wx)=>B1.out wx (hx0.trans h)
 have b2:=fun wx (h:Ext w wx)=>B2.out wx (hx0.trans h)
 refine region_at 7 (fun w'=>Ext _ w') 26 (by kernel_rfl) (by kernel_rfl) rfl (fun _ _ h k=>h.trans k) (drew_ext _) ?_
 simp only [tSC,List.take_zero,dSC,List.drop_zero,List.map_cons,List.map_nil]
 repeat (first
     |(apply walk_is rfl rfl rfl;(intro wx hwx;(with_reducible apply gq_slL (l:=16) (r:=1088) Tryz.underlying22);infer_instance;exact rfl;exact rfl;exact(by omega);exact rfl);(simp only [Act.put,sIB,sCS,sCZ];rfl))
     |(apply walk_is rfl rfl rfl;(intro wx hwx;(with_reducible apply gq_build BG.out);(first|rfl|simp [Act.eval]|kernel_rfl));(simp only [Act.put,sIB,sCS,sCZ];rfl))
     | (apply walk_is rfl rfl rfl
        · (intro wx hwx;go_simp;(try go_bits);first|exact gives_same|exact gives_skip|with_reducible exact gives_call (b1 wx hwx)|with_reducible exact gives_call (b2 wx hwx))
        · (simp only [Act.put,sIB,sCS,sCZ];rfl))
     | (apply walk_not rfl rfl rfl
        · (simp only [Act.put,sIB,sCS,sCZ];rfl)))
 intro wz hwz
 simp only [zCC,zNR]
 repeat (first|rw [fin_is]|(rw [fin_cons];intro _ _))
 rw [fin_nil]
 try (replace hm:=hm.ext hwz)
 simp only [Act.put,sIB,sCS,sCZ]
 clear b1 b2 hx0
 go_wp2_with (first|((first|((with_reducible show qBx);first|((with_reducible apply wq_boxN hm);exact rfl;exact rfl)));clear hm;(first|(have hx_:=g1;clear hx_;intro gx_)|intro g1);intro w hm))
 go_ret2
 exact⟨g1,rfl,hm.base .hd,_,hm,fun wx hrow _=>⟨gw,hrow ⟨g1,150,akC X Y gw⟩ (by simp),hrow ⟨gw,74,Z.map v32⟩ (by simp),l1,l2,L3.out⟩⟩
def hdB(n:Nat):List Byte:=putL (BitVec.ofNat 64 (n*8)) 8++putL (BitVec.ofNat 64 (n/2305843009213693952)) 8
theorem hdB_length(n:Nat):(hdB n).length=16:=by rw [hdB,List.length_append,putL_length,putL_length]
def hd1(y:List (BitVec 32))(n:Nat):List (BitVec 32):=pvF y (hdB n) (zer 5) 1
def hdV(tw t:List Byte)(n:Nat):List (BitVec 32):=pvE (ofL (clB tw 3) 0#32) (pvF (ofL (clB tw 3) 0#32) t (hd1 (ofL (clB tw 3) 0#32) n) (t.length/16)) (pwR (pwR (zer 16) (hdB n)) t) (t.length%16)
theorem ahead12_any(g:Nat)(tw ms t:List Byte)(W:List (BitVec 32))(n:Nat)(hn:n≤1000000)(ht:t.length≤70368744177000)(p:Option Addr)(c:Nat)(hc:t.length≤c)(w0:World)(h:AdR w0 g tw ms W)(hr:RdB w0 p t):
   Gives Tryz.prog 126 #[.pointer (some ⟨g,0,none⟩), .slice p t.length c, .int .i64 (n:Int)] w0 (WV (num (lowB (hdV tw t n)) 0 8) (num (lowB (hdV tw t n)) 8 8)):=by
 unfold Gives
 have hm:=Own.start w0
 obtain⟨gw,h1,_,htw,_,_⟩:=h
 have HR:=Lib.hid fun w (hx:Ext w0 w)=>row_ext h1 hx
 have ET:=Lib.hid (akC_tw tw ms gw htw)
 have HTW:=Lib.hid htw
 obtain⟨y,hy⟩:∃y,y=ofL (clB tw 3) 0#32:=⟨_,rfl⟩
 have ly:y.length=5:=by rw [hy];exact ofL_length _ _
 have PN:=Lib.hid fun w=>(show Calls Tryz.prog 133 #[A8 tw] w fun e w'=>∃g,e= .returned (.pointer (some ⟨g,0,none⟩))∧w.heap.size≤g∧Row w' g 231 (psC y (zer 5) (zer 16) 0)∧Ext w w' from by rw [hy];exact pnew_any tw htw w)
 have lH:=hdB_length n
 have lR1:=pwR_length (zer 16) (hdB n) zer_length
 have EV:Hid (hdV tw t n=pvE y (pvF y t (hd1 y n) (t.length/16)) (pwR (pwR (zer 16) (hdB n)) t) (t.length%16)):=Lib.hid (by rw [hy];rfl)
 have W1:=Lib.hid fun (gs:Nat)(p:Option Addr)(c:Nat)(hc:16≤c)(w:World)(R:List Blk)(hrd:∀wx X,Own w0 wx (X::R)→RdB wx p (hdB n))(hm:Own w0 w (⟨gs,231,psC y (zer 5) (zer 16) 0⟩::R))=>(show Calls Tryz.prog 134 #[.pointer (some ⟨gs,0,none⟩), .slice p 16 c] w fun e w'=>e= .returned (.tuple #[])∧Own w0 w' (⟨gs,231,psC y (hd1 y n) (pwR (zer 16) (hdB n)) 0⟩::R)from by
   have:=pwrite_any gs y (zer 5) (zer 16) (hdB n) ly zer_length zer_length (by omega) p c (by omega) w0 w R hrd hm
   rw [lH]at this
   exact this)
 have lV1:(hd1 y n).length=5:=pvF_length _ _ _ _ zer_length
 have W2:=Lib.hid fun (gs:Nat)(w:World)(R:List Blk)(hm:Own w0 w (⟨gs,231,psC y (hd1 y n) (pwR (zer 16) (hdB n)) 0⟩::R))=>pwrite_any gs y (hd1 y n) (pwR (zer 16) (hdB n)) t ly lV1 lR1 ht p c hc w0 w R (fun wx X hX=>hr.ext hX.x) hm
 have lR2:=pwR_length (pwR (zer 16) (hdB n)) t lR1
 have lV2:(pvF y t (hd1 y n) (t.length/16)).length=5:=pvF_length _ _ _ _ lV1
 have NU:=Lib.hid fun (gs:Nat)(w:World)(h:Row w gs 231 (psC y (pvF y t (hd1 y n) (t.length/16)) (pwR (pwR (zer 16) (hdB n)) t) (t.length%16)))=>anumberE_any gs (t.length%16) y (pvF y t (hd1 y n) (t.length/16)) (pwR (pwR (zer 16) (hdB n)) t) (Nat.mod_lt _ (by omega)) ly lV2 lR2 w h
 rw [←EV.out]at NU
 have BH:=Lib.hid fun (w:World)=>(show Gives Tryz.prog 32 #[.agg #[.int .u64 ((n:Int)*8), .int .u64 ((n:Int)/2305843009213693952)]] w (A8 (hdB n))from by
   have:=bytes_any (BitVec.ofNat 64 (n*8)) (BitVec.ofNat 64 (n/2305843009213693952)) w
   rw [WV,v64_nat _ (by omega),v64_nat _ (by omega),show((n*8:Nat):Int)=(n:Int)*8 from by omega,show((n/2305843009213693952:Nat):Int)=(n:Int)/2305843009213693952 from by omega]at this
   exact this)
 have i0:(0:Int)≤(n:Int):=by omega
 have i1:(n:Int)≤1000000:=by omega
 have BW:=Lib.hid build_wide2
 clear h1 hr hy
 go_enter Tryz.func126,Tryz.ntmps126
 have LH:=Lib.hid lH
 have l1:=Nat.le_of_eq lH
 have l2:=Nat.le_of_eq lH.symm
 obtain⟨HB,hHB⟩:∃x,x=hdB n:=⟨_,rfl⟩
 rw [←hHB]at BH W1 W2 NU LH l1 l2
 clear EV lH lR1 lV1 lR2 lV2 hHB
 go_wp2_with (first|((with_reducible apply wq_build2 (BW.out _ _));exact rfl;exact rfl;exact rfl)|(go_at_call 32;(with_reducible refine(BH.out _).mono ?_);rintro e_ w ⟨rfl,hx_⟩;replace hm:=hm.ext hx_;clear hx_)|((with_reducible apply wq_rowN (HR.out _ hm.x));exact rfl;infer_instance;exact rfl;exact ET.out;exact(by rw [List.length_map];exact HTW.out))|((((with_reducible show qSt);first|((with_reducible apply wq_stW hm);exact rfl;infer_instance;exact rfl;exact rfl;(focus (repeat first|exact .hd|assumption|apply Swap.tl);done);(focus (first|rfl|omega|(simp;done)|(simp;omega)));(focus (first|rfl|omega|(simp;done)|(simp;omega)));(focus (first|exact one_map _|(simp [one8,one32,one64];done))))));clear hm;intro w hm)|((first|((with_reducible show qAl);first|((with_reducible apply wq_new hm);exact rfl;infer_instance)));clear hm;(first|(have hx_:=g1;clear hx_;(first|(have hx_:=g2;clear hx_;intro gx_)|intro g2))|intro g1);intro w hm))
 refine(PN.out _).mono ?_
 rintro e_ w ⟨gs,rfl,hg,hrow,hx⟩
 replace hm:=hm.push hx hg hrow
 clear hg hrow hx
 go_wp2_with fail
 refine(W1.out gs _ 16 (by omega) w _ (fun wx X hX=>hX.rdB (g:=g2) (l:=HB) (.tl .hd)) hm).mono ?_
 rintro e_ w ⟨rfl,hm1⟩
 replace hm:=hm1
 clear hm1
 go_wp2_with fail
 refine(W2.out gs _ _ hm).mono ?_
 rintro e_ w ⟨rfl,hm1⟩
 replace hm:=hm1
 clear hm1
 go_wp2_with (first|(go_at_call 135;(with_reducible refine(NU.out gs _ (hm.row .hd)).mono ?_);rintro e_ w ⟨rfl,hx_⟩;replace hm:=hm.ext hx_;clear hx_)|((((with_reducible show qSt);first|((with_reducible apply wq_stW hm);exact rfl;infer_instance;exact rfl;exact rfl;(focus (repeat first|exact .hd|assumption|apply Swap.tl);done);(focus (first|rfl|omega|(simp;done)|(simp;omega)));(focus (first|rfl|omega|(simp;done)|(simp;omega)));(focus (first|exact one_map _|(simp [one8,one32,one64];done))))));clear hm;intro w hm))
 refine rtO hm rfl rfl (hR:=⟨rfl,hm.x⟩)
open Go
def strF(z:Nat)(S:Nat→List Byte)(b:List Byte):Nat→List Byte
 |0=>[]
 |k+1=>strF z S b k++xorL (b.drop (z*k)) (S k)
theorem strF_length(z:Nat)(S:Nat→List Byte)(hS:∀k,(S k).length=z)(b:List Byte)(k:Nat):(strF z S b k).length=min b.length (z*k):=by
 induction k with
 |zero=>simp [strF]
 | succ k ih=>
   rw [strF,List.length_append,ih,xorL_length,hS,List.length_drop,Nat.mul_succ]
   omega
def strN(z n:Nat):Nat:=(n+(z-1))/z
theorem strN_le(z n:Nat)(hz:0<z):n≤z*strN z n:=by
 unfold strN
 have h:=Nat.div_add_mod (n+(z-1)) z
 have:=Nat.mod_lt (n+(z-1)) hz
 omega
theorem strN_lt(z n k:Nat)(hz:0<z)(h:k<strN z n):z*k<n:=by
 unfold strN at h
 have h1:k+1≤(n+(z-1))/z:=h
 rw [Nat.le_div_iff_mul_le hz,Nat.add_mul,Nat.mul_comm k z]at h1
 omega
def strL(z:Nat)(S:Nat→List Byte)(b:List Byte):List Byte:=strF z S b (strN z b.length)
theorem strL_length(z:Nat)(hz:0<z)(S:Nat→List Byte)(hS:∀k,(S k).length=z)(b:List Byte):(strL z S b).length=b.length:=by
 rw [strL,strF_length z S hS]
 have:=strN_le z b.length hz
 omega
end Go.Proofs.YtllnjbiebdkmbaaGreatDoor
