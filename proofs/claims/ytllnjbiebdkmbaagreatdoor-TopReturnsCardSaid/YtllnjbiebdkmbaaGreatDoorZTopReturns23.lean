/-
  Texts of the program, walked, and plain ones. Conditions: those written in each theorem.
-/
import Derived.Test.YtllnjbiebdkmbaaGreatDoorZTopReturns0
import Derived.Test.YtllnjbiebdkmbaaGreatDoorZTopReturns22
import Derived.Test.YtllnjbiebdkmbaaGreatDoorZTopReturns20
import Derived.Test.YtllnjbiebdkmbaaGreatDoorZTopReturns18
import Derived.Test.YtllnjbiebdkmbaaGreatDoorZTopReturns5
import Derived.Deep.CutBlock
set_option linter.unusedSimpArgs false
set_option linter.unusedVariables false
set_option maxHeartbeats 16000000
namespace Go.Proofs.YtllnjbiebdkmbaaGreatDoor
open Go Go.RowKit
set_option maxRecDepth 100000
theorem expand_gen(gt gb n:Nat)(lg:Bool)(key:List Byte)(h4:4≤n)(h8:n≤8)(hk:key.length=4*n)(p:Option Addr)(c:Nat)(w0:World)(hr:RdB w0 p key)(hc:key.length≤c)(ht:Row w0 gt 78 (tcells gb mixT unmixT))(hb:Row w0 gb 91 (tabs.map v8))
   (E:Nat→List (List Byte)×Byte) (hE:E=exS n lg key) (K0 KZ:List Byte) (KM:List (List Byte)) (hk0:K0=aesK0 n lg key) (hkm:KM=aesKs n lg key) (hkz:KZ=aesKl n lg key) (SH:Hid (∀w,Calls Tryz.prog 58 #[.int .i64 (key.length:Int)] w fun e w'=>e= .returned (.tuple #[.int .i64 (n:Int), .bool lg, .int .i64 0])∧w=w')):
   Calls Tryz.prog 50 #[.pointer (some ⟨gt,0,none⟩), .slice p key.length c] w0 fun e w'=>∃g L,e= .returned (.tuple #[.pointer (some ⟨g,0,none⟩), .int .i64 0])∧w0.heap.size≤g∧Own w0 w' L∧Keeps L (TabR gt gb) (fun wx=>AesR wx g K0 KM KZ):=by
 have hm:=Own.start w0
 have W1:=Lib.hid fun (k:Nat)(hk4:k<n)(w:World)(h:Ext w0 w)=>(show Gives Tryz.prog 60 #[.slice p key.length c, .int .i64 (4*(k:Int))] w (v32 (wrd key (4*k)))from by
   have:=word_any key p c (4*(k:Int)) w (hr.ext h) (by omega) (by omega) (by omega)
   rw [wrd,show((4*k:Nat):Int)=4*(k:Int)from by omega]
   exact this)
 have W2:=Lib.hid fun (k:Nat)(w:World)=>(show Gives Tryz.prog 59 #[v32 (wrd key (4*k))] w (A8 (wdB key k))from putword_any _ w)
 have W3:=Lib.hid fun k=>wdB_length key k
 have TB:=Lib.hid ht
 have BB:=Lib.hid hb
 generalize hL:key.length=KL at*
 have e7:4*((n:Int)+6+1)=((4*(n+7):Nat):Int):=by omega
 have hn0:¬(n:Int)=0:=by omega
 have hn1:(0:Int)≤(n:Int):=by omega
 have hn2:(n:Int)≤8:=by omega
 have HKL:=Lib.hid hk
 have HC:=Lib.hid hc
 clear hr ht hb hL hk hc
 have LE:=Lib.hid fun k=>hE ▸ exS_length n lg key k
 have EE:=Lib.hid fun k=>hE ▸ exS_each n lg key k
 have E0:Hid ((E 0).1=(List.range n).map (wdB key)):=Lib.hid (by rw [hE];rfl)
 have E0p:Hid ((E 0).2=1#8):=Lib.hid (by rw [hE];rfl)
 have ES:Hid (∀j,(E (j+1)).1=(E j).1++[plus4 ((E j).1.getD j []) (exB n lg (n+j) ((E j).1.getD (n+j-1) []) (E j).2)]):=Lib.hid fun j=>by rw [hE];rfl
 have ESp:Hid (∀j,(E (j+1)).2=exP n (n+j) (E j).2):=Lib.hid fun j=>by rw [hE];rfl
 have EF:Hid (aesK n lg key=rksL (E (3*n+28)).1 (n+7)):=Lib.hid (by rw [hE];rfl)
 have ET:Hid (aesK n lg key=K0::(KM++[KZ])):=Lib.hid (by rw [hk0,hkm,hkz];exact aesK_three n lg key)
 have EL:Hid (KM.length=n+5):=Lib.hid (by rw [hkm];exact aesKs_length n lg key)
 clear hE hk0 hkm hkz
 generalize aesK n lg key=KS at*
 go_enter Tryz.func50,Tryz.ntmps50
 go_wp2_with fail
 refine wp_scope_goto 0 (fun a_ w_=>∃(j o d:Nat)(r:Option Addr)(pw:Byte)(M:List Blk)(u2 u3 u10 u12 u13 u14 u15 u16 u17 u18 u19 u20 u21 u22 u23 u24 u25 u26 u27 u28 u29 u30 u31 u32 u33 u34 u35 u36 u37 u38 u39 u40 u41 u42 u43 u44 u45 u46 u47 u48 u49 u50 u51 u52 u53 u54 u55 u56 u57 u58 u59 u60 u61 u62 u63 u64 u65 u66 u67 u68 u69 u70 u71 u72 u73 u74 u75 u76 u77 u78 u79 u80 u81 u82 u83 u84 u85 u86 u87 u88 u89 u90 u91 u92 u93 u94 u95 u96 u97 u98 u99 u100 u101 u102 u103 u104 u105 u106 u107 u108 u109 u110 u111 u112 u113 u114 u115 u116 u117 u118 u119 u120 u121 u122 u123 u124 u125 u126 u127 u128 u129 u130 u131 u132 u133:Value),a_={tmps:= #[(.pointer (some ⟨gt,0,none⟩)),(.slice p KL c),u2,u3,(.pointer none),(.int .i64 0),(.int .i64 (n:Int)),(.bool lg),(.int .i64 0),(.slice r o d),u10,(v8 pw),u12,u13,u14,u15,u16,u17,u18,u19,u20,u21,u22,u23,u24,u25,u26,u27,u28,u29,u30,u31,u32,u33,u34,u35,u36,u37,u38,u39,u40,u41,u42,u43,u44,u45,u46,u47,u48,u49,u50,u51,u52,u53,u54,u55,u56,u57,u58,u59,u60,u61,u62,u63,u64,u65,u66,u67,u68,u69,u70,u71,u72,u73,u74,u75,u76,u77,u78,u79,u80,u81,u82,u83,u84,u85,u86,u87,u88,u89,u90,u91,u92,u93,u94,u95,u96,u97,u98,u99,u100,u101,u102,u103,u104,u105,u106,u107,u108,u109,u110,u111,u112,u113,u114,u115,u116,u117,u118,u119,u120,u121,u122,u123,u124,u125,u126,u127,u128,u129,u130,u131,u132,u133],defers:=[]}∧SlO M 137 4 (.slice r o d) o (catV (E j).1)∧Own w0 w_ (M++[])∧o=n+j∧j<3*n+28∧pw=(E j).2) (fun a_ _=>4*(n+7)-slen (a_.tmps.getD 9 undef)) rfl ?_ ?_
 · clear hm
   have key_:∀(P_:Act→World→Prop),(∀(w_:World)(j o d:Nat)(r:Option Addr)(pw:Byte)(M:List Blk)(u2 u3 u10 u12 u13 u14 u15 u16 u17 u18 u19 u20 u21 u22 u23 u24 u25 u26 u27 u28 u29 u30 u31 u32 u33 u34 u35 u36 u37 u38 u39 u40 u41 u42 u43 u44 u45 u46 u47 u48 u49 u50 u51 u52 u53 u54 u55 u56 u57 u58 u59 u60 u61 u62 u63 u64 u65 u66 u67 u68 u69 u70 u71 u72 u73 u74 u75 u76 u77 u78 u79 u80 u81 u82 u83 u84 u85 u86 u87 u88 u89 u90 u91 u92 u93 u94 u95 u96 u97 u98 u99 u100 u101 u102 u103 u104 u105 u106 u107 u108 u109 u110 u111 u112 u113 u114 u115 u116 u117 u118 u119 u120 u121 u122 u123 u124 u125 u126 u127 u128 u129 u130 u131 u132 u133:Value),SlO M 137 4 (.slice r o d) o (catV (E j).1)∧Own w0 w_ (M++[])∧o=n+j∧j<3*n+28∧pw=(E j).2→P_ {tmps:= #[(.pointer (some ⟨gt,0,none⟩)),(.slice p KL c),u2,u3,(.pointer none),(.int .i64 0),(.int .i64 (n:Int)),(.bool lg),(.int .i64 0),(.slice r o d),u10,(v8 pw),u12,u13,u14,u15,u16,u17,u18,u19,u20,u21,u22,u23,u24,u25,u26,u27,u28,u29,u30,u31,u32,u33,u34,u35,u36,u37,u38,u39,u40,u41,u42,u43,u44,u45,u46,u47,u48,u49,u50,u51,u52,u53,u54,u55,u56,u57,u58,u59,u60,u61,u62,u63,u64,u65,u66,u67,u68,u69,u70,u71,u72,u73,u74,u75,u76,u77,u78,u79,u80,u81,u82,u83,u84,u85,u86,u87,u88,u89,u90,u91,u92,u93,u94,u95,u96,u97,u98,u99,u100,u101,u102,u103,u104,u105,u106,u107,u108,u109,u110,u111,u112,u113,u114,u115,u116,u117,u118,u119,u120,u121,u122,u123,u124,u125,u126,u127,u128,u129,u130,u131,u132,u133],defers:=[]} w_)→∀(a_:Act)(w_:World),(∃(j o d:Nat)(r:Option Addr)(pw:Byte)(M:List Blk)(u2 u3 u10 u12 u13 u14 u15 u16 u17 u18 u19 u20 u21 u22 u23 u24 u25 u26 u27 u28 u29 u30 u31 u32 u33 u34 u35 u36 u37 u38 u39 u40 u41 u42 u43 u44 u45 u46 u47 u48 u49 u50 u51 u52 u53 u54 u55 u56 u57 u58 u59 u60 u61 u62 u63 u64 u65 u66 u67 u68 u69 u70 u71 u72 u73 u74 u75 u76 u77 u78 u79 u80 u81 u82 u83 u84 u85 u86 u87 u88 u89 u90 u91 u92 u93 u94 u95 u96 u97 u98 u99 u100 u101 u102 u103 u104 u105 u106 u107 u108 u109 u110 u111 u112 u113 u114 u115 u116 u117 u118 u119 u120 u121 u122 u123 u124 u125 u126 u127 u128 u129 u130 u131 u132 u133:Value),a_={tmps:= #[(.pointer (some ⟨gt,0,none⟩)),(.slice p KL c),u2,u3,(.pointer none),(.int .i64 0),(.int .i64 (n:Int)),(.bool lg),(.int .i64 0),(.slice r o d),u10,(v8 pw),u12,u13,u14,u15,u16,u17,u18,u19,u20,u21,u22,u23,u24,u25,u26,u27,u28,u29,u30,u31,u32,u33,u34,u35,u36,u37,u38,u39,u40,u41,u42,u43,u44,u45,u46,u47,u48,u49,u50,u51,u52,u53,u54,u55,u56,u57,u58,u59,u60,u61,u62,u63,u64,u65,u66,u67,u68,u69,u70,u71,u72,u73,u74,u75,u76,u77,u78,u79,u80,u81,u82,u83,u84,u85,u86,u87,u88,u89,u90,u91,u92,u93,u94,u95,u96,u97,u98,u99,u100,u101,u102,u103,u104,u105,u106,u107,u108,u109,u110,u111,u112,u113,u114,u115,u116,u117,u118,u119,u120,u121,u122,u123,u124,u125,u126,u127,u128,u129,u130,u131,u132,u133],defers:=[]}∧SlO M 137 4 (.slice r o d) o (catV (E j).1)∧Own w0 w_ (M++[])∧o=n+j∧j<3*n+28∧pw=(E j).2)→P_ a_ w_:=
     fun P_ h_ a_ w_ z=>z.elim fun j z=>z.elim fun o z=>z.elim fun d z=>z.elim fun r z=>z.elim fun pw z=>z.elim fun M z=>z.elim fun u2 z=>z.elim fun u3 z=>z.elim fun u10 z=>z.elim fun u12 z=>z.elim fun u13 z=>z.elim fun u14 z=>z.elim fun u15 z=>z.elim fun u16 z=>z.elim fun u17 z=>z.elim fun u18 z=>z.elim fun u19 z=>z.elim fun u20 z=>z.elim fun u21 z=>z.elim fun u22 z=>z.elim fun u23 z=>z.elim fun u24 z=>z.elim fun u25 z=>z.elim fun u26 z=>z.elim fun u27 z=>z.elim fun u28 z=>z.elim fun u29 z=>z.elim fun u30 z=>z.elim fun u31 z=>z.elim fun u32 z=>z.elim fun u33 z=>z.elim fun u34 z=>z.elim fun u35 z=>z.elim fun u36 z=>z.elim fun u37 z=>z.elim fun u38 z=>z.elim fun u39 z=>z.elim fun u40 z=>z.elim fun u41 z=>z.elim fun u42 z=>z.elim fun u43 z=>z.elim fun u44 z=>z.elim fun u45 z=>z.elim fun u46 z=>z.elim fun u47 z=>z.elim fun u48 z=>z.elim fun u49 z=>z.elim fun u50 z=>z.elim fun u51 z=>z.elim fun u52 z=>z.elim fun u53 z=>z.elim fun u54 z=>z.elim fun u55 z=>z.elim fun u56 z=>z.elim fun u57 z=>z.elim fun u58 z=>z.elim fun u59 z=>z.elim fun u60 z=>z.elim fun u61 z=>z.elim fun u62 z=>z.elim fun u63 z=>z.elim fun u64 z=>z.elim fun u65 z=>z.elim fun u66 z=>z.elim fun u67 z=>z.elim fun u68 z=>z.elim fun u69 z=>z.elim fun u70 z=>z.elim fun u71 z=>z.elim fun u72 z=>z.elim fun u73 z=>z.elim fun u74 z=>z.elim fun u75 z=>z.elim fun u76 z=>z.elim fun u77 z=>z.elim fun u78 z=>z.elim fun u79 z=>z.elim fun u80 z=>z.elim fun u81 z=>z.elim fun u82 z=>z.elim fun u83 z=>z.elim fun u84 z=>z.elim fun u85 z=>z.elim fun u86 z=>z.elim fun u87 z=>z.elim fun u88 z=>z.elim fun u89 z=>z.elim fun u90 z=>z.elim fun u91 z=>z.elim fun u92 z=>z.elim fun u93 z=>z.elim fun u94 z=>z.elim fun u95 z=>z.elim fun u96 z=>z.elim fun u97 z=>z.elim fun u98 z=>z.elim fun u99 z=>z.elim fun u100 z=>z.elim fun u101 z=>z.elim fun u102 z=>z.elim fun u103 z=>z.elim fun u104 z=>z.elim fun u105 z=>z.elim fun u106 z=>z.elim fun u107 z=>z.elim fun u108 z=>z.elim fun u109 z=>z.elim fun u110 z=>z.elim fun u111 z=>z.elim fun u112 z=>z.elim fun u113 z=>z.elim fun u114 z=>z.elim fun u115 z=>z.elim fun u116 z=>z.elim fun u117 z=>z.elim fun u118 z=>z.elim fun u119 z=>z.elim fun u120 z=>z.elim fun u121 z=>z.elim fun u122 z=>z.elim fun u123 z=>z.elim fun u124 z=>z.elim fun u125 z=>z.elim fun u126 z=>z.elim fun u127 z=>z.elim fun u128 z=>z.elim fun u129 z=>z.elim fun u130 z=>z.elim fun u131 z=>z.elim fun u132 z=>z.elim fun u133 z=>Eq.subst (motive:=fun z_=>P_ z_ w_) z.1.symm (h_ w_ j o d r pw M u2 u3 u10 u12 u13 u14 u15 u16 u17 u18 u19 u20 u21 u22 u23 u24 u25 u26 u27 u28 u29 u30 u31 u32 u33 u34 u35 u36 u37 u38 u39 u40 u41 u42 u43 u44 u45 u46 u47 u48 u49 u50 u51 u52 u53 u54 u55 u56 u57 u58 u59 u60 u61 u62 u63 u64 u65 u66 u67 u68 u69 u70 u71 u72 u73 u74 u75 u76 u77 u78 u79 u80 u81 u82 u83 u84 u85 u86 u87 u88 u89 u90 u91 u92 u93 u94 u95 u96 u97 u98 u99 u100 u101 u102 u103 u104 u105 u106 u107 u108 u109 u110 u111 u112 u113 u114 u115 u116 u117 u118 u119 u120 u121 u122 u123 u124 u125 u126 u127 u128 u129 u130 u131 u132 u133 z.2)
   refine key_ _ ?_
   clear key_
   intro w j o d r pw M u2 u3 u10 u12 u13 u14 u15 u16 u17 u18 u19 u20 u21 u22 u23 u24 u25 u26 u27 u28 u29 u30 u31 u32 u33 u34 u35 u36 u37 u38 u39 u40 u41 u42 u43 u44 u45 u46 u47 u48 u49 u50 u51 u52 u53 u54 u55 u56 u57 u58 u59 u60 u61 u62 u63 u64 u65 u66 u67 u68 u69 u70 u71 u72 u73 u74 u75 u76 u77 u78 u79 u80 u81 u82 u83 u84 u85 u86 u87 u88 u89 u90 u91 u92 u93 u94 u95 u96 u97 u98 u99 u100 u101 u102 u103 u104 u105 u106 u107 u108 u109 u110 u111 u112 u113 u114 u115 u116 u117 u118 u119 u120 u121 u122 u123 u124 u125 u126 u127 u128 u129 u130 u131 u132 u133
   rintro ⟨hso,hm,ho,hj,hpw⟩
   have HSO:=Lib.hid hso
   have lE:=LE.out j
   have EEj:=EE.out j
   obtain⟨rd0,rd1,rd2⟩:=slo_rdN (by omega) hso EEj hm
   clear rd1
   have o60:(o:Int)≤60:=by omega
   have o4:4≤(o:Int):=by omega
   obtain⟨a,rfl⟩:=rd0.addr (by omega) (by omega)
   have RW:=Lib.hid fun (wx:World)(hx:Own w0 wx (M++[]))=>(slo_rdN (by omega) hso EEj hx).1
   have RJ:=Lib.hid fun (wx:World)(hx:Own w0 wx (M++[]))=>(show RdB wx (some (a.add (j*4))) ((E j).1.getD j [])from((RW.out wx hx).at (by omega) j (by omega)).1)
   have RL:=Lib.hid fun (wx:World)(hx:Own w0 wx (M++[]))=>(show RdB wx (some (a.add ((o-1)*4))) ((E j).1.getD (o-1) [])from((RW.out wx hx).at (by omega) (o-1) (by omega)).1)
   have l1:((E j).1.getD j []).length=4:=(rd0.at (by omega) j (by omega)).2
   have l2:((E j).1.getD (o-1) []).length=4:=(rd0.at (by omega) (o-1) (by omega)).2
   have ESj:=Lib.hid (ES.out j)
   have ESpj:=Lib.hid (ESp.out j)
   rw [show n+j=o from ho.symm,←hpw]at ESj ESpj
   generalize (E j).1.getD j []=WJ at*
   generalize (E j).1.getD (o-1) []=WL at*
   have LW:=Lib.hid l2
   have LJ:=Lib.hid l1
   have hm0:(o:Int).tmod (n:Int)=((o%n:Nat):Int):=rfl
   have t1:((o:Int)-1).toNat=o-1:=by omega
   have x1:(0:Int)≤(o:Int)-1:=by omega
   have x2:(o:Int)-1<(o:Int):=by omega
   have BX:=Lib.hid fun (w:World)(h:Ext w0 w)(x:List Byte)(hx:x.length=4)=>aboxed_any gt gb x hx w (row_ext TB.out h) (row_ext BB.out h)
   have HJ:=Lib.hid hj
   have HO:=Lib.hid ho
   have HPW:=Lib.hid hpw
   have HD:=Lib.hid rd2
   have l3:=exB_length n lg o WL pw l2
   clear hso rd0 EEj lE hpw ho hj rd2
   go_upto_block 2 with (first|((with_reducible apply wq_rdW (RL.out _ hm));exact rfl;infer_instance;exact rfl;exact LW.out)|((((with_reducible show qSt);first|((with_reducible apply wq_stW hm);exact rfl;infer_instance;exact rfl;exact rfl;(focus ((repeat (first|exact .hd|assumption|apply Swap.tl|apply Swap.app));done));(focus (first|rfl|omega|(simp;done)|(simp;omega)));(focus (first|rfl|omega|(simp;done)|(simp;omega)));(focus (first|exact one_map _|(simp [one8,one32,one64];done))))));clear hm;intro w hm)|((first|((with_reducible show qAl);first|((with_reducible apply wq_new hm);exact rfl;infer_instance)));clear hm;(first|(have hx_:=g1;clear hx_;(first|(have hx_:=g2;clear hx_;intro gx_)|intro g2))|intro g1);intro w hm))
   simp only [Act.put,sIB,sCS,sCZ]
   go_cut [11]from 51 to 86 (fun vp wc=>vp=v8 (exP n o pw)∧Own w0 wc (⟨g1,137,(exB n lg o WL pw).map v8⟩::(M++[])))
   case first=>
     by_cases h0:o%n=0
     · have eB:exB n lg o WL pw=setN (boxW (rotW WL)) 0 (nth (boxW (rotW WL)) 0^^^pw):=if_pos h0
       have eP:exP n o pw=dbl pw:=if_pos h0
       have BR:=Lib.hid fun (w:World)(h:Ext w0 w)=>BX.out w h (rotW WL) rfl
       have BW:=Lib.hid fun w=>(show(Instr.build 137 #[(0,v8 (nth WL 1)),(1,v8 (nth WL 2)),(2,v8 (nth WL 3)),(3,v8 (nth WL 0))]).run Tryz.prog w= .ok (A8 (rotW WL)) w from build_word _ _ _ _ w)
       have lR:(boxW (rotW WL)).length=4:=boxW_length _
       have EB:=Lib.hid eB
       have EP:=Lib.hid eP
       generalize rotW WL=RR at*
       generalize boxW RR=ZZ at*
       rw [h0]at hm0
       have b0:(((0:Nat):Int)==0)=true:=rfl
       clear eB eP h0
       go_wp2_with (first|((with_reducible apply wq_build4 BW.out);exact rfl;exact rfl;exact rfl;exact rfl;exact rfl)|(go_at_call 61;(with_reducible refine(BR.out _ hm.x).mono ?_);rintro e_ w ⟨rfl,hx_⟩;replace hm:=hm.ext hx_;clear hx_)|(go_at_call 39;(with_reducible refine(double_any _ _).mono ?_);rintro e_ w' ⟨rfl,rfl⟩)|((with_reducible show qLd);first|((with_reducible apply wq_ldv hm);exact rfl;infer_instance;exact rfl;(focus ((repeat (first|exact .hd|assumption|apply Has.tl|apply Has.app));done));(focus (first|omega|(simp;omega)|(refine ltB ?_;first|omega|(simp;done)|(simp;omega))))))|((((with_reducible show qSt);first|((with_reducible apply wq_stv hm);exact rfl;infer_instance;exact rfl;(focus ((repeat (first|exact .hd|assumption|apply Swap.tl|apply Swap.app));done));infer_instance;exact rfl;(focus (first|omega|(simp;omega)|(refine ltB ?_;first|omega|(simp;done)|(simp;omega)))))|((with_reducible apply wq_stW hm);exact rfl;infer_instance;exact rfl;exact rfl;(focus ((repeat (first|exact .hd|assumption|apply Swap.tl|apply Swap.app));done));(focus (first|rfl|omega|(simp;done)|(simp;omega)));(focus (first|rfl|omega|(simp;done)|(simp;omega)));(focus (first|exact one_map _|(simp [one8,one32,one64];done))))));clear hm;intro w hm))
       go_meet
       rw [EB.out,EP.out]
       exact⟨rfl,hm⟩
     · obtain⟨q,hq⟩:∃q,q=o%n:=⟨_,rfl⟩
       have q8:q<n:=by rw [hq];exact Nat.mod_lt _ (by omega)
       have eP:exP n o pw=pw:=if_neg h0
       rw [←hq]at hm0 h0
       have b0:((q:Int)==0)=false:=by rw [beq_eq_false_iff_ne];omega
       have b1:¬(q:Int)=0:=by omega
       have EP:=Lib.hid eP
       by_cases h1:lg=true∧q=4
       · obtain⟨rfl,rfl⟩:=h1
         have eB:exB n true o WL pw=boxW WL:=by rw [exB,if_neg (by omega),if_pos ⟨rfl,by omega⟩]
         have EB:=Lib.hid eB
         have BR:=Lib.hid fun (w:World)(h:Ext w0 w)=>BX.out w h WL LW.out
         have lR:(boxW WL).length=4:=boxW_length _
         generalize boxW WL=ZZ at*
         have l5:=Nat.le_of_eq LW.out
         have l6:=Nat.le_of_eq LW.out.symm
         have b4:(((4:Nat):Int)==4)=true:=rfl
         clear eB eP h0 hq
         go_wp2_with (first|(go_at_call 61;(with_reducible refine(BR.out _ hm.x).mono ?_);rintro e_ w ⟨rfl,hx_⟩;replace hm:=hm.ext hx_;clear hx_)|((with_reducible show qLd);first|((with_reducible apply wq_ldW hm);exact rfl;infer_instance;exact rfl;(focus ((repeat (first|exact .hd|assumption|apply Has.tl|apply Has.app));done));(focus (first|rfl|omega|(simp;done)|(simp;omega)))))|((((with_reducible show qSt);first|((with_reducible apply wq_stW hm);exact rfl;infer_instance;exact rfl;exact rfl;(focus ((repeat (first|exact .hd|assumption|apply Swap.tl|apply Swap.app));done));(focus (first|rfl|omega|(simp;done)|(simp;omega)));(focus (first|rfl|omega|(simp;done)|(simp;omega)));(focus (first|exact one_map _|(simp [one8,one32,one64];done))))));clear hm;intro w hm))
         go_meet
         rw [EB.out,EP.out]
         exact⟨rfl,hm⟩
       · have eB:exB n lg o WL pw=WL:=by rw [exB,if_neg (by omega),if_neg (by rw [←hq];exact h1)]
         have EB:=Lib.hid eB
         have b4:lg=true→((q:Int)==4)=false:=fun h=>by rw [beq_eq_false_iff_ne];intro h2;exact h1 ⟨h,by omega⟩
         clear eB eP h0 hq
         cases hlg:lg with
         | false=>
           subst hlg
           clear b4 h1
           go_wp2_with fail
           go_meet
           rw [EB.out,EP.out]
           exact⟨rfl,hm⟩
         | true=>
           subst hlg
           have b5:=b4 rfl
           have b6:¬(q:Int)=4:=fun h=>h1 ⟨rfl,by omega⟩
           clear b4 h1
           go_wp2_with fail
           go_meet
           rw [EB.out,EP.out]
           exact⟨rfl,hm⟩
   obtain⟨rfl,hc⟩:=hcut
   clear hm
   obtain⟨w,rfl⟩:∃w_,w_=wc:=⟨_,rfl⟩
   have hm:=hc
   clear hc
   have AP:=Lib.hid fun (w:World)=>aplus_any WJ (exB n lg o WL pw) LJ.out l3 w
   have lNW:=plus4_length WJ (exB n lg o WL pw)
   generalize plus4 WJ (exB n lg o WL pw)=NW at*
   generalize exB n lg o WL pw=W2 at*
   generalize exP n o pw=P2 at*
   have LNW:=Lib.hid lNW
   have BW:=Lib.hid (bs_word NW lNW)
   have LC:=Lib.hid (show(catV [NW]).length=1*4 by rw [catV_length 4 [NW] (by intro x hx;rw [List.mem_singleton.1 hx];exact lNW)];rfl)
   have t2:((o:Int)-(n:Int)).toNat=j:=by have:=HO.out;omega
   have x3:(0:Int)≤(o:Int)-(n:Int):=by have:=HO.out;omega
   have x4:(o:Int)-(n:Int)<(o:Int):=by omega
   have x5:(n:Int)≤(o:Int):=by have:=HO.out;omega
   have x6:(0:Int)<(n:Int):=by omega
   have hfit:(o+1)*(4+1)≤140737488355328:=by omega
   have hmA:=hm
   have RJ2:=Lib.hid fun wx (h:Ext w wx)=>RJ.out wx ((hmA.ext h).drop)
   clear hmA lNW
   go_wp2_with fail
   refine region_at 11 (fun w'=>Ext _ w') 134 (by kernel_rfl) (by kernel_rfl) rfl (fun _ _ h k=>h.trans k) (drew_ext _) ?_
   simp only [tSC,List.take_zero,dSC,List.drop_zero,List.map_cons,List.map_nil]
   repeat (first
       | (apply walk_is rfl rfl rfl
          · (intro wx hwx;(with_reducible apply gq_rdW ((RJ2.out) wx hwx));infer_instance;exact rfl;(focus (first|rfl|omega|(simp;done)|(simp;omega))))
          · (simp only [Act.put,sIB,sCS,sCZ];rfl))
       |(apply walk_some (KeysN 4 [NW]) 97 (KeysN.stable _ _) rfl rfl rfl rfl;(intro wx hwx;exact gq_bsN1 LNW.out (BW.out wx) rfl))
       | (apply walk_is rfl rfl rfl
          · (intro wx hwx;first|((with_reducible show gives _ _ _ (Sem.run _ (execOp _ (Oper.mk _ (Op.load _ _) _ _ _ _)) _));first|((with_reducible apply gq_ldW (hm.ext hwx));infer_instance;exact rfl;(focus ((repeat (first|exact .hd|assumption|apply Has.tl|apply Has.app));done));(focus (first|rfl|omega|(simp;done)|(simp;omega)))))|(go_simp;(try go_bits);first|exact gives_same|exact gives_skip|with_reducible exact gives_call (AP.out wx)))
          · (simp only [Act.put,sIB,sCS,sCZ];rfl))
       | (apply walk_not rfl rfl rfl
          · (simp only [Act.put,sIB,sCS,sCZ];rfl)))
   intro wz hwz
   simp only [zCC,zNR]
   repeat (first|rw [fin_is]|(rw [fin_cons];intro _ _))
   rw [fin_nil]
   try (replace hm:=hm.ext hwz)
   simp only [Act.put,sIB,sCS,sCZ]
   rename_i x97 hx97
   obtain⟨pn,cn,rfl,hcn,hkn⟩:=hx97
   have HKN:=Lib.hid hkn
   clear hcn hkn
   by_cases hlast:o+1<4*(n+7)
   · have b7:decide ((o:Int)+1<4*((n:Int)+6+1))=true:=decide_eq_true (by omega)
     have b8:(o:Int)+1<4*((n:Int)+6+1):=by omega
     go_wp2_with (first|((with_reducible show wpList _ _ _ (Oper.mk _ (Op.call _) _ _ _ _::_) _ _);refine wplO_app (M:=M) (R:=_) (ds:=catV [NW]) (hm.perm (List.perm_middle.symm)) HSO.out rfl rfl rfl rfl Tryz.underlying136 LC.out (HKN.out.cells) (catV_one _) hfit ?_;clear hm;intro v1 w M1 hm hs1;obtain⟨p_v1,c_v1,rfl⟩:=hs1.form;replace hm:=hm.perm (List.perm_middle)))
     go_step3
     refine⟨rfl,⟨_,_,_,_,_,_,_,_,_,_,_,_,_,_,_,_,_,_,_,_,_,_,_,_,_,_,_,_,_,_,_,_,_,_,_,_,_,_,_,_,_,_,_,_,_,_,_,_,_,_,_,_,_,_,_,_,_,_,_,_,_,_,_,_,_,_,_,_,_,_,_,_,_,_,_,_,_,_,_,_,_,_,_,_,_,_,_,_,_,_,_,_,_,_,_,_,_,_,_,_,_,_,_,_,_,_,_,_,_,_,_,_,_,_,_,_,_,_,_,_,_,_,_,_,_,_,_,_,_,_,_,rfl,⟨by rw [ESj.out,catV_append];exact hs1,hm.drop,by have:=HO.out;omega,by have:=HO.out;omega,ESpj.out.symm⟩⟩, ?_⟩
     simp [slen]
     omega
   · have b7 : decide ((o:Int)+1<4*((n:Int)+6+1))=false:=decide_eq_false (by omega)
     have b8:¬(o:Int)+1<4*((n:Int)+6+1):=by omega
     have hj28:j+1=3*n+28:=by have:=HO.out;have:=HJ.out;omega
     have LEf:=LE.out (j+1)
     have EEf:=EE.out (j+1)
     have EFf:=EF.out
     rw [←hj28]at EFf
     have BK:=Lib.hid fun w=>build_key gt w
     go_wp2_with (first|((with_reducible show wpList _ _ _ (Oper.mk _ (Op.call _) _ _ _ _::_) _ _);refine wplO_app (M:=M) (R:=_) (ds:=catV [NW]) (hm.perm (List.perm_middle.symm)) HSO.out rfl rfl rfl rfl Tryz.underlying136 LC.out (HKN.out.cells) (catV_one _) hfit ?_;clear hm;intro v1 w M1 hm hs1;obtain⟨p_v1,c_v1,rfl⟩:=hs1.form;replace hm:=hm.perm (List.perm_middle))|((with_reducible apply wq_build1 BK.out);exact rfl;exact rfl)|((first|((with_reducible show qBx);first|((with_reducible apply wq_boxN hm);exact rfl;exact rfl)));clear hm;(first|(have hx_:=g1;clear hx_;(first|(have hx_:=g2;clear hx_;intro gx_)|intro g2))|intro g1);intro w hm))
     rw [←catV_append,←ESj.out]at hs1
     clear HSO LC HKN hfit RJ2 RJ RL RW
     have hwl:o+1=4*n+28:=by omega
     have RW:=Lib.hid fun (wx:World)(L:List Blk)(hx:Own w0 wx (L++(M1++[])))=>slo_rdN (by omega) hs1 EEf hx.dropN
     obtain⟨_,ho1,hoc⟩:=RW.out w [⟨g2,144,aesC gt none 0 0⟩,⟨g1,137,W2.map v8⟩] hm
     obtain⟨WS,hWS⟩:∃x,x=(E (j+1)).1:=⟨_,rfl⟩
     rw [←hWS]at hs1 LEf EEf EFf ESj RW ho1
     clear hWS
     obtain⟨a1,rfl⟩:=(RW.out w [⟨g2,144,aesC gt none 0 0⟩,⟨g1,137,W2.map v8⟩] hm).1.addr (by omega) (by omega)
     have n7:(n:Int)+6+1=((n+7:Nat):Int):=by omega
     have lKS:KS.length=n+7:=by rw [EFf];exact rksL_length _ _
     have h16:=fun i (hi:i≤n+7)=>rksL_each WS EEf i (by omega)
     have H16:=Lib.hid h16
     have L16:=Lib.hid fun i (hi:i<n+7)=>rkL_length WS EEf i (by omega)
     have JO:=Lib.hid fun (i:Nat)(hi:i<n+7)(wx:World)(L:List Blk)(hx:Own w0 wx (L++(M1++[])))(cc:Nat)(hcc:4≤cc)=>(show Gives Tryz.prog 63 #[.slice (some (a1.add (4*i*4))) 4 cc] wx (A8 (rkL WS i))from joined_any _ _ _ wx ((RW.out wx L hx).1.seg (by omega) (4*i) 4 (by omega) (by omega)) (by rw [List.length_take,List.length_drop];omega) hcc)
     have RS0:Hid (rksL WS 0=[]):=Lib.hid rfl
     have RSS:=Lib.hid (rksL_succ WS)
     have hs0:SlO [] 68 16 (.slice none 0 0) 0 (catV (rksL WS 0)):=by rw [RS0.out];exact SlO.nil _ _
     have HS0:=Lib.hid hs0
     have HWL:=Lib.hid hwl
     have HOC:Hid (o+1≤c_v1):=Lib.hid hoc
     have HEF:=Lib.hid EFf
     have HLK:=Lib.hid lKS
     clear hs0 h16 hs1 LEf EEf ho1 hwl hoc EFf lKS hlast b7 b8 hj28 t1 t2 x1 x2 x3 x4
     go_loopw [112] (fun vi wr=>∃(i d2:Nat)(r2:Option Addr)(M2:List Blk),i≤n+7∧vi= .int .i64 i∧SlO M2 68 16 (.slice r2 i d2) i (catV (rksL WS i))∧Own w0 wr (M2++(⟨g2,144,aesC gt r2 i d2⟩::⟨g1,137,W2.map v8⟩::(M1++[])))) (fun vi _=>n+7-(intOf vi).toNat)
     case atStart=>exact⟨0,0,none,[],by omega,rfl,HS0.out,hm⟩
     case round =>
       obtain⟨i,d2,r2,M2,hi,rfl,hso2,hm⟩:=hrel
       have HSO2:=Lib.hid hso2
       by_cases hlt:i<n+7
       · have hd:decide ((i:Int)<(n:Int)+6+1)=true:=decide_eq_true (by omega)
         have hd1:decide ((i:Int)<(n:Int)+7)=true:=decide_eq_true (by omega)
         have hd2:(i:Int)<(n:Int)+7:=by omega
         have lRK:=L16.out i hlt
         have JI:=Lib.hid (JO.out i hlt)
         have RSi:=Lib.hid (RSS.out i)
         obtain⟨RK,hRK⟩:∃x,x=rkL WS i:=⟨_,rfl⟩
         obtain⟨RL0,hRL0⟩:∃x,x=rksL WS i:=⟨_,rfl⟩
         rw [←hRK]at lRK JI RSi
         rw [←hRL0]at HSO2 RSi
         clear hRK hRL0
         have BR:=Lib.hid (bs_run1 RK lRK)
         have LR:=Lib.hid (show(catV [RK]).length=1*16 by rw [catV_length 16 [RK] (by intro x hx;rw [List.mem_singleton.1 hx];exact lRK)];rfl)
         have FIT:=Lib.hid (show(i+1)*(16+1)≤140737488355328 by omega)
         have CR:=Lib.hid fun (wx:World)(g:Nat)(e:TypeId)(h:Row wx g e (catV [RK]))=>(rdK_row (m:=16) (by intro x hx;rw [List.mem_singleton.1 hx];exact lRK) h).cells
         have i1:(i:Int)≤14:=by omega
         clear hso2
         go_wp2_with fail
         have s0:4*i+4≤c_v1:=by have:=HWL.out;have:=HOC.out;omega
         have s1:4*(i:Int)+4≤(c_v1:Int):=by omega
         have s2:¬c_v1=4*i:=by omega
         have s3:(4*(i:Int)).toNat=4*i:=by omega
         have s4:(4*(i:Int)+4).toNat=4*i+4:=by omega
         have s5:4*i+4-4*i=4:=by omega
         have s6:(0:Int)≤4*(i:Int)+4:=by omega
         have s7:(0:Int)≤4*(i:Int):=by omega
         have s8:4*(i:Int)≤4*(i:Int)+4:=by omega
         have JI2:=Lib.hid fun (wx:World)(hx:Own w0 wx (⟨g2,144,aesC gt r2 i d2⟩::⟨g1,137,W2.map v8⟩::(M1++[])))=>JI.out wx [⟨g2,144,aesC gt r2 i d2⟩,⟨g1,137,W2.map v8⟩] hx (c_v1-4*i) (by omega)
         refine pregion 15 (JA1 w0 (⟨g2,144,aesC gt r2 i d2⟩::⟨g1,137,W2.map v8⟩::(M1++[])) 68 16 (.slice r2 i d2) i (catV RL0) (i+1) (catV RL0++catV [RK])) [14] 134 (by kernel_rfl) (by kernel_rfl) rfl (⟨none,rfl,M2,hm.ext (drew_ext _),HSO2.out⟩) ?_
         simp only [tSC,List.take_zero,dSC,List.drop_zero,List.map_cons,List.map_nil]
         repeat (first
             |(apply pwalk_some (KeyQ RK) 128 (KeyQ.stable _) rfl rfl rfl rfl rfl;(intro vs_ wx hJ_;exact gqp_bsK (BR.out wx) rfl))
             | (apply pwalk_mark (T:=[(128,KeyQ RK)]) 0 [] rfl rfl rfl (by kernel_rfl) rfl
                · (intro vs_ wx hJ_ hn_ hD_;simp only [pwithS];obtain⟨a_,rfl,hX_⟩:=hJ_;obtain rfl:a_=none:=(by simpa using hn_);obtain⟨M_,hm,hs_⟩:=hX_;intro x_ hx_;obtain⟨gx_,ex_,rfl,hrow_⟩:=hx_ rfl;refine⟨rfl, ?_⟩;refine wplO_app (M:=M_) (ds:=catV [RK]) hm hs_ rfl rfl rfl rfl Tryz.underlying142 LR.out (CR.out _ _ _ hrow_) (catV_one _) FIT.out ?_;intro v_ w_ M1_ hm1_ hs1_;exact mark_end rfl (X1.j0 hm1_ hs1_)))
             | (apply pwalk_is rfl rfl rfl rfl
                · (intro vs_ wx hJ_;obtain⟨a_,rfl,hX_⟩:=hJ_;have hm:=hX_.low;first|((with_reducible show gives _ _ _ (Sem.run _ (execOp _ (Oper.mk _ (Op.load _ _) _ _ _ _)) _));first|((with_reducible apply gq_ldv hm);infer_instance;exact rfl;(focus ((repeat (first|exact .hd|assumption|apply Has.tl|apply Has.app));done));(focus (first|omega|(simp;omega)|(refine ltB ?_;first|omega|(simp;done)|(simp;omega)))))|((with_reducible apply gq_ldW hm);infer_instance;exact rfl;(focus ((repeat (first|exact .hd|assumption|apply Has.tl|apply Has.app));done));(focus (first|rfl|omega|(simp;done)|(simp;omega))))|((with_reducible apply gq_ld1 hm);infer_instance;exact rfl;(focus ((repeat (first|exact .hd|assumption|apply Has.tl|apply Has.app));done));exact rfl))|(go_simp;(try go_bits);first|exact gives_same|exact gives_skip|with_reducible exact gives_call (JI2.out wx hm)))
                · (simp only [Act.put,sIB,sCS,sCZ];rfl)))
         intro vs_ wz hJ_ hl_ hall_
         simp only [zCC,zNR]
         repeat rw [pfin_is]
         rw [pfin_cons];intro y128 hy128
         repeat rw [pfin_is]
         rw [pfin_cons];intro x129 hx129
         repeat rw [pfin_is]
         rw [pfin_nil]
         simp only [Act.put,sIB,sCS,sCZ]
         obtain⟨a_,rfl,hX_⟩:=hJ_
         obtain rfl:a_=some x129:=(by simpa [PMk]using hx129)
         clear hm
         obtain⟨M3,hm,hs3⟩:=hX_
         obtain⟨p3,c3,rfl⟩:=hs3.form
         clear hl_ hall_ hx129 hy128
         go_wp2_with (first|((with_reducible apply wq_st1 (v:= .slice p3 (i+1) c3) hm);exact rfl;infer_instance;exact rfl;exact rfl;exact rfl;exact rfl;exact(Swap.app .hd);exact(show 1<2 from by omega);clear hm;intro w hm))
         go_roundw
         case rel=>
           repeat apply Exists.intro
           exact⟨⟨i+1,c3,p3,M3,by omega,by go_num,by rw [RSi.out,catV_append];exact hs3,hm⟩,rfl⟩
         case measure=>simp [intOf]<;>omega
       · obtain rfl:i=n+7:=by omega
         have hd:decide (((n+7:Nat):Int)<(n:Int)+6+1)=false:=decide_eq_false (by omega)
         have hd1:decide (((n+7:Nat):Int)<(n:Int)+7)=false:=decide_eq_false (by omega)
         have hd2:¬((n+7:Nat):Int)<(n:Int)+7:=by omega
         clear hso2
         go_wp2_with fail
         simp only [Exit.jump]
         go_ret2
         obtain⟨rk0,_,rk2⟩:=slo_rdN (by omega) HSO2.out (H16.out (n+7) (Nat.le_refl _)) hm
         obtain⟨a2,rfl⟩:=rk0.addr (by omega) (by rw [rksL_length];omega)
         refine⟨g2,_,rfl,hm.dropN.base .hd,hm,fun wx hrow htab=> ?_⟩
         have rk:=(slo_rdNR (by omega) HSO2.out (H16.out (n+7) (Nat.le_refl _)) fun b hb=>hrow b (List.mem_append_left _ hb)).1
         rw [←HEF.out,ET.out]at rk
         exact⟨gt,gb,a2,d2,by rw [EL.out];exact hrow _ (List.mem_append_right _ (List.mem_cons_self ..)),htab.1,htab.2,rk,by rw [EL.out];exact rk2,by rw [EL.out];omega,by rw [EL.out];omega⟩
 · intro hp
   go_wp2_with (first|(go_at_call 58;(with_reducible refine(SH.out _).mono ?_);rintro e_ w_ ⟨rfl,rfl⟩)|((with_reducible apply wq_mkN 0 (4*(n+7)) Tryz.underlying136 elemW4 hm);exact rfl;exact rfl;exact rfl;exact rfl;exact e7;(focus omega);(focus omega);(focus omega);clear hm;intro g1 w cur hcur hm))
   have hs0:=SlO.room g1 137 4 (4*(n+7)) cur (by rw [hcur]) (by unfold maxLen;omega)
   go_loopw [9,33] (fun va vi wr=>∃(k d:Nat)(r:Option Addr)(M:List Blk),k≤n∧vi= .int .i64 k∧va= .slice r k d∧SlO M 137 4 (.slice r k d) k (catV ((List.range k).map (wdB key)))∧Own w0 wr (M++[])) (fun _ vi _=>n-(intOf vi).toNat)
   case atStart=>exact⟨0,_,_,_,by omega,rfl,rfl,hs0,hm⟩
   case round=>
     obtain⟨k,d,r,M,hkn,rfl,rfl,hso,hm⟩:=hrel
     clear hs0 hcur
     by_cases hlt:k<n
     · have hd:decide ((k:Int)<(n:Int))=true:=decide_eq_true (by omega)
       have hd2:(k:Int)<(n:Int):=by omega
       have C1:=Lib.hid (W1.out k hlt)
       have C2:=Lib.hid (W2.out k)
       have lW:=W3.out k
       have EK:=Lib.hid (show(List.range (k+1)).map (wdB key)=(List.range k).map (wdB key)++[wdB key k]by simp [List.range_succ])
       have HSO:=Lib.hid hso
       generalize wrd key (4*k)=X at*
       generalize wdB key k=Y at*
       have BW:=Lib.hid (bs_word Y lW)
       have hfit:(k+1)*(4+1)≤140737488355328:=by omega
       have LC:=Lib.hid (show(catV [Y]).length=1*4 by rw [catV_length 4 [Y] (by intro x hx;rw [List.mem_singleton.1 hx];exact lW)];rfl)
       clear hso
       go_wp2_with (first|(go_at_call 60;(with_reducible refine(C1.out _ hm.x).mono ?_);rintro e_ w ⟨rfl,hx_⟩;replace hm:=hm.ext hx_;clear hx_)|(go_at_call 59;(with_reducible refine(C2.out _).mono ?_);rintro e_ w ⟨rfl,hx_⟩;replace hm:=hm.ext hx_;clear hx_)|((with_reducible apply wq_bs1 (ks:=[Y]) hm (BW.out _));exact rfl;exact rfl;clear hm;intro g2 w hm)|((with_reducible show wpList _ _ _ (Oper.mk _ (Op.call _) _ _ _ _::_) _ _);refine wplO_app (M:=M) (R:=_) (ds:=catV [Y]) (hm.perm (List.perm_middle.symm)) HSO.out rfl rfl rfl rfl Tryz.underlying136 LC.out ((rdK_row (m:=4) (by intro x hx;rw [List.mem_singleton.1 hx];exact lW) (hm.row (g:=g2) (by repeat (first|exact Has.hd|assumption|apply Has.tl|apply Has.app)))).cells) (catV_one _) hfit ?_;clear hm;intro v1 w M1 hm hs1;obtain⟨p_v1,c_v1,rfl⟩:=hs1.form;replace hm:=hm.perm (List.perm_middle)))
       go_roundw
       case rel=>exact⟨k+1,_,_,M1,by omega,by go_num,rfl,by rw [EK.out,catV_append];exact hs1,hm.drop⟩
       case measure=>simp [intOf]<;>omega
     · obtain rfl:k=n:=by omega
       have hd:decide ((k:Int)<(k:Int))=false:=decide_eq_false (by omega)
       have HSO:=Lib.hid hso
       clear hso
       go_wp2_with fail
       rw [show(Value.int IntKind.u8 1)=v8 1#8 from rfl]
       go_step3
       rename_i hK
       exact hK _ _ (hp _ _ ⟨_,_,_,_,_,_,_,_,_,_,_,_,_,_,_,_,_,_,_,_,_,_,_,_,_,_,_,_,_,_,_,_,_,_,_,_,_,_,_,_,_,_,_,_,_,_,_,_,_,_,_,_,_,_,_,_,_,_,_,_,_,_,_,_,_,_,_,_,_,_,_,_,_,_,_,_,_,_,_,_,_,_,_,_,_,_,_,_,_,_,_,_,_,_,_,_,_,_,_,_,_,_,_,_,_,_,_,_,_,_,_,_,_,_,_,_,_,_,_,_,_,_,_,_,_,_,_,_,_,_,_,rfl,⟨by rw [E0.out];exact HSO.out,hm,rfl,by omega,E0p.out.symm⟩⟩)
def kN(key:List Byte):Nat:=key.length/4
def kL(key:List Byte):Bool:=decide (key.length=32)
abbrev eK0(key:List Byte):=aesK0 (kN key) (kL key) key
abbrev eKs(key:List Byte):=aesKs (kN key) (kL key) key
abbrev eKl(key:List Byte):=aesKl (kN key) (kL key) key
theorem expand_any(gt gb:Nat)(key:List Byte)(hk:key.length=16∨key.length=24∨key.length=32)(p:Option Addr)(c:Nat)(w0:World)(hr:RdB w0 p key)(hc:key.length≤c)(ht:TabR gt gb w0):
   Calls Tryz.prog 50 #[.pointer (some ⟨gt,0,none⟩), .slice p key.length c] w0 fun e w'=>∃g L,e= .returned (.tuple #[.pointer (some ⟨g,0,none⟩), .int .i64 0])∧w0.heap.size≤g∧Own w0 w' L∧Keeps L (TabR gt gb) (fun wx=>AesR wx g (eK0 key) (eKs key) (eKl key)):=by
 unfold eK0 eKs eKl kN kL
 rcases hk with hk|hk|hk
 · exact expand_gen gt gb _ _ key (by rw [hk];omega) (by rw [hk];omega) (by rw [hk]) p c w0 hr hc ht.1 ht.2 _ rfl _ _ _ rfl rfl rfl (Lib.hid fun w=>by rw [hk];exact shape16 w)
 · exact expand_gen gt gb _ _ key (by rw [hk];omega) (by rw [hk];omega) (by rw [hk]) p c w0 hr hc ht.1 ht.2 _ rfl _ _ _ rfl rfl rfl (Lib.hid fun w=>by rw [hk];exact shape24 w)
 · exact expand_gen gt gb _ _ key (by rw [hk];omega) (by rw [hk];omega) (by rw [hk]) p c w0 hr hc ht.1 ht.2 _ rfl _ _ _ rfl rfl rfl (Lib.hid fun w=>by rw [hk];exact shape32 w)
theorem anum_enc(g:Nat)(k0 kl:List Byte)(ks:List (List Byte))(lo hi:BitVec 64)(w0:World)(h:AesR w0 g k0 ks kl):Gives Tryz.prog 121 #[.func (.func 52) #[.pointer (some ⟨g,0,none⟩)] #[],WV lo hi] w0 (WV (num (aesE k0 ks kl (putL lo 8++putL hi 8)) 0 8) (num (aesE k0 ks kl (putL lo 8++putL hi 8)) 8 8)):=by
 unfold Gives
 have hm:=Own.start w0
 have BB:=Lib.hid fun w=>bytes_any lo hi w
 have lP:(putL lo 8++putL hi 8).length=16:=by rw [List.length_append,putL_length,putL_length]
 have EN:=Lib.hid fun w (hx:Ext w0 w)=>encrypt_any g k0 kl ks (putL lo 8++putL hi 8) lP w (h.ext hx)
 have lE:=aesE_length k0 ks kl (putL lo 8++putL hi 8)
 obtain⟨Pb,hPb⟩:∃x,x=putL lo 8++putL hi 8:=⟨_,rfl⟩
 rw [←hPb]at BB lP EN lE⊢
 obtain⟨E,hE⟩:∃x,x=aesE k0 ks kl Pb:=⟨_,rfl⟩
 rw [←hE]at EN lE⊢
 have LD:=Lib.hid fun (w:World)(q:Option Addr)(d:Nat)(h:RdB w q E)=>(show Gives Tryz.prog 125 #[.slice q 16 d] w (WV (num E 0 8) (num E 8 8))from by
   have:=load_any E q d w h (by omega);rwa [lE]at this)
 have h1:=Nat.le_of_eq lE
 have h2:=Nat.le_of_eq lE.symm
 clear h hPb hE lP
 go_enter Tryz.func121,Tryz.ntmps121
 go_wp2_with (first|(go_at_call 32;(with_reducible refine(BB.out _).mono ?_);rintro e_ w ⟨rfl,hx_⟩;replace hm:=hm.ext hx_;clear hx_)|(go_at_call 52;(with_reducible refine(EN.out _ hm.x).mono ?_);rintro e_ w ⟨rfl,hx_⟩;replace hm:=hm.ext hx_;clear hx_)|(go_at_call 125;(with_reducible refine(LD.out _ _ _ (hm.rdB (l:=E) (by repeat (first|exact Has.hd|assumption|apply Has.tl)))).mono ?_);rintro e_ w ⟨rfl,hx_⟩;replace hm:=hm.ext hx_;clear hx_)|((with_reducible show qLd);first|((with_reducible apply wq_ldW hm);exact rfl;infer_instance;exact rfl;(focus (repeat first|exact .hd|assumption|apply Has.tl);done);(focus (first|rfl|omega|(simp;done)|(simp;omega)))))|((((with_reducible show qSt);first|((with_reducible apply wq_stW hm);exact rfl;infer_instance;exact rfl;exact rfl;(focus (repeat first|exact .hd|assumption|apply Swap.tl);done);(focus (first|rfl|omega|(simp;done)|(simp;omega)));(focus (first|rfl|omega|(simp;done)|(simp;omega)));(focus (first|exact one_map _|(simp [one8,one32,one64];done))))));clear hm;intro w hm)|((first|((with_reducible show qAl);first|((with_reducible apply wq_new hm);exact rfl;infer_instance))|((with_reducible show qBx);first|((with_reducible apply wq_boxN hm);exact rfl;exact rfl)));clear hm;intro gx_;intro w hm))
 refine rtO hm rfl rfl (hR:=⟨rfl,hm.x⟩)
def TupS(n:Nat)(X:List Byte):Slot:=fun v w=>∃p c,v= .tuple #[.slice p n c, .int .i64 0]∧n≤c∧RdB w p X
theorem TupS.stable(n:Nat)(X:List Byte):Stable (TupS n X):=fun _ _ _ ⟨p,c,h1,h2,h3⟩ hx=>⟨p,c,h1,h2,h3.ext hx⟩
def SlcS(n:Nat)(X:List Byte):Slot:=fun v w=>∃p c,v= .slice p n c∧n≤c∧RdB w p X
theorem SlcS.stable(n:Nat)(X:List Byte):Stable (SlcS n X):=fun _ _ _ ⟨p,c,h1,h2,h3⟩ hx=>⟨p,c,h1,h2,h3.ext hx⟩
def adiC(key:List Byte)(gk gs:Option Addr):List Value:=key.map v8++[.pointer gk, .pointer gs]
theorem adiC_key(key:List Byte)(gk gs:Option Addr)(h:key.length=32):((adiC key gk gs).drop 0).take 32=key.map v8:=by
 rw [List.drop_zero,adiC];exact List.take_left' (by simp [h])
theorem adiC_k(key:List Byte)(gk gs:Option Addr)(h:key.length=32):(adiC key gk gs)[32]? =some (.pointer gk):=by
 rw [adiC,List.getElem?_append_right (by simp [h])];simp [h]
theorem adiC_s(key:List Byte)(gk gs:Option Addr)(h:key.length=32):(adiC key gk gs)[33]? =some (.pointer gs):=by
 rw [adiC,List.getElem?_append_right (by simp [h])];simp [h]
theorem adiC_setk(key:List Byte)(gk gs x:Option Addr)(h:key.length=32):(adiC key gk gs).set 32 (.pointer x)=adiC key x gs:=by
 rw [adiC,List.set_append_right _ _ (by simp [h])];simp [h,adiC]
theorem adiC_sets(key:List Byte)(gk gs x:Option Addr)(h:key.length=32):(adiC key gk gs).set 33 (.pointer x)=adiC key gk x:=by
 rw [adiC,List.set_append_right _ _ (by simp [h])];simp [h,adiC]
theorem adiC_length(key:List Byte)(gk gs:Option Addr)(h:key.length=32):(adiC key gk gs).length=34:=by simp [adiC,h]
def nonB(mb:List Byte):List Byte:=setN (over (zer 24) 0 (mb.take 24)) 16 1#8
theorem nonB_length(mb:List Byte)(h:mb.length=16):(nonB mb).length=24:=by
 rw [nonB,setN_length,over_length _ _ _ (by rw [List.length_take,zer_length];omega),zer_length]
def astL(key b:List Byte)(lo hi:BitVec 64):List Byte:=xchL key (nonB (putL lo 8++putL hi 8)) b
theorem astL_length(key b:List Byte)(lo hi:BitVec 64):(astL key b lo hi).length=b.length:=xchL_length _ _ _
theorem astream_any(g:Nat)(key b:List Byte)(gk gs:Option Addr)(lo hi:BitVec 64)(hk:key.length=32)(hb:b.length≤1000000)(q:Option Addr)(d:Nat)(hd:b.length≤d)(w0:World)(h:Row w0 g 114 (adiC key gk gs))(hr:RdB w0 q b):
   Calls Tryz.prog 119 #[.pointer (some ⟨g,0,none⟩),WV lo hi, .slice q b.length d] w0 fun e w'=>∃p c,e= .returned (.slice p b.length c)∧b.length≤c∧RdB w' p (astL key b lo hi)∧Ext w0 w':=by
 have hm:=Own.start w0
 have HR:=Lib.hid fun w (hx:Ext w0 w)=>row_ext h hx
 have EK:=Lib.hid (adiC_key key gk gs hk)
 have BB:=Lib.hid fun w=>bytes_any lo hi w
 have lP:(putL lo 8++putL hi 8).length=16:=by rw [List.length_append,putL_length,putL_length]
 have CC:=Lib.hid fun w (hx:Ext w0 w)=>ccrypt12 key (nonB (putL lo 8++putL hi 8)) b hk (nonB_length _ lP) (by omega) q d w (hr.ext hx) hd
 rw [show xchL key (nonB (putL lo 8++putL hi 8)) b=astL key b lo hi from rfl]at CC
 obtain⟨X,hX⟩:∃x,x=astL key b lo hi:=⟨_,rfl⟩
 rw [←hX]at CC⊢
 obtain⟨Pb,hPb⟩:∃x,x=putL lo 8++putL hi 8:=⟨_,rfl⟩
 rw [←hPb]at BB lP CC
 have EO:Hid (nonB Pb=setN (over (zer 24) 0 (Pb.take 24)) 16 1#8):=Lib.hid rfl
 have lO:(over (zer 24) 0 (Pb.take 24)).length=24:=by rw [over_length _ _ _ (by rw [List.length_take,zer_length];omega),zer_length]
 have LP:=Lib.hid lP
 rw [EO.out]at CC
 obtain⟨O,hO⟩:∃x,x=over (zer 24) 0 (Pb.take 24):=⟨_,rfl⟩
 have HO:=Lib.hid hO
 rw [←hO]at CC lO
 have HK:=Lib.hid hk
 have h1:=Nat.le_of_eq lP
 have h2:=Nat.le_of_eq lP.symm
 have h3:=Nat.le_of_eq lO
 have h4:=Nat.le_of_eq lO.symm
 obtain⟨BL,hBL⟩:∃x,x=b.length:=⟨_,rfl⟩
 rw [←hBL]at CC⊢
 clear h hr hX hPb hO hk hb hd lP lO hBL EO
 go_enter Tryz.func119,Tryz.ntmps119
 go_wp2_with (first|(go_at_call 32;(with_reducible refine(BB.out _).mono ?_);rintro e_ w ⟨rfl,hx_⟩;replace hm:=hm.ext hx_;clear hx_)|((with_reducible show qLd);first|((with_reducible apply wq_ldW hm);exact rfl;infer_instance;exact rfl;(focus (repeat first|exact .hd|assumption|apply Has.tl);done);(focus (first|rfl|omega|(simp;done)|(simp;omega)))))|((((with_reducible show qSt);first|((with_reducible apply wq_stW hm);exact rfl;infer_instance;exact rfl;exact rfl;(focus (repeat first|exact .hd|assumption|apply Swap.tl);done);(focus (first|rfl|omega|(simp;done)|(simp;omega)));(focus (first|rfl|omega|(simp;done)|(simp;omega)));(focus (first|exact one_map _|(simp [one8,one32,one64];done))))));clear hm;intro w hm)|((first|((with_reducible show qAl);first|((with_reducible apply wq_new hm);exact rfl;infer_instance))|((with_reducible show qBx);first|((with_reducible apply wq_boxN hm);exact rfl;exact rfl)));clear hm;(first|(have hx_:=g1;clear hx_;(first|(have hx_:=g2;clear hx_;(first|(have hx_:=g3;clear hx_;intro gx_)|intro g3))|intro g2))|intro g1);intro w hm))
 refine region_at 2 (fun w'=>Ext _ w') 28 (by kernel_rfl) (by kernel_rfl) rfl (fun _ _ h k=>h.trans k) (drew_ext _) ?_
 simp only [tSC,List.take_zero,dSC,List.drop_zero,List.map_cons,List.map_nil]
 repeat (first
     | (apply walk_is rfl rfl rfl
        · (intro wx hwx;go_simp;(try go_bits);first|exact gives_same|exact gives_skip)
        · (simp only [Act.put,sIB,sCS,sCZ];rfl))
     | (apply walk_not rfl rfl rfl
        · (simp only [Act.put,sIB,sCS,sCZ];rfl)))
 intro wz hwz
 simp only [zCC,zNR]
 repeat (first|rw [fin_is]|(rw [fin_cons];intro _ _))
 rw [fin_nil]
 try (replace hm:=hm.ext hwz)
 simp only [Act.put,sIB,sCS,sCZ]
 ((with_reducible show wpList _ _ _ (Oper.mk _ (Op.call _) _ _ _ _::_) _ _);refine wpl_cp8 hm rfl rfl rfl rfl Tryz.underlying22 (by kernel_rfl) (by repeat (first|exact Swap.hd|assumption|apply Swap.tl)) (hm.rdB (g:=g3) (l:=Pb) (by repeat (first|exact Has.hd|assumption|apply Has.tl))) LP.out.symm (HO.out.symm) (by rw [zer_length];omega) ?_;clear hm;intro w hm)
 go_wp2_with (first|((((with_reducible show qSt);first|((with_reducible apply wq_st8i hm);exact rfl;infer_instance;exact rfl;exact rfl;(focus (repeat first|exact .hd|assumption|apply Swap.tl);done);(focus omega);(focus (first|omega|(simp;omega)|(refine ltB ?_;first|omega|(simp;done)|(simp;omega)))))));clear hm;intro w hm))
 have hx0:=hm.x
 have c1:=fun wx (hwx:Ext w wx)=>(show GivesR Tryz.prog 49 #[A8 key,A8 (setN O 16 1#8), .int .i64 12, .slice q BL d] wx (TupS BL X)from by
   refine Calls.mono (CC.out wx (hx0.trans hwx)) ?_
   rintro e w' ⟨p,c,rfl,h1,h2,h3⟩
   exact⟨_,rfl,⟨p,c,rfl,h1,h2⟩,h3⟩)
 have R1:=Lib.hid fun wx (h:Ext w wx)=>HR.out wx (hx0.trans h)
 refine region_new 11 (fun w'=>Ext _ w') 28 (by kernel_rfl) (by kernel_rfl) rfl (fun _ _ h k=>h.trans k) (drew_ext _) ?_
 simp only [tSC,List.take_zero,dSC,List.drop_zero,List.map_cons,List.map_nil]
 repeat (first
     |(apply walk_is rfl rfl rfl;(intro wx hwx;(with_reducible apply gq_rowN (R1.out wx hwx));infer_instance;exact rfl;exact EK.out;exact(by rw [List.length_map];exact HK.out));(simp only [Act.put,sIB,sCS,sCZ];rfl))
     | (apply walk_some (TupS BL X) 24 (TupS.stable _ _) rfl rfl rfl rfl
        · (intro wx hwx;go_simp;with_reducible exact gives_callR (c1 wx hwx)))
     | (apply walk_from_some (T:=[(24,TupS BL X)]) (TupS BL X) 17 (TupS.stable _ _) rfl rfl rfl
        · (intro wx hwx;simp only [withS];(rintro x_ ⟨p_,c_,rfl,h1_,h2_⟩);refine⟨rfl, ?_⟩;go_simp;exact gives_val (Ext.refl _) ⟨p_,c_,rfl,h1_,h2_⟩))
     | (apply walk_from_some (T:=[(17,TupS BL X)]) (SlcS BL X) 25 (SlcS.stable _ _) rfl rfl rfl
        · (intro wx hwx;simp only [withS];(rintro x_ ⟨p_,c_,rfl,h1_,h2_⟩);refine⟨rfl, ?_⟩;go_simp;exact gives_val (Ext.refl _) ⟨p_,c_,rfl,h1_,h2_⟩))
     | (apply walk_from_some (T:=[(25,SlcS BL X)]) (SlcS BL X) 9 (SlcS.stable _ _) rfl rfl rfl
        · (intro wx hwx;simp only [withS];(rintro x_ ⟨p_,c_,rfl,h1_,h2_⟩);refine⟨rfl, ?_⟩;go_simp;exact gives_val (Ext.refl _) ⟨p_,c_,rfl,h1_,h2_⟩))
     | (apply walk_from (T:=[(17,TupS BL X)]) rfl rfl
        · (intro wx hwx;simp only [withS];(rintro x_ ⟨p_,c_,rfl,h1_,h2_⟩);refine⟨rfl, ?_⟩;go_simp;exact gives_same)
        · (simp only [Act.put,sIB,sCS,sCZ];rfl))
     | (apply walk_is rfl rfl rfl
        · (intro wx hwx;first|((with_reducible show gives _ _ _ (Sem.run _ (execOp _ (Oper.mk _ (Op.load _ _) _ _ _ _)) _));first|((with_reducible apply gq_ldW (hm.ext hwx));infer_instance;exact rfl;(focus (repeat first|exact .hd|assumption|apply Has.tl);done);(focus (first|rfl|omega|(simp;done)|(simp;omega)))))|(go_simp;(try go_bits);first|exact gives_same|exact gives_skip))
        · (simp only [Act.put,sIB,sCS,sCZ];rfl))
     | (apply walk_not rfl rfl rfl
        · (simp only [Act.put,sIB,sCS,sCZ];rfl)))
 intro wz hwz
 simp only [zCC,zNR]
 repeat rw [fin_is]
 rw [fin_cons];intro x24 hx24
 repeat rw [fin_is]
 rw [fin_cons];intro x17 hx17
 repeat rw [fin_is]
 rw [fin_cons];intro x25 hx25
 repeat rw [fin_is]
 rw [fin_cons];intro x9 hx9
 repeat rw [fin_is]
 rw [fin_nil];intro hap
 simp only [Act.put,sIB,sCS,sCZ]at hap⊢
 obtain⟨p25,c25,rfl,hc25,hr25⟩:=hx9
 clear hx24 hx17 hx25 hap
 have hx2:=hx0.trans hwz
 go_wp2_with fail
 go_ret
 exact⟨p25,c25,rfl,hc25,hr25,hx2⟩
end Go.Proofs.YtllnjbiebdkmbaaGreatDoor
