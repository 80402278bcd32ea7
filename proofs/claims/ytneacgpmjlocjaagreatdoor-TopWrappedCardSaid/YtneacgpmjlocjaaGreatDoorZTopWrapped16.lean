/-
  Texts of the program, walked, and plain ones. Conditions: those written in each theorem.
-/
import Derived.Test.YtneacgpmjlocjaaGreatDoorZTopWrapped0
import Derived.Test.YtneacgpmjlocjaaGreatDoorZTopWrapped15
import Derived.Test.YtneacgpmjlocjaaGreatDoorZTopWrapped14
import Derived.Test.YtneacgpmjlocjaaGreatDoorZTopWrapped12
import Derived.Test.YtneacgpmjlocjaaGreatDoorZTopWrapped7
import Derived.Deep.CutBlock
import Derived.Test.YtneacgpmjlocjaaGreatDoorZTopWrapped13
set_option linter.unusedSimpArgs false
set_option linter.unusedVariables false
set_option maxHeartbeats 16000000
open Go.Lib (hid)
namespace Go.Proofs.YtneacgpmjlocjaaGreatDoor
open Go Go.RowKit
set_option maxRecDepth 100000
theorem expand_gen(gt gb n:Nat)(lg:Bool)(key:List Byte)(h4:4≤n)(h8:n≤8)(hk:key.length=4*n)(p:Option Addr)(c:Nat)(w0:World)(hr:RdB w0 p key)(hc:key.length≤c)(ht:Row w0 gt 88 (tcells gb mixT unmixT))(hb:Row w0 gb 113 (tabs.map v8))
   (E:Nat→List (List Byte)×Byte) (hE:E=exS n lg key) (K0 KZ:List Byte) (KM:List (List Byte)) (hk0:K0=aesK0 n lg key) (hkm:KM=aesKs n lg key) (hkz:KZ=aesKl n lg key) (SH:Hid (∀w,Calls Tryz.prog 82 #[.int .i64 (key.length:Int)] w fun e w'=>e= .returned (.tuple #[.int .i64 (n:Int), .bool lg, .int .i64 0])∧w=w')):
   Calls Tryz.prog 65 #[.pointer (some ⟨gt,0,none⟩), .slice p key.length c] w0 fun e w'=>∃g L,e= .returned (.tuple #[.pointer (some ⟨g,0,none⟩), .int .i64 0])∧w0.heap.size≤g∧Own w0 w' L∧Keeps L (TabR gt gb) (fun wx=>AesR wx g K0 KM KZ):=by
 have hm:=Own.start w0
 have W1:=hid fun (k:Nat)(hk4:k<n)(w:World)(h:Ext w0 w)=>(show Gives Tryz.prog 84 #[.slice p key.length c, .int .i64 (4*(k:Int))] w (v32 (wrd key (4*k)))from by
   have:=word_any key p c (4*(k:Int)) w (hr.ext h) (by omega) (by omega) (by omega)
   rw [wrd,show((4*k:Nat):Int)=4*(k:Int)from by omega]
   exact this)
 have W2:=hid fun (k:Nat)(w:World)=>(show Gives Tryz.prog 83 #[v32 (wrd key (4*k))] w (A8 (wdB key k))from putword_any _ w)
 have W3:=hid fun k=>wdB_length key k
 have TB:=hid ht
 have BB:=hid hb
 generalize hL:key.length=KL at*
 have e7:4*((n:Int)+6+1)=((4*(n+7):Nat):Int):=by omega
 have hn0:¬(n:Int)=0:=by omega
 have hn1:(0:Int)≤(n:Int):=by omega
 have hn2:(n:Int)≤8:=by omega
 have HKL:=hid hk
 have HC:=hid hc
 clear hr ht hb hL hk hc
 have LE:=hid fun k=>hE ▸ exS_length n lg key k
 have EE:=hid fun k=>hE ▸ exS_each n lg key k
 have E0:Hid ((E 0).1=(List.range n).map (wdB key)):=hid (by rw [hE];rfl)
 have E0p:Hid ((E 0).2=1#8):=hid (by rw [hE];rfl)
 have ES:Hid (∀j,(E (j+1)).1=(E j).1++[plus4 ((E j).1.getD j []) (exB n lg (n+j) ((E j).1.getD (n+j-1) []) (E j).2)]):=hid fun j=>by rw [hE];rfl
 have ESp:Hid (∀j,(E (j+1)).2=exP n (n+j) (E j).2):=hid fun j=>by rw [hE];rfl
 have EF:Hid (aesK n lg key=rksL (E (3*n+28)).1 (n+7)):=hid (by rw [hE];rfl)
 have ET:Hid (aesK n lg key=K0::(KM++[KZ])):=hid (by rw [hk0,hkm,hkz];exact aesK_three n lg key)
 have EL:Hid (KM.length=n+5):=hid (by rw [hkm];exact aesKs_length n lg key)
 clear hE hk0 hkm hkz
 generalize aesK n lg key=KS at*
 go_enter Tryz.func65,Tryz.ntmps65
 go_wp2_with fail
 refine wp_scope_goto 0 (fun a_ w_=>∃(j o d:Nat)(r:Option Addr)(pw:Byte)(M:List Blk)(u2 u3 u10 u12 u13 u14 u15 u16 u17 u18 u19 u20 u21 u22 u23 u24 u25 u26 u27 u28 u29 u30 u31 u32 u33 u34 u35 u36 u37 u38 u39 u40 u41 u42 u43 u44 u45 u46 u47 u48 u49 u50 u51 u52 u53 u54 u55 u56 u57 u58 u59 u60 u61 u62 u63 u64 u65 u66 u67 u68 u69 u70 u71 u72 u73 u74 u75 u76 u77 u78 u79 u80 u81 u82 u83 u84 u85 u86 u87 u88 u89 u90 u91 u92 u93 u94 u95 u96 u97 u98 u99 u100 u101 u102 u103 u104 u105 u106 u107 u108 u109 u110 u111 u112 u113 u114 u115 u116 u117 u118 u119 u120 u121 u122 u123 u124 u125 u126 u127 u128 u129 u130 u131 u132 u133:Value),a_={tmps:= #[(.pointer (some ⟨gt,0,none⟩)),(.slice p KL c),u2,u3,(.pointer none),(.int .i64 0),(.int .i64 (n:Int)),(.bool lg),(.int .i64 0),(.slice r o d),u10,(v8 pw),u12,u13,u14,u15,u16,u17,u18,u19,u20,u21,u22,u23,u24,u25,u26,u27,u28,u29,u30,u31,u32,u33,u34,u35,u36,u37,u38,u39,u40,u41,u42,u43,u44,u45,u46,u47,u48,u49,u50,u51,u52,u53,u54,u55,u56,u57,u58,u59,u60,u61,u62,u63,u64,u65,u66,u67,u68,u69,u70,u71,u72,u73,u74,u75,u76,u77,u78,u79,u80,u81,u82,u83,u84,u85,u86,u87,u88,u89,u90,u91,u92,u93,u94,u95,u96,u97,u98,u99,u100,u101,u102,u103,u104,u105,u106,u107,u108,u109,u110,u111,u112,u113,u114,u115,u116,u117,u118,u119,u120,u121,u122,u123,u124,u125,u126,u127,u128,u129,u130,u131,u132,u133],defers:=[]}∧SlO M 156 4 (.slice r o d) o (catV (E j).1)∧Own w0 w_ (M++[])∧o=n+j∧j<3*n+28∧pw=(E j).2) (fun a_ _=>4*(n+7)-slen (a_.tmps.getD 9 undef)) rfl ?_ ?_
 · clear hm
   have key_:∀(P_:Act→World→Prop),(∀(w_:World)(j o d:Nat)(r:Option Addr)(pw:Byte)(M:List Blk)(u2 u3 u10 u12 u13 u14 u15 u16 u17 u18 u19 u20 u21 u22 u23 u24 u25 u26 u27 u28 u29 u30 u31 u32 u33 u34 u35 u36 u37 u38 u39 u40 u41 u42 u43 u44 u45 u46 u47 u48 u49 u50 u51 u52 u53 u54 u55 u56 u57 u58 u59 u60 u61 u62 u63 u64 u65 u66 u67 u68 u69 u70 u71 u72 u73 u74 u75 u76 u77 u78 u79 u80 u81 u82 u83 u84 u85 u86 u87 u88 u89 u90 u91 u92 u93 u94 u95 u96 u97 u98 u99 u100 u101 u102 u103 u104 u105 u106 u107 u108 u109 u110 u111 u112 u113 u114 u115 u116 u117 u118 u119 u120 u121 u122 u123 u124 u125 u126 u127 u128 u129 u130 u131 u132 u133:Value),SlO M 156 4 (.slice r o d) o (catV (E j).1)∧Own w0 w_ (M++[])∧o=n+j∧j<3*n+28∧pw=(E j).2→P_ {tmps:= #[(.pointer (some ⟨gt,0,none⟩)),(.slice p KL c),u2,u3,(.pointer none),(.int .i64 0),(.int .i64 (n:Int)),(.bool lg),(.int .i64 0),(.slice r o d),u10,(v8 pw),u12,u13,u14,u15,u16,u17,u18,u19,u20,u21,u22,u23,u24,u25,u26,u27,u28,u29,u30,u31,u32,u33,u34,u35,u36,u37,u38,u39,u40,u41,u42,u43,u44,u45,u46,u47,u48,u49,u50,u51,u52,u53,u54,u55,u56,u57,u58,u59,u60,u61,u62,u63,u64,u65,u66,u67,u68,u69,u70,u71,u72,u73,u74,u75,u76,u77,u78,u79,u80,u81,u82,u83,u84,u85,u86,u87,u88,u89,u90,u91,u92,u93,u94,u95,u96,u97,u98,u99,u100,u101,u102,u103,u104,u105,u106,u107,u108,u109,u110,u111,u112,u113,u114,u115,u116,u117,u118,u119,u120,u121,u122,u123,u124,u125,u126,u127,u128,u129,u130,u131,u132,u133],defers:=[]} w_)→∀(a_:Act)(w_:World),(∃(j o d:Nat)(r:Option Addr)(pw:Byte)(M:List Blk)(u2 u3 u10 u12 u13 u14 u15 u16 u17 u18 u19 u20 u21 u22 u23 u24 u25 u26 u27 u28 u29 u30 u31 u32 u33 u34 u35 u36 u37 u38 u39 u40 u41 u42 u43 u44 u45 u46 u47 u48 u49 u50 u51 u52 u53 u54 u55 u56 u57 u58 u59 u60 u61 u62 u63 u64 u65 u66 u67 u68 u69 u70 u71 u72 u73 u74 u75 u76 u77 u78 u79 u80 u81 u82 u83 u84 u85 u86 u87 u88 u89 u90 u91 u92 u93 u94 u95 u96 u97 u98 u99 u100 u101 u102 u103 u104 u105 u106 u107 u108 u109 u110 u111 u112 u113 u114 u115 u116 u117 u118 u119 u120 u121 u122 u123 u124 u125 u126 u127 u128 u129 u130 u131 u132 u133:Value),a_={tmps:= #[(.pointer (some ⟨gt,0,none⟩)),(.slice p KL c),u2,u3,(.pointer none),(.int .i64 0),(.int .i64 (n:Int)),(.bool lg),(.int .i64 0),(.slice r o d),u10,(v8 pw),u12,u13,u14,u15,u16,u17,u18,u19,u20,u21,u22,u23,u24,u25,u26,u27,u28,u29,u30,u31,u32,u33,u34,u35,u36,u37,u38,u39,u40,u41,u42,u43,u44,u45,u46,u47,u48,u49,u50,u51,u52,u53,u54,u55,u56,u57,u58,u59,u60,u61,u62,u63,u64,u65,u66,u67,u68,u69,u70,u71,u72,u73,u74,u75,u76,u77,u78,u79,u80,u81,u82,u83,u84,u85,u86,u87,u88,u89,u90,u91,u92,u93,u94,u95,u96,u97,u98,u99,u100,u101,u102,u103,u104,u105,u106,u107,u108,u109,u110,u111,u112,u113,u114,u115,u116,u117,u118,u119,u120,u121,u122,u123,u124,u125,u126,u127,u128,u129,u130,u131,u132,u133],defers:=[]}∧SlO M 156 4 (.slice r o d) o (catV (E j).1)∧Own w0 w_ (M++[])∧o=n+j∧j<3*n+28∧pw=(E j).2)→P_ a_ w_:=
     fun P_ h_ a_ w_ z=>z.elim fun j z=>z.elim fun o z=>z.elim fun d z=>z.elim fun r z=>z.elim fun pw z=>z.elim fun M z=>z.elim fun u2 z=>z.elim fun u3 z=>z.elim fun u10 z=>z.elim fun u12 z=>z.elim fun u13 z=>z.elim fun u14 z=>z.elim fun u15 z=>z.elim fun u16 z=>z.elim fun u17 z=>z.elim fun u18 z=>z.elim fun u19 z=>z.elim fun u20 z=>z.elim fun u21 z=>z.elim fun u22 z=>z.elim fun u23 z=>z.elim fun u24 z=>z.elim fun u25 z=>z.elim fun u26 z=>z.elim fun u27 z=>z.elim fun u28 z=>z.elim fun u29 z=>z.elim fun u30 z=>z.elim fun u31 z=>z.elim fun u32 z=>z.elim fun u33 z=>z.elim fun u34 z=>z.elim fun u35 z=>z.elim fun u36 z=>z.elim fun u37 z=>z.elim fun u38 z=>z.elim fun u39 z=>z.elim fun u40 z=>z.elim fun u41 z=>z.elim fun u42 z=>z.elim fun u43 z=>z.elim fun u44 z=>z.elim fun u45 z=>z.elim fun u46 z=>z.elim fun u47 z=>z.elim fun u48 z=>z.elim fun u49 z=>z.elim fun u50 z=>z.elim fun u51 z=>z.elim fun u52 z=>z.elim fun u53 z=>z.elim fun u54 z=>z.elim fun u55 z=>z.elim fun u56 z=>z.elim fun u57 z=>z.elim fun u58 z=>z.elim fun u59 z=>z.elim fun u60 z=>z.elim fun u61 z=>z.elim fun u62 z=>z.elim fun u63 z=>z.elim fun u64 z=>z.elim fun u65 z=>z.elim fun u66 z=>z.elim fun u67 z=>z.elim fun u68 z=>z.elim fun u69 z=>z.elim fun u70 z=>z.elim fun u71 z=>z.elim fun u72 z=>z.elim fun u73 z=>z.elim fun u74 z=>z.elim fun u75 z=>z.elim fun u76 z=>z.elim fun u77 z=>z.elim fun u78 z=>z.elim fun u79 z=>z.elim fun u80 z=>z.elim fun u81 z=>z.elim fun u82 z=>z.elim fun u83 z=>z.elim fun u84 z=>z.elim fun u85 z=>z.elim fun u86 z=>z.elim fun u87 z=>z.elim fun u88 z=>z.elim fun u89 z=>z.elim fun u90 z=>z.elim fun u91 z=>z.elim fun u92 z=>z.elim fun u93 z=>z.elim fun u94 z=>z.elim fun u95 z=>z.elim fun u96 z=>z.elim fun u97 z=>z.elim fun u98 z=>z.elim fun u99 z=>z.elim fun u100 z=>z.elim fun u101 z=>z.elim fun u102 z=>z.elim fun u103 z=>z.elim fun u104 z=>z.elim fun u105 z=>z.elim fun u106 z=>z.elim fun u107 z=>z.elim fun u108 z=>z.elim fun u109 z=>z.elim fun u110 z=>z.elim fun u111 z=>z.elim fun u112 z=>z.elim fun u113 z=>z.elim fun u114 z=>z.elim fun u115 z=>z.elim fun u116 z=>z.elim fun u117 z=>z.elim fun u118 z=>z.elim fun u119 z=>z.elim fun u120 z=>z.elim fun u121 z=>z.elim fun u122 z=>z.elim fun u123 z=>z.elim fun u124 z=>z.elim fun u125 z=>z.elim fun u126 z=>z.elim fun u127 z=>z.elim fun u128 z=>z.elim fun u129 z=>z.elim fun u130 z=>z.elim fun u131 z=>z.elim fun u132 z=>z.elim fun u133 z=>Eq.subst (motive:=fun z_=>P_ z_ w_) z.1.symm (h_ w_ j o d r pw M u2 u3 u10 u12 u13 u14 u15 u16 u17 u18 u19 u20 u21 u22 u23 u24 u25 u26 u27 u28 u29 u30 u31 u32 u33 u34 u35 u36 u37 u38 u39 u40 u41 u42 u43 u44 u45 u46 u47 u48 u49 u50 u51 u52 u53 u54 u55 u56 u57 u58 u59 u60 u61 u62 u63 u64 u65 u66 u67 u68 u69 u70 u71 u72 u73 u74 u75 u76 u77 u78 u79 u80 u81 u82 u83 u84 u85 u86 u87 u88 u89 u90 u91 u92 u93 u94 u95 u96 u97 u98 u99 u100 u101 u102 u103 u104 u105 u106 u107 u108 u109 u110 u111 u112 u113 u114 u115 u116 u117 u118 u119 u120 u121 u122 u123 u124 u125 u126 u127 u128 u129 u130 u131 u132 u133 z.2)
   refine key_ _ ?_
   clear key_
   intro w j o d r pw M u2 u3 u10 u12 u13 u14 u15 u16 u17 u18 u19 u20 u21 u22 u23 u24 u25 u26 u27 u28 u29 u30 u31 u32 u33 u34 u35 u36 u37 u38 u39 u40 u41 u42 u43 u44 u45 u46 u47 u48 u49 u50 u51 u52 u53 u54 u55 u56 u57 u58 u59 u60 u61 u62 u63 u64 u65 u66 u67 u68 u69 u70 u71 u72 u73 u74 u75 u76 u77 u78 u79 u80 u81 u82 u83 u84 u85 u86 u87 u88 u89 u90 u91 u92 u93 u94 u95 u96 u97 u98 u99 u100 u101 u102 u103 u104 u105 u106 u107 u108 u109 u110 u111 u112 u113 u114 u115 u116 u117 u118 u119 u120 u121 u122 u123 u124 u125 u126 u127 u128 u129 u130 u131 u132 u133
   rintro ⟨hso,hm,ho,hj,hpw⟩
   have HSO:=hid hso
   have lE:=LE.out j
   have EEj:=EE.out j
   obtain⟨rd0,rd1,rd2⟩:=slo_rdN (by omega) hso EEj hm
   clear rd1
   have o60:(o:Int)≤60:=by omega
   have o4:4≤(o:Int):=by omega
   obtain⟨a,rfl⟩:=rd0.addr (by omega) (by omega)
   have RW:=hid fun (wx:World)(hx:Own w0 wx (M++[]))=>(slo_rdN (by omega) hso EEj hx).1
   have RJ:=hid fun (wx:World)(hx:Own w0 wx (M++[]))=>(show RdB wx (some (a.add (j*4))) ((E j).1.getD j [])from((RW.out wx hx).at (by omega) j (by omega)).1)
   have RL:=hid fun (wx:World)(hx:Own w0 wx (M++[]))=>(show RdB wx (some (a.add ((o-1)*4))) ((E j).1.getD (o-1) [])from((RW.out wx hx).at (by omega) (o-1) (by omega)).1)
   have l1:((E j).1.getD j []).length=4:=(rd0.at (by omega) j (by omega)).2
   have l2:((E j).1.getD (o-1) []).length=4:=(rd0.at (by omega) (o-1) (by omega)).2
   have ESj:=hid (ES.out j)
   have ESpj:=hid (ESp.out j)
   rw [show n+j=o from ho.symm,←hpw]at ESj ESpj
   generalize (E j).1.getD j []=WJ at*
   generalize (E j).1.getD (o-1) []=WL at*
   have LW:=hid l2
   have LJ:=hid l1
   have hm0:(o:Int).tmod (n:Int)=((o%n:Nat):Int):=rfl
   have t1:((o:Int)-1).toNat=o-1:=by omega
   have x1:(0:Int)≤(o:Int)-1:=by omega
   have x2:(o:Int)-1<(o:Int):=by omega
   have BX:=hid fun (w:World)(h:Ext w0 w)(x:List Byte)(hx:x.length=4)=>aboxed_any gt gb x hx w (row_ext TB.out h) (row_ext BB.out h)
   have HJ:=hid hj
   have HO:=hid ho
   have HPW:=hid hpw
   have HD:=hid rd2
   have l3:=exB_length n lg o WL pw l2
   clear hso rd0 EEj lE hpw ho hj rd2
   go_upto_block 2 with (first|((with_reducible apply wq_rdW (RL.out _ hm));exact rfl;infer_instance;exact rfl;exact LW.out)|((with_reducible show qSt);refine zE hm ?_;clear hm;intro w hm)|(((with_reducible show qAl);refine zG hm ?_);clear hm;(first|(have hx_:=g1;clear hx_;(first|(have hx_:=g2;clear hx_;intro gx_)|intro g2))|intro g1);intro w hm))
   simp only [zPu]
   go_cut [11]from 51 to 86 (fun vp wc=>vp=v8 (exP n o pw)∧Own w0 wc (⟨g1,156,(exB n lg o WL pw).map v8⟩::(M++[])))
   case first=>
     by_cases h0:o%n=0
     · have eB:exB n lg o WL pw=setN (boxW (rotW WL)) 0 (nth (boxW (rotW WL)) 0^^^pw):=if_pos h0
       have eP:exP n o pw=dbl pw:=if_pos h0
       have BR:=hid fun (w:World)(h:Ext w0 w)=>BX.out w h (rotW WL) rfl
       have BW:=hid fun w=>(show(Instr.build 156 #[(0,v8 (nth WL 1)),(1,v8 (nth WL 2)),(2,v8 (nth WL 3)),(3,v8 (nth WL 0))]).run Tryz.prog w= .ok (A8 (rotW WL)) w from build_word _ _ _ _ w)
       have lR:(boxW (rotW WL)).length=4:=boxW_length _
       have EB:=hid eB
       have EP:=hid eP
       generalize rotW WL=RR at*
       generalize boxW RR=ZZ at*
       rw [h0]at hm0
       have b0:(((0:Nat):Int)==0)=true:=rfl
       clear eB eP h0
       go_wp2_with (first|((with_reducible apply wq_build4 BW.out);exact rfl;exact rfl;exact rfl;exact rfl;exact rfl)|(go_at_call 85;(with_reducible refine(BR.out _ hm.x).mono ?_);rintro e_ w ⟨rfl,hx_⟩;replace hm:=hm.ext hx_;clear hx_)|(go_at_call 49;(with_reducible refine(double_any _ _).mono ?_);rintro e_ w' ⟨rfl,rfl⟩)|((with_reducible show qLd);refine zA hm ?_)|((((with_reducible show qSt);first|(refine zD hm ?_)|(refine zE hm ?_)));clear hm;intro w hm))
       go_meet
       rw [EB.out,EP.out]
       exact⟨rfl,hm⟩
     · obtain⟨q,hq⟩:∃q,q=o%n:=⟨_,rfl⟩
       have q8:q<n:=by rw [hq];exact Nat.mod_lt _ (by omega)
       have eP:exP n o pw=pw:=if_neg h0
       rw [←hq]at hm0 h0
       have b0:((q:Int)==0)=false:=by rw [beq_eq_false_iff_ne];omega
       have b1:¬(q:Int)=0:=by omega
       have EP:=hid eP
       by_cases h1:lg=true∧q=4
       · obtain⟨rfl,rfl⟩:=h1
         have eB:exB n true o WL pw=boxW WL:=by rw [exB,if_neg (by omega),if_pos ⟨rfl,by omega⟩]
         have EB:=hid eB
         have BR:=hid fun (w:World)(h:Ext w0 w)=>BX.out w h WL LW.out
         have lR:(boxW WL).length=4:=boxW_length _
         generalize boxW WL=ZZ at*
         have l5:=Nat.le_of_eq LW.out
         have l6:=Nat.le_of_eq LW.out.symm
         have b4:(((4:Nat):Int)==4)=true:=rfl
         clear eB eP h0 hq
         go_wp2_with (first|(go_at_call 85;(with_reducible refine(BR.out _ hm.x).mono ?_);rintro e_ w ⟨rfl,hx_⟩;replace hm:=hm.ext hx_;clear hx_)|((with_reducible show qLd);refine zB hm ?_)|((with_reducible show qSt);refine zE hm ?_;clear hm;intro w hm))
         go_meet
         rw [EB.out,EP.out]
         exact⟨rfl,hm⟩
       · have eB:exB n lg o WL pw=WL:=by rw [exB,if_neg (by omega),if_neg (by rw [←hq];exact h1)]
         have EB:=hid eB
         have b4:lg=true→((q:Int)==4)=false:=fun h=>by rw [beq_eq_false_iff_ne];intro h2;exact h1 ⟨h,by omega⟩
         clear eB eP h0 hq
         cases hlg:lg with
         | false=>
           subst hlg
           clear b4 h1
           go_wp2_with fail
           go_meet
           rw [EB.out,EP.out]
           exact⟨rfl,hm⟩
         | true=>
           subst hlg
           have b5:=b4 rfl
           have b6:¬(q:Int)=4:=fun h=>h1 ⟨rfl,by omega⟩
           clear b4 h1
           go_wp2_with fail
           go_meet
           rw [EB.out,EP.out]
           exact⟨rfl,hm⟩
   obtain⟨rfl,hc⟩:=hcut
   clear hm
   obtain⟨w,rfl⟩:∃w_,w_=wc:=⟨_,rfl⟩
   have hm:=hc
   clear hc
   have AP:=hid fun (w:World)=>aplus_any WJ (exB n lg o WL pw) LJ.out l3 w
   have lNW:=plus4_length WJ (exB n lg o WL pw)
   generalize plus4 WJ (exB n lg o WL pw)=NW at*
   generalize exB n lg o WL pw=W2 at*
   generalize exP n o pw=P2 at*
   have LNW:=hid lNW
   have BW:=hid (bs_word NW lNW)
   have LC:=hid (show(catV [NW]).length=1*4 by rw [catV_length 4 [NW] (by intro x hx;rw [List.mem_singleton.1 hx];exact lNW)];rfl)
   have t2:((o:Int)-(n:Int)).toNat=j:=by have:=HO.out;omega
   have x3:(0:Int)≤(o:Int)-(n:Int):=by have:=HO.out;omega
   have x4:(o:Int)-(n:Int)<(o:Int):=by omega
   have x5:(n:Int)≤(o:Int):=by have:=HO.out;omega
   have x6:(0:Int)<(n:Int):=by omega
   have hfit:(o+1)*(4+1)≤140737488355328:=by omega
   have hmA:=hm
   have RJ2:=hid fun wx (h:Ext w wx)=>RJ.out wx ((hmA.ext h).drop)
   clear hmA lNW
   go_wp2_with fail
   refine rgE 11 134 ?_
   simp only [zTa]
   repeat (first
       | (apply walk_is rfl rfl rfl
          · (intro wx hwx;(with_reducible apply gq_rdW ((RJ2.out) wx hwx));infer_instance;exact rfl;(focus (first|rfl|omega|(simp;done)|(simp;omega))))
          · (simp only [zPu];rfl))
       |(apply walk_some (KeysN 4 [NW]) 97 (KeysN.stable _ _) rfl rfl rfl rfl;(intro wx hwx;exact gq_bsN1 LNW.out (BW.out wx) rfl))
       | (apply walk_is rfl rfl rfl
          · (intro wx hwx;first|((with_reducible show qGl);exact zK (hm.ext hwx))|(go_simp;(try go_bits);first|exact gives_same|exact gives_skip|with_reducible exact gives_call (AP.out wx)))
          · (simp only [zPu];rfl))
       | (apply walk_not rfl rfl rfl
          · (simp only [zPu];rfl)))
   intro wz hwz
   simp only [zZi]
   repeat (first|rw [fin_is]|(rw [fin_cons];intro _ _))
   rw [fin_nil]
   try (replace hm:=hm.ext hwz)
   simp only [zPu]
   rename_i x97 hx97
   obtain⟨pn,cn,rfl,hcn,hkn⟩:=hx97
   have HKN:=hid hkn
   clear hcn hkn
   by_cases hlast:o+1<4*(n+7)
   · have b7:decide ((o:Int)+1<4*((n:Int)+6+1))=true:=decide_eq_true (by omega)
     have b8:(o:Int)+1<4*((n:Int)+6+1):=by omega
     go_wp2_with (first|((with_reducible show wpList _ _ _ (Oper.mk _ (Op.call _) _ _ _ _::_) _ _);refine wplO_app (M:=M) (R:=_) (ds:=catV [NW]) (hm.perm (List.perm_middle.symm)) HSO.out rfl rfl rfl rfl Tryz.underlying155 LC.out (HKN.out.cells) (catV_one _) hfit ?_;clear hm;intro v1 w M1 hm hs1;obtain⟨p_v1,c_v1,rfl⟩:=hs1.form;replace hm:=hm.perm (List.perm_middle)))
     go_step3
     refine⟨rfl,⟨_,_,_,_,_,_,_,_,_,_,_,_,_,_,_,_,_,_,_,_,_,_,_,_,_,_,_,_,_,_,_,_,_,_,_,_,_,_,_,_,_,_,_,_,_,_,_,_,_,_,_,_,_,_,_,_,_,_,_,_,_,_,_,_,_,_,_,_,_,_,_,_,_,_,_,_,_,_,_,_,_,_,_,_,_,_,_,_,_,_,_,_,_,_,_,_,_,_,_,_,_,_,_,_,_,_,_,_,_,_,_,_,_,_,_,_,_,_,_,_,_,_,_,_,_,_,_,_,_,_,_,rfl,⟨by rw [ESj.out,catV_append];exact hs1,hm.drop,by have:=HO.out;omega,by have:=HO.out;omega,ESpj.out.symm⟩⟩, ?_⟩
     simp [slen]
     omega
   · have b7 : decide ((o:Int)+1<4*((n:Int)+6+1))=false:=decide_eq_false (by omega)
     have b8:¬(o:Int)+1<4*((n:Int)+6+1):=by omega
     have hj28:j+1=3*n+28:=by have:=HO.out;have:=HJ.out;omega
     have LEf:=LE.out (j+1)
     have EEf:=EE.out (j+1)
     have EFf:=EF.out
     rw [←hj28]at EFf
     have BK:=hid fun w=>build_key gt w
     go_wp2_with (first|((with_reducible show wpList _ _ _ (Oper.mk _ (Op.call _) _ _ _ _::_) _ _);refine wplO_app (M:=M) (R:=_) (ds:=catV [NW]) (hm.perm (List.perm_middle.symm)) HSO.out rfl rfl rfl rfl Tryz.underlying155 LC.out (HKN.out.cells) (catV_one _) hfit ?_;clear hm;intro v1 w M1 hm hs1;obtain⟨p_v1,c_v1,rfl⟩:=hs1.form;replace hm:=hm.perm (List.perm_middle))|((with_reducible apply wq_build1 BK.out);exact rfl;exact rfl)|(((with_reducible show qBx);refine zH hm ?_);clear hm;(first|(have hx_:=g1;clear hx_;(first|(have hx_:=g2;clear hx_;intro gx_)|intro g2))|intro g1);intro w hm))
     rw [←catV_append,←ESj.out]at hs1
     clear HSO LC HKN hfit RJ2 RJ RL RW
     have hwl:o+1=4*n+28:=by omega
     have RW:=hid fun (wx:World)(L:List Blk)(hx:Own w0 wx (L++(M1++[])))=>slo_rdN (by omega) hs1 EEf hx.dropN
     obtain⟨_,ho1,hoc⟩:=RW.out w [⟨g2,163,aesC gt none 0 0⟩,⟨g1,156,W2.map v8⟩] hm
     obtain⟨WS,hWS⟩:=exq ((E (j+1)).1)
     rw [←hWS]at hs1 LEf EEf EFf ESj RW ho1
     clear hWS
     obtain⟨a1,rfl⟩:=(RW.out w [⟨g2,163,aesC gt none 0 0⟩,⟨g1,156,W2.map v8⟩] hm).1.addr (by omega) (by omega)
     have n7:(n:Int)+6+1=((n+7:Nat):Int):=by omega
     have lKS:KS.length=n+7:=by rw [EFf];exact rksL_length _ _
     have h16:=fun i (hi:i≤n+7)=>rksL_each WS EEf i (by omega)
     have H16:=hid h16
     have L16:=hid fun i (hi:i<n+7)=>rkL_length WS EEf i (by omega)
     have JO:=hid fun (i:Nat)(hi:i<n+7)(wx:World)(L:List Blk)(hx:Own w0 wx (L++(M1++[])))(cc:Nat)(hcc:4≤cc)=>(show Gives Tryz.prog 87 #[.slice (some (a1.add (4*i*4))) 4 cc] wx (A8 (rkL WS i))from joined_any _ _ _ wx ((RW.out wx L hx).1.seg (by omega) (4*i) 4 (by omega) (by omega)) (by rw [List.length_take,List.length_drop];omega) hcc)
     have RS0:Hid (rksL WS 0=[]):=hid rfl
     have RSS:=hid (rksL_succ WS)
     have hs0:SlO [] 132 16 (.slice none 0 0) 0 (catV (rksL WS 0)):=by rw [RS0.out];exact SlO.nil _ _
     have HS0:=hid hs0
     have HWL:=hid hwl
     have HOC:Hid (o+1≤c_v1):=hid hoc
     have HEF:=hid EFf
     have HLK:=hid lKS
     clear hs0 h16 hs1 LEf EEf ho1 hwl hoc EFf lKS hlast b7 b8 hj28 t1 t2 x1 x2 x3 x4
     go_loopw [112] (fun vi wr=>∃(i d2:Nat)(r2:Option Addr)(M2:List Blk),i≤n+7∧vi= .int .i64 i∧SlO M2 132 16 (.slice r2 i d2) i (catV (rksL WS i))∧Own w0 wr (M2++(⟨g2,163,aesC gt r2 i d2⟩::⟨g1,156,W2.map v8⟩::(M1++[])))) (fun vi _=>n+7-(intOf vi).toNat)
     case atStart=>exact⟨0,0,none,[],by omega,rfl,HS0.out,hm⟩
     case round =>
       obtain⟨i,d2,r2,M2,hi,rfl,hso2,hm⟩:=hrel
       have HSO2:=hid hso2
       by_cases hlt:i<n+7
       · have hd:decide ((i:Int)<(n:Int)+6+1)=true:=decide_eq_true (by omega)
         have hd1:decide ((i:Int)<(n:Int)+7)=true:=decide_eq_true (by omega)
         have hd2:(i:Int)<(n:Int)+7:=by omega
         have lRK:=L16.out i hlt
         have JI:=hid (JO.out i hlt)
         have RSi:=hid (RSS.out i)
         obtain⟨RK,hRK⟩:=exq (rkL WS i)
         obtain⟨RL0,hRL0⟩:=exq (rksL WS i)
         rw [←hRK]at lRK JI RSi
         rw [←hRL0]at HSO2 RSi
         clear hRK hRL0
         have BR:=hid (bs_run1 RK lRK)
         have LR:=hid (show(catV [RK]).length=1*16 by rw [catV_length 16 [RK] (by intro x hx;rw [List.mem_singleton.1 hx];exact lRK)];rfl)
         have FIT:=hid (show(i+1)*(16+1)≤140737488355328 by omega)
         have CR:=hid fun (wx:World)(g:Nat)(e:TypeId)(h:Row wx g e (catV [RK]))=>(rdK_row (m:=16) (by intro x hx;rw [List.mem_singleton.1 hx];exact lRK) h).cells
         have i1:(i:Int)≤14:=by omega
         clear hso2
         go_wp2_with fail
         have s0:4*i+4≤c_v1:=by have:=HWL.out;have:=HOC.out;omega
         have s1:4*(i:Int)+4≤(c_v1:Int):=by omega
         have s2:¬c_v1=4*i:=by omega
         have s3:(4*(i:Int)).toNat=4*i:=by omega
         have s4:(4*(i:Int)+4).toNat=4*i+4:=by omega
         have s5:4*i+4-4*i=4:=by omega
         have s6:(0:Int)≤4*(i:Int)+4:=by omega
         have s7:(0:Int)≤4*(i:Int):=by omega
         have s8:4*(i:Int)≤4*(i:Int)+4:=by omega
         have JI2:=hid fun (wx:World)(hx:Own w0 wx (⟨g2,163,aesC gt r2 i d2⟩::⟨g1,156,W2.map v8⟩::(M1++[])))=>JI.out wx [⟨g2,163,aesC gt r2 i d2⟩,⟨g1,156,W2.map v8⟩] hx (c_v1-4*i) (by omega)
         refine pregion 15 (JA1 w0 (⟨g2,163,aesC gt r2 i d2⟩::⟨g1,156,W2.map v8⟩::(M1++[])) 132 16 (.slice r2 i d2) i (catV RL0) (i+1) (catV RL0++catV [RK])) [14] 134 (by kernel_rfl) (by kernel_rfl) rfl (⟨none,rfl,M2,hm.ext (drew_ext _),HSO2.out⟩) ?_
         simp only [zTa]
         repeat (first
             |(apply pwalk_some (KeyQ RK) 128 (KeyQ.stable _) rfl rfl rfl rfl rfl;(intro vs_ wx hJ_;exact gqp_bsK (BR.out wx) rfl))
             | (apply pwalk_mark (T:=[(128,KeyQ RK)]) 0 [] rfl rfl rfl (by kernel_rfl) rfl
                · (intro vs_ wx hJ_ hn_ hD_;simp only [pwithS];obtain⟨a_,rfl,hX_⟩:=hJ_;obtain rfl:a_=none:=(by simpa using hn_);obtain⟨M_,hm,hs_⟩:=hX_;intro x_ hx_;obtain⟨gx_,ex_,rfl,hrow_⟩:=hx_ rfl;refine⟨rfl, ?_⟩;refine wplO_app (M:=M_) (ds:=catV [RK]) hm hs_ rfl rfl rfl rfl Tryz.underlying161 LR.out (CR.out _ _ _ hrow_) (catV_one _) FIT.out ?_;intro v_ w_ M1_ hm1_ hs1_;exact mark_end rfl (X1.j0 hm1_ hs1_)))
             | (apply pwalk_is rfl rfl rfl rfl
                · (intro vs_ wx hJ_;obtain⟨a_,rfl,hX_⟩:=hJ_;have hm:=hX_.low;first|((with_reducible show qGl);first|(exact zJ hm)|(exact zK hm)|(exact zL hm))|(go_simp;(try go_bits);first|exact gives_same|exact gives_skip|with_reducible exact gives_call (JI2.out wx hm)))
                · (simp only [zPu];rfl)))
         intro vs_ wz hJ_ hl_ hall_
         simp only [zZi]
         repeat rw [pfin_is]
         rw [pfin_cons];intro y128 hy128
         repeat rw [pfin_is]
         rw [pfin_cons];intro x129 hx129
         repeat rw [pfin_is]
         rw [pfin_nil]
         simp only [zPu]
         obtain⟨a_,rfl,hX_⟩:=hJ_
         obtain rfl:a_=some x129:=(by simpa [PMk]using hx129)
         clear hm
         obtain⟨M3,hm,hs3⟩:=hX_
         obtain⟨p3,c3,rfl⟩:=hs3.form
         clear hl_ hall_ hx129 hy128
         go_wp2_with (first|((with_reducible apply wq_st1 (v:= .slice p3 (i+1) c3) hm);exact rfl;infer_instance;exact rfl;exact rfl;exact rfl;exact rfl;exact(Swap.app .hd);exact(show 1<2 from by omega);clear hm;intro w hm))
         go_roundw
         case rel=>
           repeat apply Exists.intro
           exact⟨⟨i+1,c3,p3,M3,by omega,by go_num,by rw [RSi.out,catV_append];exact hs3,hm⟩,rfl⟩
         case measure=>simp [intOf]<;>omega
       · obtain rfl:i=n+7:=by omega
         have hd:decide (((n+7:Nat):Int)<(n:Int)+6+1)=false:=decide_eq_false (by omega)
         have hd1:decide (((n+7:Nat):Int)<(n:Int)+7)=false:=decide_eq_false (by omega)
         have hd2:¬((n+7:Nat):Int)<(n:Int)+7:=by omega
         clear hso2
         go_wp2_with fail
         simp only [Exit.jump]
         go_ret2
         obtain⟨rk0,_,rk2⟩:=slo_rdN (by omega) HSO2.out (H16.out (n+7) (Nat.le_refl _)) hm
         obtain⟨a2,rfl⟩:=rk0.addr (by omega) (by rw [rksL_length];omega)
         refine⟨g2,_,rfl,hm.dropN.base .hd,hm,fun wx hrow htab=> ?_⟩
         have rk:=(slo_rdNR (by omega) HSO2.out (H16.out (n+7) (Nat.le_refl _)) fun b hb=>hrow b (List.mem_append_left _ hb)).1
         rw [←HEF.out,ET.out]at rk
         exact⟨gt,gb,a2,d2,by rw [EL.out];exact hrow _ (List.mem_append_right _ (List.mem_cons_self ..)),htab.1,htab.2,rk,by rw [EL.out];exact rk2,by rw [EL.out];omega,by rw [EL.out];omega⟩
 · intro hp
   go_wp2_with (first|(go_at_call 82;(with_reducible refine(SH.out _).mono ?_);rintro e_ w_ ⟨rfl,rfl⟩)|((with_reducible apply wq_mkN 0 (4*(n+7)) Tryz.underlying155 elemW4 hm);exact rfl;exact rfl;exact rfl;exact rfl;exact e7;(focus omega);(focus omega);(focus omega);clear hm;intro g1 w cur hcur hm))
   have hs0:=SlO.room g1 156 4 (4*(n+7)) cur (by rw [hcur]) (by unfold maxLen;omega)
   go_loopw [9,33] (fun va vi wr=>∃(k d:Nat)(r:Option Addr)(M:List Blk),k≤n∧vi= .int .i64 k∧va= .slice r k d∧SlO M 156 4 (.slice r k d) k (catV ((List.range k).map (wdB key)))∧Own w0 wr (M++[])) (fun _ vi _=>n-(intOf vi).toNat)
   case atStart=>exact⟨0,_,_,_,by omega,rfl,rfl,hs0,hm⟩
   case round=>
     obtain⟨k,d,r,M,hkn,rfl,rfl,hso,hm⟩:=hrel
     clear hs0 hcur
     by_cases hlt:k<n
     · have hd:decide ((k:Int)<(n:Int))=true:=decide_eq_true (by omega)
       have hd2:(k:Int)<(n:Int):=by omega
       have C1:=hid (W1.out k hlt)
       have C2:=hid (W2.out k)
       have lW:=W3.out k
       have EK:=hid (show(List.range (k+1)).map (wdB key)=(List.range k).map (wdB key)++[wdB key k]by simp [List.range_succ])
       have HSO:=hid hso
       generalize wrd key (4*k)=X at*
       generalize wdB key k=Y at*
       have BW:=hid (bs_word Y lW)
       have hfit:(k+1)*(4+1)≤140737488355328:=by omega
       have LC:=hid (show(catV [Y]).length=1*4 by rw [catV_length 4 [Y] (by intro x hx;rw [List.mem_singleton.1 hx];exact lW)];rfl)
       clear hso
       go_wp2_with (first|(go_at_call 84;(with_reducible refine(C1.out _ hm.x).mono ?_);rintro e_ w ⟨rfl,hx_⟩;replace hm:=hm.ext hx_;clear hx_)|(go_at_call 83;(with_reducible refine(C2.out _).mono ?_);rintro e_ w ⟨rfl,hx_⟩;replace hm:=hm.ext hx_;clear hx_)|((with_reducible apply wq_bs1 (ks:=[Y]) hm (BW.out _));exact rfl;exact rfl;clear hm;intro g2 w hm)|((with_reducible show wpList _ _ _ (Oper.mk _ (Op.call _) _ _ _ _::_) _ _);refine wplO_app (M:=M) (R:=_) (ds:=catV [Y]) (hm.perm (List.perm_middle.symm)) HSO.out rfl rfl rfl rfl Tryz.underlying155 LC.out ((rdK_row (m:=4) (by intro x hx;rw [List.mem_singleton.1 hx];exact lW) (hm.row (g:=g2) (by repeat (first|exact Has.hd|assumption|apply Has.tl|apply Has.app)))).cells) (catV_one _) hfit ?_;clear hm;intro v1 w M1 hm hs1;obtain⟨p_v1,c_v1,rfl⟩:=hs1.form;replace hm:=hm.perm (List.perm_middle)))
       go_roundw
       case rel=>exact⟨k+1,_,_,M1,by omega,by go_num,rfl,by rw [EK.out,catV_append];exact hs1,hm.drop⟩
       case measure=>simp [intOf]<;>omega
     · obtain rfl:k=n:=by omega
       have hd:decide ((k:Int)<(k:Int))=false:=decide_eq_false (by omega)
       have HSO:=hid hso
       clear hso
       go_wp2_with fail
       rw [show(Value.int IntKind.u8 1)=v8 1#8 from rfl]
       go_step3
       rename_i hK
       exact hK _ _ (hp _ _ ⟨_,_,_,_,_,_,_,_,_,_,_,_,_,_,_,_,_,_,_,_,_,_,_,_,_,_,_,_,_,_,_,_,_,_,_,_,_,_,_,_,_,_,_,_,_,_,_,_,_,_,_,_,_,_,_,_,_,_,_,_,_,_,_,_,_,_,_,_,_,_,_,_,_,_,_,_,_,_,_,_,_,_,_,_,_,_,_,_,_,_,_,_,_,_,_,_,_,_,_,_,_,_,_,_,_,_,_,_,_,_,_,_,_,_,_,_,_,_,_,_,_,_,_,_,_,_,_,_,_,_,_,rfl,⟨by rw [E0.out];exact HSO.out,hm,rfl,by omega,E0p.out.symm⟩⟩)
def kN(key:List Byte):Nat:=key.length/4
def kL(key:List Byte):Bool:=decide (key.length=32)
abbrev eK0(key:List Byte):=aesK0 (kN key) (kL key) key
abbrev eKs(key:List Byte):=aesKs (kN key) (kL key) key
abbrev eKl(key:List Byte):=aesKl (kN key) (kL key) key
theorem expand_any(gt gb:Nat)(key:List Byte)(hk:key.length=16∨key.length=24∨key.length=32)(p:Option Addr)(c:Nat)(w0:World)(hr:RdB w0 p key)(hc:key.length≤c)(ht:TabR gt gb w0):
   Calls Tryz.prog 65 #[.pointer (some ⟨gt,0,none⟩), .slice p key.length c] w0 fun e w'=>∃g L,e= .returned (.tuple #[.pointer (some ⟨g,0,none⟩), .int .i64 0])∧w0.heap.size≤g∧Own w0 w' L∧Keeps L (TabR gt gb) (fun wx=>AesR wx g (eK0 key) (eKs key) (eKl key)):=by
 unfold eK0 eKs eKl kN kL
 rcases hk with hk|hk|hk
 · exact expand_gen gt gb _ _ key (by rw [hk];omega) (by rw [hk];omega) (by rw [hk]) p c w0 hr hc ht.1 ht.2 _ rfl _ _ _ rfl rfl rfl (hid fun w=>by rw [hk];exact shape16 w)
 · exact expand_gen gt gb _ _ key (by rw [hk];omega) (by rw [hk];omega) (by rw [hk]) p c w0 hr hc ht.1 ht.2 _ rfl _ _ _ rfl rfl rfl (hid fun w=>by rw [hk];exact shape24 w)
 · exact expand_gen gt gb _ _ key (by rw [hk];omega) (by rw [hk];omega) (by rw [hk]) p c w0 hr hc ht.1 ht.2 _ rfl _ _ _ rfl rfl rfl (hid fun w=>by rw [hk];exact shape32 w)
theorem anum_enc(g:Nat)(k0 kl:List Byte)(ks:List (List Byte))(lo hi:BitVec 64)(w0:World)(h:AesR w0 g k0 ks kl):Gives Tryz.prog 180 #[.func (.func 67) #[.pointer (some ⟨g,0,none⟩)] #[],WV lo hi] w0 (WV (num (aesE k0 ks kl (putL lo 8++putL hi 8)) 0 8) (num (aesE k0 ks kl (putL lo 8++putL hi 8)) 8 8)):=by
 unfold Gives
 have hm:=Own.start w0
 have BB:=hid fun w=>bytes_any lo hi w
 have lP:(putL lo 8++putL hi 8).length=16:=by rw [List.length_append,putL_length,putL_length]
 have EN:=hid fun w (hx:Ext w0 w)=>encrypt_any g k0 kl ks (putL lo 8++putL hi 8) lP w (h.ext hx)
 have lE:=aesE_length k0 ks kl (putL lo 8++putL hi 8)
 obtain⟨Pb,hPb⟩:=exq (putL lo 8++putL hi 8)
 rw [←hPb]at BB lP EN lE⊢
 obtain⟨E,hE⟩:=exq (aesE k0 ks kl Pb)
 rw [←hE]at EN lE⊢
 have LD:=hid fun (w:World)(q:Option Addr)(d:Nat)(h:RdB w q E)=>(show Gives Tryz.prog 183 #[.slice q 16 d] w (WV (num E 0 8) (num E 8 8))from by
   have:=load_any E q d w h (by omega);rwa [lE]at this)
 have h1:=Nat.le_of_eq lE
 have h2:=Nat.le_of_eq lE.symm
 clear h hPb hE lP
 go_enter Tryz.func180,Tryz.ntmps180
 go_wp2_with (first|(go_at_call 186;(with_reducible refine(BB.out _).mono ?_);rintro e_ w ⟨rfl,hx_⟩;replace hm:=hm.ext hx_;clear hx_)|(go_at_call 67;(with_reducible refine(EN.out _ hm.x).mono ?_);rintro e_ w ⟨rfl,hx_⟩;replace hm:=hm.ext hx_;clear hx_)|(go_at_call 183;(with_reducible refine(LD.out _ _ _ (hm.rdB (l:=E) (by repeat (first|exact Has.hd|assumption|apply Has.tl)))).mono ?_);rintro e_ w ⟨rfl,hx_⟩;replace hm:=hm.ext hx_;clear hx_)|((with_reducible show qLd);refine zB hm ?_)|((with_reducible show qSt);refine zE hm ?_;clear hm;intro w hm)|((first|((with_reducible show qAl);refine zG hm ?_)|((with_reducible show qBx);refine zH hm ?_));clear hm;intro gx_;intro w hm))
 refine rtO hm rfl rfl ⟨rfl,hm.x⟩
def TupS(n:Nat)(X:List Byte):Slot:=fun v w=>∃p c,v= .tuple #[.slice p n c, .int .i64 0]∧n≤c∧RdB w p X
theorem TupS.stable(n:Nat)(X:List Byte):Stable (TupS n X):=fun _ _ _ ⟨p,c,h1,h2,h3⟩ hx=>⟨p,c,h1,h2,h3.ext hx⟩
def SlcS(n:Nat)(X:List Byte):Slot:=fun v w=>∃p c,v= .slice p n c∧n≤c∧RdB w p X
theorem SlcS.stable(n:Nat)(X:List Byte):Stable (SlcS n X):=fun _ _ _ ⟨p,c,h1,h2,h3⟩ hx=>⟨p,c,h1,h2,h3.ext hx⟩
def adiC(key:List Byte)(gk gs:Option Addr):List Value:=key.map v8++[.pointer gk, .pointer gs]
theorem adiC_key(key:List Byte)(gk gs:Option Addr)(h:key.length=32):((adiC key gk gs).drop 0).take 32=key.map v8:=by
 rw [dZe,adiC];exact List.take_left' (by simp [h])
theorem adiC_k(key:List Byte)(gk gs:Option Addr)(h:key.length=32):(adiC key gk gs)[32]? =some (.pointer gk):=by
 rw [adiC,List.getElem?_append_right (by simp [h])];simp [h]
theorem adiC_s(key:List Byte)(gk gs:Option Addr)(h:key.length=32):(adiC key gk gs)[33]? =some (.pointer gs):=by
 rw [adiC,List.getElem?_append_right (by simp [h])];simp [h]
theorem adiC_setk(key:List Byte)(gk gs x:Option Addr)(h:key.length=32):(adiC key gk gs).set 32 (.pointer x)=adiC key x gs:=by
 rw [adiC,List.set_append_right _ _ (by simp [h])];simp [h,adiC]
theorem adiC_sets(key:List Byte)(gk gs x:Option Addr)(h:key.length=32):(adiC key gk gs).set 33 (.pointer x)=adiC key gk x:=by
 rw [adiC,List.set_append_right _ _ (by simp [h])];simp [h,adiC]
theorem adiC_length(key:List Byte)(gk gs:Option Addr)(h:key.length=32):(adiC key gk gs).length=34:=by simp [adiC,h]
def nonB(mb:List Byte):List Byte:=setN (over (zer 24) 0 (mb.take 24)) 16 1#8
theorem nonB_length(mb:List Byte)(h:mb.length=16):(nonB mb).length=24:=by
 rw [nonB,setN_length,over_length _ _ _ (by rw [List.length_take,zer_length];omega),zer_length]
def astL(key b:List Byte)(lo hi:BitVec 64):List Byte:=xchL key (nonB (putL lo 8++putL hi 8)) b
theorem astL_length(key b:List Byte)(lo hi:BitVec 64):(astL key b lo hi).length=b.length:=xchL_length _ _ _
theorem astream_any(g:Nat)(key b:List Byte)(gk gs:Option Addr)(lo hi:BitVec 64)(hk:key.length=32)(hb:b.length≤1000000)(q:Option Addr)(d:Nat)(hd:b.length≤d)(w0:World)(h:Row w0 g 125 (adiC key gk gs))(hr:RdB w0 q b):
   Calls Tryz.prog 178 #[.pointer (some ⟨g,0,none⟩),WV lo hi, .slice q b.length d] w0 fun e w'=>∃p c,e= .returned (.slice p b.length c)∧b.length≤c∧RdB w' p (astL key b lo hi)∧Ext w0 w':=by
 have hm:=Own.start w0
 have HR:=hid fun w (hx:Ext w0 w)=>row_ext h hx
 have EK:=hid (adiC_key key gk gs hk)
 have BB:=hid fun w=>bytes_any lo hi w
 have lP:(putL lo 8++putL hi 8).length=16:=by rw [List.length_append,putL_length,putL_length]
 have CC:=hid fun w (hx:Ext w0 w)=>ccrypt12 key (nonB (putL lo 8++putL hi 8)) b hk (nonB_length _ lP) (by omega) q d w (hr.ext hx) hd
 rw [show xchL key (nonB (putL lo 8++putL hi 8)) b=astL key b lo hi from rfl]at CC
 obtain⟨X,hX⟩:=exq (astL key b lo hi)
 rw [←hX]at CC⊢
 obtain⟨Pb,hPb⟩:=exq (putL lo 8++putL hi 8)
 rw [←hPb]at BB lP CC
 have EO:Hid (nonB Pb=setN (over (zer 24) 0 (Pb.take 24)) 16 1#8):=hid rfl
 have lO:(over (zer 24) 0 (Pb.take 24)).length=24:=by rw [over_length _ _ _ (by rw [List.length_take,zer_length];omega),zer_length]
 have LP:=hid lP
 rw [EO.out]at CC
 obtain⟨O,hO⟩:=exq (over (zer 24) 0 (Pb.take 24))
 have HO:=hid hO
 rw [←hO]at CC lO
 have HK:=hid hk
 have h1:=Nat.le_of_eq lP
 have h2:=Nat.le_of_eq lP.symm
 have h3:=Nat.le_of_eq lO
 have h4:=Nat.le_of_eq lO.symm
 obtain⟨BL,hBL⟩:=exq (b.length)
 rw [←hBL]at CC⊢
 clear h hr hX hPb hO hk hb hd lP lO hBL EO
 go_enter Tryz.func178,Tryz.ntmps178
 go_wp2_with (first|(go_at_call 186;(with_reducible refine(BB.out _).mono ?_);rintro e_ w ⟨rfl,hx_⟩;replace hm:=hm.ext hx_;clear hx_)|((with_reducible show qLd);refine zB hm ?_)|((with_reducible show qSt);refine zE hm ?_;clear hm;intro w hm)|((first|((with_reducible show qAl);refine zG hm ?_)|((with_reducible show qBx);refine zH hm ?_));clear hm;(first|(have hx_:=g1;clear hx_;(first|(have hx_:=g2;clear hx_;(first|(have hx_:=g3;clear hx_;intro gx_)|intro g3))|intro g2))|intro g1);intro w hm))
 refine rgE 2 28 ?_
 simp only [zTa]
 repeat (first
     | (apply walk_is rfl rfl rfl
        · (intro wx hwx;go_simp;(try go_bits);first|exact gives_same|exact gives_skip)
        · (simp only [zPu];rfl))
     | (apply walk_not rfl rfl rfl
        · (simp only [zPu];rfl)))
 intro wz hwz
 simp only [zZi]
 repeat (first|rw [fin_is]|(rw [fin_cons];intro _ _))
 rw [fin_nil]
 try (replace hm:=hm.ext hwz)
 simp only [zPu]
 ((with_reducible show wpList _ _ _ (Oper.mk _ (Op.call _) _ _ _ _::_) _ _);refine wpl_cp8 hm rfl rfl rfl rfl Tryz.underlying22 (by kernel_rfl) (by repeat (first|exact Swap.hd|assumption|apply Swap.tl)) (hm.rdB (g:=g3) (l:=Pb) (by repeat (first|exact Has.hd|assumption|apply Has.tl))) LP.out.symm (HO.out.symm) (by rw [zer_length];omega) ?_;clear hm;intro w hm)
 go_wp2_with (first|((((with_reducible show qSt);first|((with_reducible apply wq_st8i hm);exact rfl;infer_instance;exact rfl;exact rfl;(focus (repeat first|exact .hd|assumption|apply Swap.tl);done);(focus omega);(focus (first|omega|(simp;omega)|(refine ltB ?_;first|omega|(simp;done)|(simp;omega)))))));clear hm;intro w hm))
 have hx0:=hm.x
 have c1:=fun wx (hwx:Ext w wx)=>(show GivesR Tryz.prog 64 #[A8 key,A8 (setN O 16 1#8), .int .i64 12, .slice q BL d] wx (TupS BL X)from by
   refine Calls.mono (CC.out wx (hx0.trans hwx)) ?_
   rintro e w' ⟨p,c,rfl,h1,h2,h3⟩
   exact⟨_,rfl,⟨p,c,rfl,h1,h2⟩,h3⟩)
 have R1:=hid fun wx (h:Ext w wx)=>HR.out wx (hx0.trans h)
 refine region_new 11 (fun w'=>Ext _ w') 28 (by kernel_rfl) (by kernel_rfl) rfl (fun _ _ h k=>h.trans k) (drew_ext _) ?_
 simp only [zTa]
 repeat (first
     |(apply walk_is rfl rfl rfl;(intro wx hwx;(with_reducible apply gq_rowN (R1.out wx hwx));infer_instance;exact rfl;exact EK.out;exact(by rw [List.length_map];exact HK.out));(simp only [zPu];rfl))
     | (apply walk_some (TupS BL X) 24 (TupS.stable _ _) rfl rfl rfl rfl
        · (intro wx hwx;go_simp;with_reducible exact gives_callR (c1 wx hwx)))
     | (apply walk_from_some (T:=[(24,TupS BL X)]) (TupS BL X) 17 (TupS.stable _ _) rfl rfl rfl
        · (intro wx hwx;simp only [withS];(rintro x_ ⟨p_,c_,rfl,h1_,h2_⟩);refine⟨rfl, ?_⟩;go_simp;exact gives_val (Ext.refl _) ⟨p_,c_,rfl,h1_,h2_⟩))
     | (apply walk_from_some (T:=[(17,TupS BL X)]) (SlcS BL X) 25 (SlcS.stable _ _) rfl rfl rfl
        · (intro wx hwx;simp only [withS];(rintro x_ ⟨p_,c_,rfl,h1_,h2_⟩);refine⟨rfl, ?_⟩;go_simp;exact gives_val (Ext.refl _) ⟨p_,c_,rfl,h1_,h2_⟩))
     | (apply walk_from_some (T:=[(25,SlcS BL X)]) (SlcS BL X) 9 (SlcS.stable _ _) rfl rfl rfl
        · (intro wx hwx;simp only [withS];(rintro x_ ⟨p_,c_,rfl,h1_,h2_⟩);refine⟨rfl, ?_⟩;go_simp;exact gives_val (Ext.refl _) ⟨p_,c_,rfl,h1_,h2_⟩))
     | (apply walk_from (T:=[(17,TupS BL X)]) rfl rfl
        · (intro wx hwx;simp only [withS];(rintro x_ ⟨p_,c_,rfl,h1_,h2_⟩);refine⟨rfl, ?_⟩;go_simp;exact gives_same)
        · (simp only [zPu];rfl))
     | (apply walk_is rfl rfl rfl
        · (intro wx hwx;first|((with_reducible show qGl);exact zK (hm.ext hwx))|(go_simp;(try go_bits);first|exact gives_same|exact gives_skip))
        · (simp only [zPu];rfl))
     | (apply walk_not rfl rfl rfl
        · (simp only [zPu];rfl)))
 intro wz hwz
 simp only [zZi]
 repeat rw [fin_is]
 rw [fin_cons];intro x24 hx24
 repeat rw [fin_is]
 rw [fin_cons];intro x17 hx17
 repeat rw [fin_is]
 rw [fin_cons];intro x25 hx25
 repeat rw [fin_is]
 rw [fin_cons];intro x9 hx9
 repeat rw [fin_is]
 rw [fin_nil];intro hap
 simp only [zPu]at hap⊢
 obtain⟨p25,c25,rfl,hc25,hr25⟩:=hx9
 clear hx24 hx17 hx25 hap
 have hx2:=hx0.trans hwz
 go_wp2_with fail
 go_ret
 exact⟨p25,c25,rfl,hc25,hr25,hx2⟩
def AdiR(w:World)(g:Nat)(key k0:List Byte)(ks:List (List Byte))(kl tw ms:List Byte)(W:List (BitVec 32)):Prop:=
 ∃gk gs,Row w g 125 (adiC key (some ⟨gk,0,none⟩) (some ⟨gs,0,none⟩))∧key.length=32∧AesR w gk k0 ks kl∧AdR w gs tw ms W
theorem AdiR.ext {w w':World}{g:Nat}{key k0 kl tw ms:List Byte}{ks:List (List Byte)}{W:List (BitVec 32)}(h:AdiR w g key k0 ks kl tw ms W)(hx:Ext w w'):AdiR w' g key k0 ks kl tw ms W:=by
 obtain⟨gk,gs,h1,h2,h3,h4⟩:=h
 exact⟨gk,gs,row_ext h1 hx,h2,h3.ext hx,h4.ext hx⟩
def NewT(B n:Nat)(X:List Byte):Slot:=fun v w=>∃g o d cur,v= .tuple #[.slice (some ⟨g,o,none⟩) n d, .int .i64 0]∧B≤g∧Row w g 5 cur∧SlO [⟨g,5,cur⟩] 5 1 (.slice (some ⟨g,o,none⟩) n d) n (X.map v8)
theorem NewT.stable(B n:Nat)(X:List Byte):Stable (NewT B n X):=fun _ _ _ ⟨g,o,d,cur,h1,h2,h3,h4⟩ hx=>⟨g,o,d,cur,h1,h2,row_ext h3 hx,h4⟩
def NewL(B n:Nat)(X:List Byte):Slot:=fun v w=>∃g o d cur,v= .slice (some ⟨g,o,none⟩) n d∧B≤g∧Row w g 5 cur∧SlO [⟨g,5,cur⟩] 5 1 (.slice (some ⟨g,o,none⟩) n d) n (X.map v8)
theorem NewL.stable(B n:Nat)(X:List Byte):Stable (NewL B n X):=fun _ _ _ ⟨g,o,d,cur,h1,h2,h3,h4⟩ hx=>⟨g,o,d,cur,h1,h2,row_ext h3 hx,h4⟩
theorem newT_of {w0 w:World}{B n:Nat}{X:List Byte}{v:Value}{M R:List Blk}(h0:0<n)(hB:B≤w0.heap.size)(hm:Own w0 w (M++R))(hs:SlO M 5 1 v n (X.map v8)):NewT B n X (.tuple #[v, .int .i64 0]) w:=by
 have hs2:=hs
 rcases hs.2 with ⟨_,h1,_⟩|⟨g,o,cap,cur,rfl,rfl,_⟩
 · omega
 · exact⟨g,o,cap,cur,rfl,Nat.le_trans hB (show w0.heap.size≤(⟨g,5,cur⟩:Blk).g from hm.base .hd),hm.row .hd,hs2⟩
theorem gq_mkZ {a:Act}{w:World}{dst:Option Tmp}{ty:TypeId}{pos:String}{aft:Array Edge}{gd:Option (Nat×Bool)}{x y:Operand}(n:Nat)(hn:n≤281474976710656)(hx:a.eval x= .int .i64 (n:Int))(hy:a.eval y= .int .i64 (n:Int)):gives Tryz.prog w (BytesS (zeros n)) ((execOp a.eval (Oper.mk dst (.makeSlice 22 x y) ty pos aft gd)).run Tryz.prog w):=by
 obtain⟨i,hi,hz,hs,hb⟩:=info_byte
 have h:=run_make_bytes (P:=Tryz.prog) (w:=w) Tryz.underlying22 hi hz hs hb n hn
 unfold execOp
 simp only [hx,hy,Sem.run_bind,h,Result.andThen_ok,Sem.run_pure]
 have hl:=zeros_length n
 exact gives_val (Ext.alloc (Ext.refl _) _) ⟨_,_,by rw [hl],by rw [hl];exact Nat.le_refl _,RdB.of_row (row_new w 5 ((zeros n).map v8))⟩
theorem gq_bld1 {P:Program}{dst:Option Tmp}{ty:TypeId}{pos:String}{aft:Array Edge}{gd:Option (Nat×Bool)}{a:Act}{w:World}{T:TypeId}{x:Operand}{u v:Value}{i:Nat}(hb:∀w,(Instr.build T #[(i,u)]).run P w= .ok v w)(hx:a.eval x=u):gives P w (Is v) ((execOp a.eval (Oper.mk dst (.build T #[(i,x)]) ty pos aft gd)).run P w):=by
 unfold execOp
 have h:=hb w
 simp [hx,h]
 exact gives_same
def non0:List Byte:=setN (zer 24) 0 1#8
theorem build_non0(w:World):(Instr.build 127 #[(0, .int .u8 1)]).run Tryz.prog w= .ok (A8 non0) w:=by kernel_rfl
theorem len32(b:List Byte)(h:b.length=32):∃a c,b=a++c∧a.length=16∧c.length=16:=⟨b.take 16,b.drop 16,(List.take_append_drop 16 b).symm,by rw [List.length_take];omega,by rw [List.length_drop];omega⟩
theorem build_adi(key:List Byte)(hk:key.length=32)(w:World):(Instr.build 125 #[(0,A8 key)]).run Tryz.prog w= .ok (.agg (adiC key none none).toArray) w:=by
 obtain⟨x,y,rfl,hx,hy⟩:=len32 key hk
 obtain⟨a0,a1,a2,a3,a4,a5,a6,a7,a8,a9,a10,a11,a12,a13,a14,a15,rfl⟩:=len16 x hx
 obtain⟨b0,b1,b2,b3,b4,b5,b6,b7,b8,b9,b10,b11,b12,b13,b14,b15,rfl⟩:=len16 y hy
 kernel_rfl
theorem arr_at32(a:Addr)(c:Nat)(w:World):(Instr.arrayAt 121 (.slice (some a) 32 c)).run Tryz.prog w= .ok (.pointer (some a)) w:=by kernel_rfl
def adX(key:List Byte):List Byte:=xchL key non0 (zeros 1136)
theorem adX_length(key:List Byte):(adX key).length=1136:=by rw [adX,xchL_length,zeros_length]
abbrev AdiK(w:World)(g:Nat)(key:List Byte):Prop:=AdiR w g key (eK0 ((adX key).take 32)) (eKs ((adX key).take 32)) (eKl ((adX key).take 32)) (blk ((adX key).drop 32)) (blk (((adX key).drop 32).drop 16)) (nhW (((adX key).drop 32).drop 32))
theorem adinew_any(gt gb:Nat)(key:List Byte)(hk:key.length=32)(p:Option Addr)(c:Nat)(hc:32≤c)(w0:World)(hr:RdB w0 p key)(ht:TabR gt gb w0):
   Calls Tryz.prog 45 #[.pointer (some ⟨gt,0,none⟩), .slice p 32 c] w0 fun e w'=>∃g L,e= .returned (.tuple #[.pointer (some ⟨g,0,none⟩), .int .i64 0])∧w0.heap.size≤g∧Own w0 w' L∧Keeps L (TabR gt gb) (fun wx=>AdiK wx g key):=by
 have hm:=Own.start w0
 obtain⟨a,rfl⟩:=Option.isSome_iff_exists.1 (hr.1 (by omega))
 have HR:=hid fun w (hx:Ext w0 w)=>hr.ext hx
 have HK:=hid hk
 have HT:=hid ht
 have BA:=hid (build_adi key hk)
 have BN:=hid build_non0
 have EK:=hid (adiC_key key none none hk)
 have lX:=adX_length key
 have CC:=hid fun (w wx:World)(hx:Ext w wx)(q:Option Addr)(d:Nat)(hd:(zeros 1136).length≤d)(hr:RdB wx q (zeros 1136))=>(show GivesR Tryz.prog 64 #[A8 key,A8 non0, .int .i64 12, .slice q 1136 d] wx (NewT w.heap.size 1136 (adX key))from by
   have h0:=ccrypt12o key non0 (zeros 1136) hk (by rw [non0,setN_length,zer_length]) (by rw [zeros_length];omega) q d wx hr hd
   rw [zeros_length]at h0
   refine Calls.mono h0 ?_
   rintro e w' ⟨v,M,R,rfl,hm1,hs⟩
   exact⟨_,rfl,newT_of (by omega) hx.size hm1 hs,hm1.x⟩)
 have FIN:Hid (∀(g gk gs:Nat)(wx:World),Row wx g 125 (adiC key (some ⟨gk,0,none⟩) (some ⟨gs,0,none⟩))→AesR wx gk (eK0 ((adX key).take 32)) (eKs ((adX key).take 32)) (eKl ((adX key).take 32))→AdR wx gs (blk ((adX key).drop 32)) (blk (((adX key).drop 32).drop 16)) (nhW (((adX key).drop 32).drop 32))→AdiK wx g key):=hid fun g gk gs wx h1 h2 h3=>⟨gk,gs,h1,hk,h2,h3⟩
 have EX:=hid fun (w:World)(hx:Ext w0 w)(q:Option Addr)(d:Nat)(hd:32≤d)(hr:RdB w q (adX key))=>(show Calls Tryz.prog 65 #[.pointer (some ⟨gt,0,none⟩), .slice q 32 d] w fun e w'=>∃g L,e= .returned (.tuple #[.pointer (some ⟨g,0,none⟩), .int .i64 0])∧w.heap.size≤g∧Own w w' L∧Keeps L (TabR gt gb) (fun wx=>AesR wx g (eK0 ((adX key).take 32)) (eKs ((adX key).take 32)) (eKl ((adX key).take 32)))from by
   have l:((adX key).take 32).length=32:=by rw [List.length_take,lX];rfl
   have:=expand_any gt gb ((adX key).take 32) (.inr (.inr l)) q d w (hr.take 32) (by omega) (ht.ext hx)
   rwa [l]at this)
 have AN:=hid fun (w:World)(q:Option Addr)(d:Nat)(hd:1136≤d)(hr:RdB w q (adX key))=>(show Calls Tryz.prog 66 #[.slice (slP q d 32) 1104 (d-32)] w fun e w'=>∃g,e= .returned (.tuple #[.pointer (some ⟨g,0,none⟩), .int .i64 0])∧w.heap.size≤g∧∃L,Own w w' L∧Keeps L (fun _=>True) (fun wx=>AdR wx g (blk ((adX key).drop 32)) (blk (((adX key).drop 32).drop 16)) (nhW (((adX key).drop 32).drop 32)))from
   adnew_any ((adX key).drop 32) (by rw [List.length_drop,lX]) _ (d-32) (by omega) w (hr.slL d 32 (by omega)))
 have h32:(32:Int)≤(c:Int):=by omega
 have ZL:=hid (zeros_length 1136)
 have aa:=arr_at32 a c
 clear hr hk ht hc lX
 go_enter Tryz.func45,Tryz.ntmps45
 go_wp2_with (first|((with_reducible apply wq_rdW (HR.out _ hm.x));exact rfl;infer_instance;exact rfl;exact HK.out)|((with_reducible apply wq_build1 BA.out);exact rfl;exact rfl)|(((with_reducible show qBx);refine zH hm ?_);clear hm;(first|(have hx_:=g1;clear hx_;intro gx_)|intro g1);intro w hm))
 have hmA:=hm
 have c1:=fun wx q d (hwx:Ext w wx) (hd:(zeros 1136).length≤d) (h:RdB wx q (zeros 1136))=>CC.out w wx hwx q d hd h
 refine region_new 11 (fun w'=>Ext _ w') 51 (by kernel_rfl) (by kernel_rfl) rfl (fun _ _ h k=>h.trans k) (drew_ext _) ?_
 simp only [zTa]
 repeat (first
     |(apply walk_is rfl rfl rfl;(intro wx hwx;(with_reducible apply gq_ldN (hm.ext hwx));infer_instance;exact rfl;(focus ((repeat (first|exact .hd|assumption|apply Has.tl|apply Has.app));done));(exact EK.out);(exact(by rw [List.length_map];exact HK.out)));(simp only [zPu];rfl))
     |(apply walk_is rfl rfl rfl;(intro wx hwx;(with_reducible apply gq_bld1 BN.out);exact rfl);(simp only [zPu];rfl))
     |(apply walk_some (BytesS (zeros 1136)) 27 (BytesS.stable _) rfl rfl rfl rfl;(intro wx hwx;exact gq_mkZ 1136 (by omega) rfl rfl))
     | (apply walk_from_some (T:=[(27,BytesS (zeros 1136))]) (NewT w.heap.size 1136 (adX key)) 28 (NewT.stable _ _ _) rfl rfl rfl
        · (intro wx hwx;simp only [withS];(rintro x_ ⟨p_,c_,rfl,h1_,h2_⟩);refine⟨rfl, ?_⟩;go_simp;with_reducible exact gives_callR (c1 wx _ _ hwx h1_ h2_)))
     | (apply walk_from_some (T:=[(28,NewT w.heap.size 1136 (adX key))]) (NewT w.heap.size 1136 (adX key)) 21 (NewT.stable _ _ _) rfl rfl rfl
        · (intro wx hwx;simp only [withS];(rintro x_ ⟨g_,o_,d_,cur_,rfl,h_⟩);refine⟨rfl, ?_⟩;go_simp;exact gives_val (Ext.refl _) ⟨g_,o_,d_,cur_,rfl,h_⟩))
     | (apply walk_from_some (T:=[(21,NewT w.heap.size 1136 (adX key))]) (NewL w.heap.size 1136 (adX key)) 29 (NewL.stable _ _ _) rfl rfl rfl
        · (intro wx hwx;simp only [withS];(rintro x_ ⟨g_,o_,d_,cur_,rfl,h_⟩);refine⟨rfl, ?_⟩;go_simp;exact gives_val (Ext.refl _) ⟨g_,o_,d_,cur_,rfl,h_⟩))
     | (apply walk_from (T:=[(21,NewT w.heap.size 1136 (adX key))]) rfl rfl
        · (intro wx hwx;simp only [withS];(rintro x_ ⟨g_,o_,d_,cur_,rfl,h_⟩);refine⟨rfl, ?_⟩;go_simp;exact gives_same)
        · (simp only [zPu];rfl))
     | (apply walk_from_some (T:=[(29,NewL w.heap.size 1136 (adX key))]) (NewL w.heap.size 1136 (adX key)) 7 (NewL.stable _ _ _) rfl rfl rfl
        · (intro wx hwx;simp only [withS];(rintro x_ ⟨g_,o_,d_,cur_,rfl,h_⟩);refine⟨rfl, ?_⟩;go_simp;exact gives_val (Ext.refl _) ⟨g_,o_,d_,cur_,rfl,h_⟩))
     | (apply walk_is rfl rfl rfl
        · (intro wx hwx;go_simp;(try go_bits);first|exact gives_same|exact gives_skip)
        · (simp only [zPu];rfl))
     | (apply walk_not rfl rfl rfl
        · (simp only [zPu];rfl)))
 intro wz hwz
 simp only [zZi]
 repeat rw [fin_is]
 rw [fin_cons];intro x27 hx27
 repeat rw [fin_is]
 rw [fin_cons];intro x28 hx28
 repeat rw [fin_is]
 rw [fin_cons];intro x21 hx21
 repeat rw [fin_is]
 rw [fin_cons];intro x29 hx29
 repeat rw [fin_is]
 rw [fin_cons];intro x7 hx7
 repeat rw [fin_is]
 rw [fin_nil];intro hap
 simp only [zPu]at hap⊢
 obtain⟨gq,oq,dq,cur,rfl,hgq,hrq,hsq⟩:=hx7
 clear hx27 hx28 hx21 hx29 hap c1 hm
 have hm:=hmA.push hwz hgq hrq
 clear hmA hgq hrq hwz
 have HSQ:=hid hsq
 have SK:=hid fun (gk:Nat)=>adiC_setk key none none (some ⟨gk,0,none⟩) HK.out
 have SS:=hid fun (gk gs:Nat)=>adiC_sets key (some ⟨gk,0,none⟩) none (some ⟨gs,0,none⟩) HK.out
 have L1:=hid (show 32<(adiC key none none).length by rw [adiC_length _ _ _ HK.out];omega)
 have L2:=hid fun (gk:Nat)=>(show 33<(adiC key (some ⟨gk,0,none⟩) none).length by rw [adiC_length _ _ _ HK.out];omega)
 have hdq:1136≤dq:=by
   rcases hsq.2 with ⟨h1,_⟩|⟨g,o,cap,cur2,h1,_,h2,_⟩
   · cases h1
   · cases h1;exact h2
 clear hsq
 have hd32:32≤dq:=by omega
 go_wp2_with (first|((with_reducible apply wq_slH (h:=32) Tryz.underlying22);infer_instance;exact rfl;exact rfl;exact rfl;exact hd32)|(go_at_call 65;(with_reducible refine(EX.out _ hm.x _ _ hd32 (slo_rdZ HSQ.out (R:=[⟨g1,125,adiC key none none⟩]) hm)).mono ?_);rintro e_ w ⟨gk,LK,rfl,hgk_,hm1,KK⟩;replace hm:=hm.join hm1;clear hm1)|((with_reducible apply wq_st1e (SK.out gk) L1.out hm);exact rfl;infer_instance;exact rfl;exact rfl;exact rfl;exact rfl;exact(Swap.app (.tl .hd));clear hm;intro w hm)|((with_reducible apply wq_slL (l:=32) (r:=1104) Tryz.underlying22);infer_instance;exact rfl;exact rfl;exact rfl;exact(by omega);exact rfl)|(go_at_call 66;(with_reducible refine(AN.out _ _ _ hdq (slo_rdZ HSQ.out (R:=[⟨g1,125,adiC key (some ⟨gk,0,none⟩) none⟩]) hm.dropN)).mono ?_);rintro e_ w ⟨gs,rfl,hgs_,LS,hm1,KS⟩;replace hm:=hm.join hm1;clear hm1)|((with_reducible apply wq_st1e (SS.out gk gs) (L2.out gk) hm);exact rfl;infer_instance;exact rfl;exact rfl;exact rfl;exact rfl;exact(Swap.app (Swap.app (.tl .hd)));clear hm;intro w hm))
 go_ret2
 refine⟨g1,_,rfl,hm.dropN.dropN.drop.base .hd,hm,fun wx hrow htab=>FIN.out g1 gk gs wx (hrow ⟨g1,125,adiC key (some ⟨gk,0,none⟩) (some ⟨gs,0,none⟩)⟩ (by simp)) (KK wx (fun b hb=>hrow b (by simp [hb])) htab) (KS wx (fun b hb=>hrow b (by simp [hb])) trivial)⟩
structure AdP where
 key:List Byte
 k0:List Byte
 ks:List (List Byte)
 kl:List Byte
 tw:List Byte
 ms:List Byte
 W:List (BitVec 32)
abbrev AdiP(w:World)(g:Nat)(P:AdP):Prop:=AdiR w g P.key P.k0 P.ks P.kl P.tw P.ms P.W
abbrev WW:=BitVec 64×BitVec 64
def wPlus(x y:WW):WW:=(x.1+y.1,x.2+y.2+carryB x.1 y.1 0#64)
def wMinus(x y:WW):WW:=(x.1-y.1,x.2-y.2-borrowB x.1 y.1 0#64)
def wBytes(x:WW):List Byte:=putL x.1 8++putL x.2 8
def wOf(b:List Byte):WW:=(num b 0 8,num b 8 8)
def adSum(P:AdP)(t b:List Byte):WW:=(asLo P.tw P.ms t b P.W,asHi P.tw P.ms t b P.W)
def adMid(P:AdP)(t m:List Byte)(n:Nat):WW:=wOf (aesE P.k0 P.ks P.kl (wBytes (wPlus (wOf (rgt m n)) (adSum P t (m.take n)))))
def adBulk(P:AdP)(t m:List Byte)(n:Nat):List Byte:=astL P.key (m.take n) (adMid P t m n).1 (adMid P t m n).2
def adEn(P:AdP)(t m:List Byte)(n:Nat):List Byte:=adBulk P t m n++wBytes (wMinus (adMid P t m n) (adSum P t (adBulk P t m n)))
theorem adBulk_length(P:AdP)(t m:List Byte)(n:Nat)(h:n≤m.length):(adBulk P t m n).length=n:=by rw [adBulk,astL_length,List.length_take];omega
theorem wBytes_length(x:WW):(wBytes x).length=16:=by rw [wBytes,List.length_append,putL_length,putL_length]
theorem adEn_length(P:AdP)(t m:List Byte)(n:Nat)(h:n≤m.length):(adEn P t m n).length=n+16:=by rw [adEn,List.length_append,adBulk_length P t m n h,wBytes_length]
theorem newL_of {w0 w:World}{B n:Nat}{X:List Byte}{v:Value}{M R:List Blk}(h0:0<n)(hB:B≤w0.heap.size)(hm:Own w0 w (M++R))(hs:SlO M 5 1 v n (X.map v8)):NewL B n X v w:=by
 have hs2:=hs
 rcases hs.2 with ⟨_,h1,_⟩|⟨g,o,cap,cur,rfl,rfl,_⟩
 · omega
 · exact⟨g,o,cap,cur,rfl,Nat.le_trans hB (show w0.heap.size≤(⟨g,5,cur⟩:Blk).g from hm.base .hd),hm.row .hd,hs2⟩
theorem aenc_any(g n:Nat)(P:AdP)(t m:List Byte)(ht:t.length≤70368744177000)(hl:m.length=n+16)(hn:n<400)(p q:Option Addr)(c d:Nat)(hc:t.length≤c)(hd:n+16≤d)(w0:World)(h:AdiP w0 g P)(hr:RdB w0 p t)(hq:RdB w0 q m):
   Calls Tryz.prog 174 #[.pointer (some ⟨g,0,none⟩), .slice p t.length c, .slice q (n+16) d] w0 fun e w'=>∃v M R,e= .returned (.tuple #[v, .int .i64 0])∧Own w0 w' (M++R)∧SlO M 5 1 v (n+16) ((adEn P t m n).map v8):=by
 have hm:=Own.start w0
 obtain⟨gk,gs,h1,hk,h2,h3⟩:=h
 have HR:=hid fun w (hx:Ext w0 w)=>row_ext h1 hx
 have EK:=hid (adiC_k P.key (some ⟨gk,0,none⟩) (some ⟨gs,0,none⟩) hk)
 have ES:=hid (adiC_s P.key (some ⟨gk,0,none⟩) (some ⟨gs,0,none⟩) hk)
 have PA:=hid fun w (hx:Ext w0 w)=>aparts_any m n hl hn q d hd w (hq.ext hx)
 have lB0:(m.take n).length=n:=by rw [List.length_take];omega
 have lB1:=adBulk_length P t m n (by omega)
 have S1:=hid fun (w:World)(hx:Ext w0 w)(q2:Option Addr)(d2:Nat)(hq2:RdB w q2 (m.take n))=>(show Gives Tryz.prog 177 #[.pointer (some ⟨gs,0,none⟩), .slice p t.length c, .slice q2 n d2] w (WV (adSum P t (m.take n)).1 (adSum P t (m.take n)).2)from by
   have:=asum_any gs P.tw P.ms t (m.take n) P.W ht (by omega) p q2 c d2 hc w (h3.ext hx) (hr.ext hx) hq2
   rwa [lB0]at this)
 have PL:=hid fun w=>(show Gives Tryz.prog 132 #[WV (num (rgt m n) 0 8) (num (rgt m n) 8 8),WV (adSum P t (m.take n)).1 (adSum P t (m.take n)).2] w (WV (wPlus (wOf (rgt m n)) (adSum P t (m.take n))).1 (wPlus (wOf (rgt m n)) (adSum P t (m.take n))).2)from oplus_any _ _ _ _ w)
 have NU:=hid fun w (hx:Ext w0 w)=>(show Gives Tryz.prog 180 #[.func (.func 67) #[.pointer (some ⟨gk,0,none⟩)] #[],WV (wPlus (wOf (rgt m n)) (adSum P t (m.take n))).1 (wPlus (wOf (rgt m n)) (adSum P t (m.take n))).2] w (WV (adMid P t m n).1 (adMid P t m n).2)from anum_enc gk P.k0 P.kl P.ks _ _ w (h2.ext hx))
 have ST:=hid fun (w:World)(hx:Ext w0 w)(q2:Option Addr)(d2:Nat)(hd2:n≤d2)(hq2:RdB w q2 (m.take n))=>(show Calls Tryz.prog 178 #[.pointer (some ⟨g,0,none⟩),WV (adMid P t m n).1 (adMid P t m n).2, .slice q2 n d2] w fun e w'=>∃p c,e= .returned (.slice p n c)∧n≤c∧RdB w' p (adBulk P t m n)∧Ext w w' from by
   have:=astream_any g P.key (m.take n) (some ⟨gk,0,none⟩) (some ⟨gs,0,none⟩) (adMid P t m n).1 (adMid P t m n).2 hk (by omega) q2 d2 (by omega) w (row_ext h1 hx) hq2
   rw [lB0]at this
   exact this)
 have S2:=hid fun (w:World)(hx:Ext w0 w)(q2:Option Addr)(d2:Nat)(hq2:RdB w q2 (adBulk P t m n))=>(show Gives Tryz.prog 177 #[.pointer (some ⟨gs,0,none⟩), .slice p t.length c, .slice q2 n d2] w (WV (adSum P t (adBulk P t m n)).1 (adSum P t (adBulk P t m n)).2)from by
   have:=asum_any gs P.tw P.ms t (adBulk P t m n) P.W ht (by omega) p q2 c d2 hc w (h3.ext hx) (hr.ext hx) hq2
   rwa [lB1]at this)
 have MI:=hid fun w=>(show Gives Tryz.prog 182 #[WV (adMid P t m n).1 (adMid P t m n).2,WV (adSum P t (adBulk P t m n)).1 (adSum P t (adBulk P t m n)).2] w (WV (wMinus (adMid P t m n) (adSum P t (adBulk P t m n))).1 (wMinus (adMid P t m n) (adSum P t (adBulk P t m n))).2)from ominus_any _ _ _ _ w)
 have JO:=hid fun (w wx:World)(hx:Ext w wx)(q2:Option Addr)(d2:Nat)(hd2:n≤d2)(hq2:RdB wx q2 (adBulk P t m n))=>(show GivesR Tryz.prog 179 #[.slice q2 n d2,WV (wMinus (adMid P t m n) (adSum P t (adBulk P t m n))).1 (wMinus (adMid P t m n) (adSum P t (adBulk P t m n))).2] wx (NewL w.heap.size (n+16) (adEn P t m n))from by
   have h0:=ajoined_any (adBulk P t m n) (wMinus (adMid P t m n) (adSum P t (adBulk P t m n))).1 (wMinus (adMid P t m n) (adSum P t (adBulk P t m n))).2 (by omega) q2 d2 (by omega) wx hq2
   rw [lB1]at h0
   refine Calls.mono h0 ?_
   rintro e w' ⟨v,M,R,rfl,hm1,hs⟩
   exact⟨v,rfl,newL_of (by omega) hx.size hm1 hs,hm1.x⟩)
 have AW:=hid fun w=>awrong_any g q (n+16) d (by omega) w
 generalize (adSum P t (m.take n)).1=s1 at*
 generalize (adSum P t (m.take n)).2=s2 at*
 generalize (wPlus (wOf (rgt m n)) (adSum P t (m.take n))).1=x1 at*
 generalize (wPlus (wOf (rgt m n)) (adSum P t (m.take n))).2=x2 at*
 generalize num (rgt m n) 0 8=r1 at*
 generalize num (rgt m n) 8 8=r2 at*
 generalize (wMinus (adMid P t m n) (adSum P t (adBulk P t m n))).1=y1 at*
 generalize (wMinus (adMid P t m n) (adSum P t (adBulk P t m n))).2=y2 at*
 generalize (adSum P t (adBulk P t m n)).1=u1 at*
 generalize (adSum P t (adBulk P t m n)).2=u2 at*
 generalize (adMid P t m n).1=e1 at*
 generalize (adMid P t m n).2=e2 at*
 generalize adEn P t m n=OUT at*
 generalize adBulk P t m n=B1 at*
 generalize m.take n=B0 at*
 generalize adiC P.key (some ⟨gk,0,none⟩) (some ⟨gs,0,none⟩)=PC at*
 obtain⟨TL,hTL⟩:=exq (t.length)
 rw [←hTL]at S1 S2⊢
 have LB0:=hid lB0
 have LB1:=hid lB1
 clear h1 h2 h3 hr hq ht hl hk hc hTL lB0 lB1
 go_enter Tryz.func174,Tryz.ntmps174
 go_wp2_with (first|(go_at_call 175;(with_reducible refine(AW.out _).mono ?_);rintro e_ w_ ⟨rfl,rfl⟩)|(go_at_call 176;(with_reducible refine(PA.out _ hm.x).mono ?_);rintro e_ w ⟨v1,M1,R1,rfl,hm1,hs1⟩;replace hm:=hm.join hm1;obtain⟨p1,c1,rfl⟩:=hs1.form;clear hm1)|((with_reducible show qSt);refine zE hm ?_;clear hm;intro w hm)|(((with_reducible show qAl);refine zG hm ?_);clear hm;intro gx_;intro w hm))
 rw [List.append_nil]at hm
 have HS1:=hid hs1
 have RB:=hid fun wx L (h:Own w0 wx (L++(M1++R1)))=>slo_rdZ hs1 h.dropN
 have c16:n≤c1:=by
   obtain⟨_,_,hv,h1,_⟩:=hs1.cells hm.drop
   cases hv
   exact h1
 clear hs1
 have hx0:=hm.x
 have hmA:=hm
 have a1:=fun wx (hwx:Ext w wx)=>S1.out wx (hx0.trans hwx) p1 c1 (RB.out wx [_] (hmA.ext hwx))
 have a2:=fun wx (hwx:Ext w wx)=>PL.out wx
 have a3:=fun wx (hwx:Ext w wx)=>NU.out wx (hx0.trans hwx)
 have R5:=hid fun wx (hwx:Ext w wx)=>HR.out wx (hx0.trans hwx)
 refine region_new 16 (fun w'=>Ext _ w') 53 (by kernel_rfl) (by kernel_rfl) rfl (fun _ _ h k=>h.trans k) (drew_ext _) ?_
 simp only [zTa]
 repeat (first
     | (apply walk_some (NewS (w.heap.size) 191 ([v64 0#64,v64 0#64])) 11 (NewS.stable _ _ _) rfl rfl rfl rfl
        · (intro wx hwx;go_simp;exact gives_new (cs:=[v64 0#64,v64 0#64]) hwx.size))
     | (apply walk_is rfl rfl rfl
        · (intro wx hwx;(with_reducible apply gq_row1 ((R5.out) wx hwx));infer_instance;exact rfl;(first|exact EK.out|exact ES.out))
        · (simp only [zPu];rfl))
     | (apply walk_is rfl rfl rfl
        · (intro wx hwx;first|((with_reducible show qGl);exact zK (hm.ext hwx))|(go_simp;(try go_bits);first|exact gives_same|exact gives_skip|with_reducible exact gives_call (a1 wx hwx)|with_reducible exact gives_call (a2 wx hwx)|with_reducible exact gives_call (a3 wx hwx)))
        · (simp only [zPu];rfl))
     | (apply walk_not rfl rfl rfl
        · (simp only [zPu];rfl)))
 intro wz hwz
 simp only [zZi]
 repeat rw [fin_is]
 rw [fin_cons];intro x11 hx11
 repeat rw [fin_is]
 rw [fin_nil];intro hap
 simp only [zPu]at hap⊢
 obtain⟨g11_,rfl,hg11,hr11⟩:=hx11
 replace hm:=hm.push hwz hg11 hr11
 clear hap hr11
 clear a1 a2 a3 hmA hx0 R5
 go_wp2_with (first|((with_reducible show qLd);refine zB hm ?_)|((with_reducible show qSt);refine zE hm ?_;clear hm;intro w hm))
 refine(ST.out w hm.x p1 c1 c16 (RB.out w [_,_] hm)).mono ?_
 rintro e_ w ⟨p2,c2,rfl,hc2,hr2,hx_⟩
 replace hm:=hm.ext hx_
 clear hx_
 have HR2:=hid hr2
 clear hr2
 go_wp2_with fail
 have hx0:=hm.x
 have hmA:=hm
 have a1:=fun wx (hwx:Ext w wx)=>S2.out wx (hx0.trans hwx) p2 c2 (HR2.out.ext hwx)
 have a2:=fun wx (hwx:Ext w wx)=>MI.out wx
 have a3:=fun wx (hwx:Ext w wx)=>JO.out w wx hwx p2 c2 hc2 (HR2.out.ext hwx)
 have R5:=hid fun wx (hwx:Ext w wx)=>HR.out wx (hx0.trans hwx)
 refine region_new 11 (fun w'=>Ext _ w') 53 (by kernel_rfl) (by kernel_rfl) rfl (fun _ _ h k=>h.trans k) (drew_ext _) ?_
 simp only [zTa]
 repeat (first
     | (apply walk_is rfl rfl rfl
        · (intro wx hwx;(with_reducible apply gq_row1 ((R5.out) wx hwx));infer_instance;exact rfl;(first|exact EK.out|exact ES.out))
        · (simp only [zPu];rfl))
     | (apply walk_some (NewL w.heap.size (n+16) OUT) 52 (NewL.stable _ _ _) rfl rfl rfl rfl
        · (intro wx hwx;go_simp;with_reducible exact gives_callR (a3 wx hwx)))
     | (apply walk_is rfl rfl rfl
        · (intro wx hwx;first|((with_reducible show qGl);exact zK (hm.ext hwx))|(go_simp;(try go_bits);first|exact gives_same|exact gives_skip|with_reducible exact gives_call (a1 wx hwx)|with_reducible exact gives_call (a2 wx hwx)))
        · (simp only [zPu];rfl))
     | (apply walk_not rfl rfl rfl
        · (simp only [zPu];rfl)))
 intro wz hwz
 simp only [zZi]
 repeat rw [fin_is]
 rw [fin_cons];intro x52 hx52
 repeat rw [fin_is]
 rw [fin_nil];intro hap
 simp only [zPu]at hap⊢
 obtain⟨gj,oj,dj,cur,rfl,hgj,hrj,hsj⟩:=hx52
 clear hm a1 a2 a3 hap hx0 R5
 have hm:=hmA.push hwz hgj hrj
 clear hmA hwz hgj hrj
 have HSJ:=hid hsj
 clear hsj
 go_wp2_with fail
 go_ret2
 exact⟨_,[⟨gj,5,cur⟩],_,rfl,hm,HSJ.out⟩
end Go.Proofs.YtneacgpmjlocjaaGreatDoor
