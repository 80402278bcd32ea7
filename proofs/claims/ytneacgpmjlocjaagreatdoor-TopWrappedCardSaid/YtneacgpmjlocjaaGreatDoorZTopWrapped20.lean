/-
  Texts of the program, walked, and plain ones. Conditions: those written in each theorem.
-/
import Derived.Test.YtneacgpmjlocjaaGreatDoorZTopWrapped0
import Derived.Test.YtneacgpmjlocjaaGreatDoorZTopWrapped19
import Derived.Test.YtneacgpmjlocjaaGreatDoorZTopWrapped16
import Derived.Test.YtneacgpmjlocjaaGreatDoorZTopWrapped18
import Derived.Test.YtneacgpmjlocjaaGreatDoorZTopWrapped8
import Derived.Test.YtneacgpmjlocjaaGreatDoorZTopWrapped13
import Derived.Test.YtneacgpmjlocjaaGreatDoorZTopWrapped9
import Derived.Test.YtneacgpmjlocjaaGreatDoorZTopWrapped12
import Derived.Test.YtneacgpmjlocjaaGreatDoorZTopWrapped5
set_option linter.unusedSimpArgs false
set_option linter.unusedVariables false
set_option maxHeartbeats 16000000
open Go.Lib (hid)
namespace Go.Proofs.YtneacgpmjlocjaaGreatDoor
open Go Go.RowKit
set_option maxRecDepth 100000
def XorT(B n:Nat)(l:List Byte):Slot:=fun v w=>∃g,v= .slice (some ⟨g,0,none⟩) n n∧B≤g∧Row w g 5 (l.map v8)
theorem XorT.stable(B n:Nat)(l:List Byte):Stable (XorT B n l):=fun _ _ _ ⟨g,h1,h2,h3⟩ hx=>⟨g,h1,h2,row_ext h3 hx⟩
theorem xor_newT(B:Nat)(a b:List Byte)(p q:Option Addr)(c d:Nat)(w:World)(ha:RdB w p a)(hb:RdB w q b)(hla:a.length≤140737488355328)(hlb:b.length≤140737488355328)(hB:B≤w.heap.size):
   GivesR Tryz.prog 81 #[.slice p a.length c, .slice q b.length d] w (XorT B (xorL a b).length (xorL a b)):=by
 unfold GivesR
 have hn:=xorL_length a b
 generalize hN:(xorL a b).length=n at*
 have hx:Ext w (w.alloc (.cells ((zeros n).map v8).toArray 5)):=(Ext.refl w).alloc _
 have hrow:=row_new w 5 ((zeros n).map v8)
 have HN:=hid hN
 have Hn:=hid hn
 have hn1:n≤a.length:=by omega
 have hn2:n≤b.length:=by omega
 clear hN hn
 rcases Nat.lt_or_ge b.length a.length with hab|hab
 all_goals
   go_enter Tryz.func81,Tryz.ntmps81
   go_wp2_with (with_reducible show wpList _ _ _ _ _ _;refine make_b n rfl rfl rfl rfl (by have:=Hn.out;omega) (by have:=Hn.out;omega) (by omega) ?_)
   go_loopw [6,15] (fun _ i wr=>∃k:Nat,k≤n∧i= .int .i64 k∧Row wr w.heap.size 5 ((fillTo (xorL a b) k).map v8)∧Ext w wr) (fun _ i _=>n-(intOf i).toNat)
   case atStart=>exact⟨0,Nat.zero_le _,rfl,by rw [fillTo_zero,HN.out];exact hrow,hx⟩
   case round =>
     obtain⟨k,hk,rfl,hr,hxr⟩:=hrel
     by_cases hlt:k<n
     · have hka:k<a.length:=by omega
       have hkb:k<b.length:=by omega
       have hpa:=(ha.ext hxr).isSome k (by omega)
       have hpb:=(hb.ext hxr).isSome k (by omega)
       have hca:=fun wx (hwx:Ext wr wx)=>((ha.ext hxr).ext hwx).at k (by omega)
       have hcb:=fun wx (hwx:Ext wr wx)=>((hb.ext hxr).ext hwx).at k (by omega)
       have hset:=fillTo_set (xorL a b) k (by rw [HN.out];exact hlt)
       have e:a.getD k 0^^^b.getD k 0=a[k]^^^b[k]:=by simp [hka,hkb]
       rw [xorL_getD a b k (by rw [HN.out];exact hlt),e]at hset
       have Hset:=hid hset
       clear hset e
       go_wp2
       refine rgE 12 32 ?_
       simp only [zTa]
       repeat (first
           | (apply walk_is rfl rfl rfl
              · (intro wx hwx;go_simp;(try go_bits);first|exact gives_same|exact gives_skip)
              · (simp only [zPu];rfl))
           | (apply walk_not rfl rfl rfl
              · (simp only [zPu];rfl)))
       intro wz hwz
       simp only [zZi]
       repeat (first|rw [fin_is]|(rw [fin_cons];intro _ _))
       rw [fin_nil]
       try (replace hm:=hm.ext hwz)
       simp only [zPu]
       have hr':=row_ext hr hwz
       have hc:=row_v8 hr' k (by rw [fillTo_length _ _ (by rw [HN.out];omega),HN.out];exact hlt)
       have hf:=row_free hr' k
       have hrs:=row_set hr' k (v8 (a[k]^^^b[k]))
       rw [←List.map_set,Hset.out]at hrs
       have hxz:=ext_setCell (hxr.trans hwz) ⟨w.heap.size,k,none⟩ (v8 (a[k]^^^b[k])) (Nat.le_refl _)
       go_wp2
       go_roundw
       case rel=>exact⟨k+1,by omega,by go_num,hrs,hxz⟩
       case measure=>simp [intOf]<;>omega
     · obtain rfl:k=n:=by omega
       go_wp2
       go_ret
       have hr':Row wr w.heap.size 5 ((xorL a b).map v8):=by rw [←HN.out,fillTo_all]at hr;exact hr
       exact⟨_,rfl,⟨w.heap.size,rfl,hB,hr'⟩,hxr⟩
theorem rounds_le(n:Nat)(h1:1≤n)(h2:n≤31):8≤roundsN n∧roundsN n≤24:=by
 unfold roundsN
 rw [if_neg (by omega)]
 split
 · omega
 · split
   · omega
   · split<;>omega
theorem roundsI_nat(n:Nat):roundsI (n:Int)=(roundsN n:Int):=by
 unfold roundsI roundsN
 by_cases h:n<1∨31<n
 · rw [if_pos (by omega),if_pos h];rfl
 · rw [if_neg (by omega),if_neg h]
   by_cases h1:n=1
   · rw [if_pos (by omega),if_pos h1];rfl
   · rw [if_neg (by omega),if_neg h1]
     by_cases h2:n=2
     · rw [if_pos (by omega),if_pos h2];rfl
     · rw [if_neg (by omega),if_neg h2]
       by_cases h3:n<16
       · rw [if_pos (by omega),if_pos h3];rfl
       · rw [if_neg (by omega),if_neg h3];rfl
theorem tturn_fwd(g:Nat)(F:Int→Int→List Byte→List Byte)(hF:∀j m x,(F j m x).length=16)(ls:List (List Byte))(q:Option Addr)(d:Nat)(l:List Byte)(p:Option Addr)(c:Nat)(w0:World)(hr:RdR w0 q ls)(hrd:ls.length≤d)(hrm:ls.length≤70368744177000)(hrs:∀i,(ls.getD i []).length≤70368744177000)(hl:RdB w0 p l)(hlc:l.length≤c)(h1:1≤l.length)(h31:l.length≤31)
   (CE:∀wx,Ext w0 wx→∀(j m:Int)(x:List Byte),x.length=16→j≤9223372036854775807→m≤9223372036854775807→Gives Tryz.prog 98 #[.pointer (some ⟨g,0,none⟩), .int .i64 j, .int .i64 m,A8 x] wx (A8 (F j m x))):
   Calls Tryz.prog 95 #[.pointer (some ⟨g,0,none⟩), .slice q ls.length d, .slice p l.length c, .bool false] w0 fun e w'=>∃px cx,e= .returned (.tuple #[.slice px l.length cx, .int .i64 0])∧l.length≤cx∧RdB w' px (tinyL F (hashG F ls) false l)∧Ext w0 w':=by
 have hm:=Own.start w0
 have H1:=hid fun (wx:World)(hx:Ext w0 wx)=>hhash_any (.pointer (some ⟨g,0,none⟩)) rfl rfl F hF ls q d wx (hr.ext hx) hrd hrm hrs (fun wy hy j m x e1 e2 e3=>CE wy (hx.trans hy) j m x e1 e2 e3)
 obtain⟨H,hH⟩:∃H,H=hashG F ls:=⟨_,rfl⟩
 have lH:H.length=16:=by rw [hH];exact hashG_length F ls
 rw [←hH]at H1
 obtain⟨m,hm0⟩:∃m,m=l:=⟨_,rfl⟩
 have lm:m.length=l.length:=by rw [hm0]
 obtain⟨n,hn⟩:∃n,n=l.length:=⟨_,rfl⟩
 rw [←hn]at lm
 obtain⟨N,hN⟩:∃N,N=numN n:=⟨_,rfl⟩
 obtain⟨R,hR⟩:∃R,R=roundsN n:=⟨_,rfl⟩
 have R8:8≤R∧R≤24:=by rw [hR];exact rounds_le n (by omega) (by omega)
 obtain⟨RT,hRT⟩:∃RT,RT=rndsT (stepL F H N) (ordN false R) (pairT m):=⟨_,rfl⟩
 have HTW:=hid fun k=>show TwoN n (RT k)from by rw [hRT,←lm];exact rndsT_two _ (stepL_length F H N) (stepL_ok F H N) _ _ _ (pairT_two m) k
 have HST:=hid fun k=>show RT (k+1)=((RT k).2,xorL (RT k).1 (stepL F H N (ordN false R k) (RT k).2))from by rw [hRT];rfl
 have H00:=hid (show RT 0=(halvesL m 0 n,halvesL m n n)from by rw [hRT,←lm];rfl)
 obtain⟨J,hJ⟩:∃J,J=joinN ((RT R).2++(RT R).1):=⟨_,rfl⟩
 have lJ:J.length=n:=by rw [hJ,joinN_length,List.length_append,(HTW.out R).l,(HTW.out R).r];omega
 have eT:tinyL F (hashG F ls) false l=flipL F H J:=by
   rw [hJ,hRT,hN,hR,←lm,hm0,←hH];rfl
 rw [eT]
 have RC:=hid fun w=>show Calls Tryz.prog 111 #[.int .i64 (n:Int)] w fun e w'=>e= .returned (.int .i64 (R:Int))∧w'=w from by rw [hR,←roundsI_nat];exact rounds_any (n:Int) w
 have SC:=hid fun (B:Nat)(w:World)(r:List Byte)(gr:Nat)(j:Nat)(hx:Ext w0 w)(lr:r.length=n)(hj:j≤9223372036854775807)(hB:B≤w.heap.size)(hr:RdB w (some ⟨gr,0,none⟩) r)=>show GivesR Tryz.prog 114 #[.pointer (some ⟨g,0,none⟩),A8 H, .int .i64 N, .int .i64 (j:Int), .slice (some ⟨gr,0,none⟩) n n] w (XorT B n (stepL F H N j r))from by
   have N0:0≤N∧N≤9:=by rw [hN];unfold numN;split<;>omega
   have:=step_new g F hF H lH N N0.1 (by omega) j hj r (some ⟨gr,0,none⟩) n (by omega) w hr (fun wx h=>CE wx (hx.trans h))
   rw [lr]at this
   exact this.mono fun e w' ⟨k,e1,e2⟩=>⟨_,e1,⟨k,rfl,Nat.le_trans hB (e2.base .hd),e2.row .hd⟩,e2.x⟩
 have XC:=hid fun (B:Nat)(w:World)(a b:List Byte)(ga gb:Nat)(la:a.length=n)(lb:b.length=n)(hB:B≤w.heap.size)(ha:RdB w (some ⟨ga,0,none⟩) a)(hb:RdB w (some ⟨gb,0,none⟩) b)=>show GivesR Tryz.prog 81 #[.slice (some ⟨ga,0,none⟩) n n, .slice (some ⟨gb,0,none⟩) n n] w (XorT B n (xorL a b))from by
   have:=xor_newT B a b (some ⟨ga,0,none⟩) (some ⟨gb,0,none⟩) n n w ha hb (by omega) (by omega) hB
   rw [la,lb,show(xorL a b).length=n by rw [xorL_length,la,lb,Nat.min_self]]at this
   exact this
 have FC:=hid fun (w:World)(a:List Byte)(p:Option Addr)(c:Nat)(hx:Ext w0 w)(la:a.length=n)(ha:RdB w p a)=>show Calls Tryz.prog 112 #[.pointer (some ⟨g,0,none⟩),A8 H, .slice p n c] w fun e w'=>∃v M,e= .returned v∧SlO M 5 1 v n ((flipL F H a).map v8)∧Own w w' M from by
   have:=flip_sl g F hF H lH a p c (by omega) w ha (fun wx h=>CE wx (hx.trans h))
   rwa [la]at this
 have HC:=hid fun (w:World)(p:Option Addr)(c:Nat)(ha:RdB w p m)=>show Calls Tryz.prog 113 #[.slice p n c] w fun e w'=>∃g k,e= .returned (.agg ([.slice (some ⟨g,0,none⟩) n n, .slice (some ⟨k,0,none⟩) n n]:List Value).toArray)∧Own w w' [⟨k,5,(halvesL m n n).map v8⟩,⟨g,5,(halvesL m 0 n).map v8⟩]from by
   have:=halves_pair m p c (by omega) w ha
   rwa [lm]at this
 have JC:=hid fun (w:World) p2 n2 c2 (h:RdB w p2 ((RT R).2++(RT R).1)∧n2=((RT R).2++(RT R).1).length∧n2≤c2)=>show Calls Tryz.prog 115 #[.slice p2 n2 c2] w fun e w'=>∃g,e= .returned (.slice (some ⟨g,0,none⟩) n n)∧Own w w' [⟨g,5,J.map v8⟩]from by
   have hl2:(((RT R).2++(RT R).1).length+1)/2=n:=by rw [List.length_append,(HTW.out R).l,(HTW.out R).r];omega
   have:=join_new ((RT R).2++(RT R).1) p2 c2 (by rw [List.length_append,(HTW.out R).l,(HTW.out R).r];omega) w h.1
   rw [hl2,←hJ]at this
   rw [h.2.1]
   exact this
 have HL:=hid hl
 have HM0:=hid hm0
 have HN:=hid hN
 have HNL:=hid hn.symm
 clear hH hR hRT hJ eT CE hF hr hm0 hl hN
 rw [←hn]at hlc h1 h31⊢
 clear hn
 have a1:((n:Int)==0)=false:=by rw [beq_eq_false_iff_ne];omega
 have a2:¬(n:Int)=0:=by omega
 have a3:decide ((31:Int)<(n:Int))=false:=decide_eq_false (by omega)
 have a4:¬(31:Int)<(n:Int):=by omega
 have a5:decide ((n:Int)>31)=false:=decide_eq_false (by omega)
 go_enter Tryz.func95,Tryz.ntmps95
 go_wp2_with fail
 refine wp_scope_goto 0 (fun a_ w_=>∃(k gl gr gB gh cm jj:Nat)(pm:Option Addr)(u1 u4 u5 u6 u7 u15 u16 u17 u18 u19 u20 u21 u22 u23 u24 u25 u26 u27 u28 u29 u30 u31 u32 u33 u34 u35 u36 u37 u38 u39 u40 u41 u42 u43 u44 u45 u46 u47 u48 u49 u50 u51 u52 u53 u54 u55 u56 u57 u58 u59 u60 u61 u62 u63 u64 u65 u66 u67 u68 u69 u70 u71 u72 u73 u74 u75 u76 u77 u78 u79 u80 u81 u82:Value),a_={tmps:= #[(.pointer (some ⟨g,0,none⟩)),u1,(.slice pm n cm),(.bool false),u4,u5,u6,u7,(.slice none 0 0),(.int .i64 0),(.pointer (some ⟨gh,0,none⟩)),(.int .i64 N),(.int .i64 (jj:Int)),(.int .i64 (1)),(.pointer (some ⟨gB,0,none⟩)),u15,u16,u17,u18,u19,u20,u21,u22,u23,u24,u25,u26,u27,u28,u29,u30,u31,u32,u33,u34,u35,u36,u37,u38,u39,u40,u41,u42,u43,u44,u45,u46,u47,u48,u49,u50,u51,u52,u53,u54,u55,u56,u57,u58,u59,u60,u61,u62,u63,u64,u65,u66,u67,u68,u69,u70,u71,u72,u73,u74,u75,u76,u77,u78,u79,u80,u81,u82],defers:=[]}∧k<R∧jj=ordN false R k∧Own w0 w_ [⟨gB,197,[.slice (some ⟨gl,0,none⟩) n n, .slice (some ⟨gr,0,none⟩) n n]⟩,⟨gl,5,(RT k).1.map v8⟩,⟨gr,5,(RT k).2.map v8⟩,⟨gh,132,H.map v8⟩]) (fun a_ _=>R-(intOf (a_.tmps.getD 12 undef)).toNat) rfl ?_ ?_
 · clear hm
   have key_:∀(P_:Act→World→Prop),(∀(w_:World)(k gl gr gB gh cm jj:Nat)(pm:Option Addr)(u1 u4 u5 u6 u7 u15 u16 u17 u18 u19 u20 u21 u22 u23 u24 u25 u26 u27 u28 u29 u30 u31 u32 u33 u34 u35 u36 u37 u38 u39 u40 u41 u42 u43 u44 u45 u46 u47 u48 u49 u50 u51 u52 u53 u54 u55 u56 u57 u58 u59 u60 u61 u62 u63 u64 u65 u66 u67 u68 u69 u70 u71 u72 u73 u74 u75 u76 u77 u78 u79 u80 u81 u82:Value),k<R∧jj=ordN false R k∧Own w0 w_ [⟨gB,197,[.slice (some ⟨gl,0,none⟩) n n, .slice (some ⟨gr,0,none⟩) n n]⟩,⟨gl,5,(RT k).1.map v8⟩,⟨gr,5,(RT k).2.map v8⟩,⟨gh,132,H.map v8⟩]→P_ {tmps:= #[(.pointer (some ⟨g,0,none⟩)),u1,(.slice pm n cm),(.bool false),u4,u5,u6,u7,(.slice none 0 0),(.int .i64 0),(.pointer (some ⟨gh,0,none⟩)),(.int .i64 N),(.int .i64 (jj:Int)),(.int .i64 (1)),(.pointer (some ⟨gB,0,none⟩)),u15,u16,u17,u18,u19,u20,u21,u22,u23,u24,u25,u26,u27,u28,u29,u30,u31,u32,u33,u34,u35,u36,u37,u38,u39,u40,u41,u42,u43,u44,u45,u46,u47,u48,u49,u50,u51,u52,u53,u54,u55,u56,u57,u58,u59,u60,u61,u62,u63,u64,u65,u66,u67,u68,u69,u70,u71,u72,u73,u74,u75,u76,u77,u78,u79,u80,u81,u82],defers:=[]} w_)→∀(a_:Act)(w_:World),(∃(k gl gr gB gh cm jj:Nat)(pm:Option Addr)(u1 u4 u5 u6 u7 u15 u16 u17 u18 u19 u20 u21 u22 u23 u24 u25 u26 u27 u28 u29 u30 u31 u32 u33 u34 u35 u36 u37 u38 u39 u40 u41 u42 u43 u44 u45 u46 u47 u48 u49 u50 u51 u52 u53 u54 u55 u56 u57 u58 u59 u60 u61 u62 u63 u64 u65 u66 u67 u68 u69 u70 u71 u72 u73 u74 u75 u76 u77 u78 u79 u80 u81 u82:Value),a_={tmps:= #[(.pointer (some ⟨g,0,none⟩)),u1,(.slice pm n cm),(.bool false),u4,u5,u6,u7,(.slice none 0 0),(.int .i64 0),(.pointer (some ⟨gh,0,none⟩)),(.int .i64 N),(.int .i64 (jj:Int)),(.int .i64 (1)),(.pointer (some ⟨gB,0,none⟩)),u15,u16,u17,u18,u19,u20,u21,u22,u23,u24,u25,u26,u27,u28,u29,u30,u31,u32,u33,u34,u35,u36,u37,u38,u39,u40,u41,u42,u43,u44,u45,u46,u47,u48,u49,u50,u51,u52,u53,u54,u55,u56,u57,u58,u59,u60,u61,u62,u63,u64,u65,u66,u67,u68,u69,u70,u71,u72,u73,u74,u75,u76,u77,u78,u79,u80,u81,u82],defers:=[]}∧k<R∧jj=ordN false R k∧Own w0 w_ [⟨gB,197,[.slice (some ⟨gl,0,none⟩) n n, .slice (some ⟨gr,0,none⟩) n n]⟩,⟨gl,5,(RT k).1.map v8⟩,⟨gr,5,(RT k).2.map v8⟩,⟨gh,132,H.map v8⟩])→P_ a_ w_:=
     fun P_ h_ a_ w_ z=>z.elim fun k z=>z.elim fun gl z=>z.elim fun gr z=>z.elim fun gB z=>z.elim fun gh z=>z.elim fun cm z=>z.elim fun jj z=>z.elim fun pm z=>z.elim fun u1 z=>z.elim fun u4 z=>z.elim fun u5 z=>z.elim fun u6 z=>z.elim fun u7 z=>z.elim fun u15 z=>z.elim fun u16 z=>z.elim fun u17 z=>z.elim fun u18 z=>z.elim fun u19 z=>z.elim fun u20 z=>z.elim fun u21 z=>z.elim fun u22 z=>z.elim fun u23 z=>z.elim fun u24 z=>z.elim fun u25 z=>z.elim fun u26 z=>z.elim fun u27 z=>z.elim fun u28 z=>z.elim fun u29 z=>z.elim fun u30 z=>z.elim fun u31 z=>z.elim fun u32 z=>z.elim fun u33 z=>z.elim fun u34 z=>z.elim fun u35 z=>z.elim fun u36 z=>z.elim fun u37 z=>z.elim fun u38 z=>z.elim fun u39 z=>z.elim fun u40 z=>z.elim fun u41 z=>z.elim fun u42 z=>z.elim fun u43 z=>z.elim fun u44 z=>z.elim fun u45 z=>z.elim fun u46 z=>z.elim fun u47 z=>z.elim fun u48 z=>z.elim fun u49 z=>z.elim fun u50 z=>z.elim fun u51 z=>z.elim fun u52 z=>z.elim fun u53 z=>z.elim fun u54 z=>z.elim fun u55 z=>z.elim fun u56 z=>z.elim fun u57 z=>z.elim fun u58 z=>z.elim fun u59 z=>z.elim fun u60 z=>z.elim fun u61 z=>z.elim fun u62 z=>z.elim fun u63 z=>z.elim fun u64 z=>z.elim fun u65 z=>z.elim fun u66 z=>z.elim fun u67 z=>z.elim fun u68 z=>z.elim fun u69 z=>z.elim fun u70 z=>z.elim fun u71 z=>z.elim fun u72 z=>z.elim fun u73 z=>z.elim fun u74 z=>z.elim fun u75 z=>z.elim fun u76 z=>z.elim fun u77 z=>z.elim fun u78 z=>z.elim fun u79 z=>z.elim fun u80 z=>z.elim fun u81 z=>z.elim fun u82 z=>Eq.subst (motive:=fun z_=>P_ z_ w_) z.1.symm (h_ w_ k gl gr gB gh cm jj pm u1 u4 u5 u6 u7 u15 u16 u17 u18 u19 u20 u21 u22 u23 u24 u25 u26 u27 u28 u29 u30 u31 u32 u33 u34 u35 u36 u37 u38 u39 u40 u41 u42 u43 u44 u45 u46 u47 u48 u49 u50 u51 u52 u53 u54 u55 u56 u57 u58 u59 u60 u61 u62 u63 u64 u65 u66 u67 u68 u69 u70 u71 u72 u73 u74 u75 u76 u77 u78 u79 u80 u81 u82 z.2)
   refine key_ _ ?_
   clear key_
   intro w k gl gr gB gh cm jj pm u1 u4 u5 u6 u7 u15 u16 u17 u18 u19 u20 u21 u22 u23 u24 u25 u26 u27 u28 u29 u30 u31 u32 u33 u34 u35 u36 u37 u38 u39 u40 u41 u42 u43 u44 u45 u46 u47 u48 u49 u50 u51 u52 u53 u54 u55 u56 u57 u58 u59 u60 u61 u62 u63 u64 u65 u66 u67 u68 u69 u70 u71 u72 u73 u74 u75 u76 u77 u78 u79 u80 u81 u82
   rintro ⟨hk,hjj,hm⟩
   have TW:=HTW.out k
   have ST:=HST.out k
   have l1:=TW.l
   have l2:=TW.r
   clear TW
   have TW:=HTW.out (k+1)
   rw [ST]at TW
   have l3:(xorL (RT k).1 (stepL F H N (ordN false R k) (RT k).2)).length=n:=TW.r
   clear TW
   have l4:(stepL F H N jj (RT k).2).length=n:=(stepL_length F H N jj _).trans l2
   rw [←hjj]at ST l3
   have j63:jj≤9223372036854775807:=by rw [hjj];unfold ordN;split<;>omega
   have HJJ:=hid hjj
   have XC1:=hid fun (B:Nat)(w:World)(ga gb:Nat) hB ha hb=>XC.out B w (RT k).1 (stepL F H N jj (RT k).2) ga gb l1 l4 hB ha hb
   have SC1:=hid fun (B:Nat)(w:World)(gr:Nat) hx hB hr=>SC.out B w (RT k).2 gr jj hx l2 j63 hB hr
   have STH:=hid ST
   clear hjj ST l4
   generalize hX:xorL (RT k).1 (stepL F H N jj (RT k).2)=X at*
   generalize stepL F H N jj (RT k).2=SV at*
   generalize (RT k).1=LL at*
   generalize (RT k).2=RR at*
   clear hX
   go_wp2_with fail
   have hx0:=hm.x
   have c1:=fun wx (hwx:Ext w wx)=>SC1.out w.heap.size wx gr (hx0.trans hwx) hwx.size ((hm.ext hwx).rdB (g:=gr) (l:=RR) (by repeat (first|exact Has.hd|assumption|apply Has.tl|apply Has.app)))
   have c2:=fun wx (hwx:Ext w wx) g' hr'=>XC1.out w.heap.size wx gl g' hwx.size ((hm.ext hwx).rdB (g:=gl) (l:=LL) (by repeat (first|exact Has.hd|assumption|apply Has.tl|apply Has.app))) hr'
   refine region_new 13 (fun w'=>Ext _ w') 83 (by kernel_rfl) (by kernel_rfl) rfl (fun _ _ h k=>h.trans k) (drew_ext _) ?_
   simp only [zTa]
   repeat (first
       | (apply walk_some (XorT w.heap.size n SV) 54 (XorT.stable _ _ _) rfl rfl rfl rfl
          · (intro wx hwx;go_simp;with_reducible exact gives_callR (c1 wx hwx)))
       | (apply walk_from_some (T:=[(54,XorT w.heap.size n SV)]) (XorT w.heap.size n X) 55 (XorT.stable _ _ _) rfl rfl rfl
          · (intro wx hwx;simp only [withS];(rintro x_ ⟨g',rfl,hB',hr'⟩);refine⟨rfl, ?_⟩;go_simp;with_reducible exact gives_callR (c2 wx hwx g' (RdB.of_row hr'))))
       | (apply walk_is rfl rfl rfl
          · (intro wx hwx;first|((with_reducible show qGl);first|(exact zK (hm.ext hwx))|(exact zL (hm.ext hwx)))|(go_simp;(try go_bits);first|exact gives_same|exact gives_skip))
          · (simp only [zPu];rfl))
       | (apply walk_not rfl rfl rfl
          · (simp only [zPu];rfl)))
   intro wz hwz
   simp only [zZi]
   repeat rw [fin_is]
   rw [fin_cons];intro x54 hx54
   repeat rw [fin_is]
   rw [fin_cons];intro x55 hx55
   repeat rw [fin_is]
   rw [fin_nil];intro hap
   simp only [zPu]at hap⊢
   obtain⟨gs,rfl,_,_⟩:=hx54
   obtain⟨gx,rfl,bX,rX⟩:=hx55
   replace hm:=hm.push hwz bX rX
   clear c1 c2 hap hx0 bX rX
   obtain⟨w',rfl⟩:∃w',w'=wz:=⟨_,rfl⟩
   have hjk:jj=k:=HJJ.out
   have x1:(jj:Int)+1=((k+1:Nat):Int):=by omega
   generalize hk1:k+1=k1 at*
   have y1:decide ((k1:Int)≥0)=true:=decide_eq_true (by omega)
   have y2:decide ((0:Int)≤(k1:Int))=true:=decide_eq_true (by omega)
   have y3:(0:Int)≤(k1:Int):=by omega
   by_cases hlt:k1<R
   · have z1:decide ((k1:Int)<(R:Int))=true:=decide_eq_true (by omega)
     have z2:(k1:Int)<(R:Int):=by omega
     go_wp2_with (first|((with_reducible show qSt);(with_reducible apply wq_stfT (v:= .slice (some ⟨gr,0,none⟩) n n) hm);exact rfl;infer_instance;exact rfl;exact rfl;exact rfl;exact rfl;(focus ((repeat (first|exact .hd|apply Swap.tl|apply Swap.app|apply Swap.app));done));exact rfl;(exact(show _<2 from by omega));clear hm;intro w hm)|((with_reducible show qSt);(with_reducible apply wq_stfT (v:= .slice (some ⟨gx,0,none⟩) n n) hm);exact rfl;infer_instance;exact rfl;exact rfl;exact rfl;exact rfl;(focus ((repeat (first|exact .hd|apply Swap.tl|apply Swap.app|apply Swap.app));done));exact rfl;(exact(show _<2 from by omega));clear hm;intro w hm)|(go_at_call 111;(with_reducible refine(RC.out _).mono ?_);rintro e_ w_ ⟨rfl,rfl⟩))
     have hm2:=own_subT (M:=⟨gx,5,X.map v8⟩::([⟨gB,197,[.slice (some ⟨gr,0,none⟩) n n, .slice (some ⟨gx,0,none⟩) n n]⟩,⟨gr,5,RR.map v8⟩]++[⟨gh,132,H.map v8⟩])) hm (by repeat (first|exact List.Sublist.refl _|exact List.nil_sublist _|apply List.Sublist.cons_cons|apply List.Sublist.cons))
     have hm3:=hm2.perm List.perm_middle.symm
     go_step3
     exact⟨rfl,⟨_,_,_,_,_,_,_,_,_,_,_,_,_,_,_,_,_,_,_,_,_,_,_,_,_,_,_,_,_,_,_,_,_,_,_,_,_,_,_,_,_,_,_,_,_,_,_,_,_,_,_,_,_,_,_,_,_,_,_,_,_,_,_,_,_,_,_,_,_,_,_,_,_,_,_,_,_,_,_,_,_,rfl,⟨hlt,by show k+1=k1;exact hk1,by rw [STH.out];exact hm3⟩⟩,by simp [intOf];omega⟩
   · obtain rfl:k1=R:=by omega
     have z1:decide ((k1:Int)<(k1:Int))=false:=decide_eq_false (by omega)
     have z2:¬(k1:Int)<(k1:Int):=by omega
     have FIT:=hid (show(n+n)*(1+1)≤140737488355328 by omega)
     have LR:=hid (show(RR.map v8).length=n*1 by rw [List.length_map,l2,Nat.mul_one])
     have SX:=hid (SlO.whole gx 5 1 n (X.map v8) (by rw [List.length_map,l3,Nat.mul_one]) (by unfold maxLen;omega))
     go_wp2_with (first|((with_reducible show qSt);(with_reducible apply wq_stfT (v:= .slice (some ⟨gr,0,none⟩) n n) hm);exact rfl;infer_instance;exact rfl;exact rfl;exact rfl;exact rfl;(focus ((repeat (first|exact .hd|apply Swap.tl|apply Swap.app|apply Swap.app));done));exact rfl;(exact(show _<2 from by omega));clear hm;intro w hm)|((with_reducible show qSt);(with_reducible apply wq_stfT (v:= .slice (some ⟨gx,0,none⟩) n n) hm);exact rfl;infer_instance;exact rfl;exact rfl;exact rfl;exact rfl;(focus ((repeat (first|exact .hd|apply Swap.tl|apply Swap.app|apply Swap.app));done));exact rfl;(exact(show _<2 from by omega));clear hm;intro w hm)|(go_at_call 111;(with_reducible refine(RC.out _).mono ?_);rintro e_ w_ ⟨rfl,rfl⟩)|((with_reducible show wpList _ _ _ (Oper.mk _ (Op.call _) _ _ _ _::_) _ _);refine wplO_app (M:=[⟨gx,5,X.map v8⟩]) (R:=_) (ds:=RR.map v8) hm SX.out rfl rfl rfl rfl Tryz.underlying22 LR.out (cellsB (hm.rdB (g:=gr) (l:=RR) (by repeat (first|exact Has.hd|assumption|apply Has.tl|apply Has.app)))) (one_map _) FIT.out ?_;clear hm;intro v2 w M2 hm hs2;obtain⟨p_v2,c_v2,rfl⟩:=hs2.form)|((with_reducible show qLd);refine zC hm ?_))
     rw [←List.map_append]at hs2
     have eRT:=STH.out
     have e2:(RT k1).2++(RT k1).1=X++RR:=by rw [eRT]
     have JC1:=JC.out
     rw [e2]at JC1
     have hr2:=slo_bytes hs2 hm
     refine(JC1 _ _ _ _ hr2).mono ?_
     rintro e w ⟨gj,rfl,hmM⟩
     have hm2:=Own.join hm.dropN hmM
     clear hm hmM hr2 hs2 JC1 e2 eRT
     simp only [List.cons_append,List.nil_append]at hm2
     have hm:=hm2
     clear hm2
     go_wp2_with (first|((with_reducible show qLd);refine zB hm ?_))
     refine(FC.out _ J _ _ hm.x lJ (hm.rdB (g:=gj) (l:=J) (by repeat (first|exact Has.hd|assumption|apply Has.tl|apply Has.app)))).mono ?_
     rintro e w ⟨v5,M5,rfl,hs5,hmM⟩
     obtain⟨p5,c5,rfl⟩:=hs5.form
     have hr5:=hid (slo_bytes (R:=[]) hs5 (by simpa using hmM))
     have hx5:=hm.x.trans hmM.x
     clear hm hmM hs5
     go_wp2_with fail
     try simp only [Exit.jump]
     go_ret2
     exact⟨p5,c5,rfl,hr5.out.2.2,hr5.out.1,hx5⟩
 · intro hp
   by_cases h16:n<16
   · obtain rfl:N=7:=by rw [HN.out];exact if_pos h16
     have b1:decide ((16:Int)≤(n:Int))=false:=decide_eq_false (by omega)
     have b2:¬(16:Int)≤(n:Int):=by omega
     have b3:decide ((n:Int)≥16)=false:=decide_eq_false (by omega)
     have HJ0:=hid (show(0:Nat)=ordN false R 0 from rfl)
     go_wp2_with (first|(go_at_call 97;(with_reducible refine(H1.out _ hm.x).mono ?_);rintro e_ w ⟨rfl,hx_⟩;replace hm:=hm.ext hx_;clear hx_)|((with_reducible show qSt);refine zE hm ?_;clear hm;intro w hm)|(((with_reducible show qAl);refine zG hm ?_);clear hm;intro gx_;intro w hm))
     refine(HC.out _ p c (HM0.out ▸ HL.out.ext hm.x)).mono ?_
     rintro e w ⟨gl,gr,rfl,hmM⟩
     have hm2:=Own.join hm hmM
     clear hm hmM
     simp only [List.cons_append,List.nil_append]at hm2
     have hm:=hm2
     clear hm2
     go_wp2_with (first|((with_reducible show wpList _ _ _ (Oper.mk _ (Op.store 197 _ _) _ _ _ _::_) _ _);(with_reducible apply wq_stW (cs':=[.slice (some ⟨gl,0,none⟩) n n, .slice (some ⟨gr,0,none⟩) n n]) hm);exact rfl;infer_instance;exact rfl;exact rfl;(focus ((repeat (first|exact .hd|apply Swap.tl|apply Swap.app|apply Swap.app));done));exact rfl;exact rfl;(exact two_one);clear hm;intro w hm)|(((with_reducible show qAl);refine zG hm ?_);clear hm;intro gx_;intro w hm))
     have hm3:=hm.perm (((List.Perm.swap _ _ _).cons _))
     go_step3
     rename_i hK
     exact hK _ _ (hp _ _ ⟨_,_,_,_,_,_,_,_,_,_,_,_,_,_,_,_,_,_,_,_,_,_,_,_,_,_,_,_,_,_,_,_,_,_,_,_,_,_,_,_,_,_,_,_,_,_,_,_,_,_,_,_,_,_,_,_,_,_,_,_,_,_,_,_,_,_,_,_,_,_,_,_,_,_,_,_,_,_,_,_,_,rfl,⟨(show 0<R from by omega),HJ0.out,(by rw [H00.out];exact hm3)⟩⟩)
   · obtain rfl:N=6:=by rw [HN.out];exact if_neg h16
     have b1:decide ((16:Int)≤(n:Int))=true:=decide_eq_true (by omega)
     have b2:(16:Int)≤(n:Int):=by omega
     have b3:decide ((n:Int)≥16)=true:=decide_eq_true (by omega)
     have HJ0:=hid (show(0:Nat)=ordN false R 0 from rfl)
     go_wp2_with (first|(go_at_call 97;(with_reducible refine(H1.out _ hm.x).mono ?_);rintro e_ w ⟨rfl,hx_⟩;replace hm:=hm.ext hx_;clear hx_)|((with_reducible show qSt);refine zE hm ?_;clear hm;intro w hm)|(((with_reducible show qAl);refine zG hm ?_);clear hm;intro gx_;intro w hm))
     refine(HC.out _ p c (HM0.out ▸ HL.out.ext hm.x)).mono ?_
     rintro e w ⟨gl,gr,rfl,hmM⟩
     have hm2:=Own.join hm hmM
     clear hm hmM
     simp only [List.cons_append,List.nil_append]at hm2
     have hm:=hm2
     clear hm2
     go_wp2_with (first|((with_reducible show wpList _ _ _ (Oper.mk _ (Op.store 197 _ _) _ _ _ _::_) _ _);(with_reducible apply wq_stW (cs':=[.slice (some ⟨gl,0,none⟩) n n, .slice (some ⟨gr,0,none⟩) n n]) hm);exact rfl;infer_instance;exact rfl;exact rfl;(focus ((repeat (first|exact .hd|apply Swap.tl|apply Swap.app|apply Swap.app));done));exact rfl;exact rfl;(exact two_one);clear hm;intro w hm)|(((with_reducible show qAl);refine zG hm ?_);clear hm;intro gx_;intro w hm))
     have hm3:=hm.perm (((List.Perm.swap _ _ _).cons _))
     go_step3
     rename_i hK
     exact hK _ _ (hp _ _ ⟨_,_,_,_,_,_,_,_,_,_,_,_,_,_,_,_,_,_,_,_,_,_,_,_,_,_,_,_,_,_,_,_,_,_,_,_,_,_,_,_,_,_,_,_,_,_,_,_,_,_,_,_,_,_,_,_,_,_,_,_,_,_,_,_,_,_,_,_,_,_,_,_,_,_,_,_,_,_,_,_,_,rfl,⟨(show 0<R from by omega),HJ0.out,(by rw [H00.out];exact hm3)⟩⟩)
theorem tturn_back(g:Nat)(F:Int→Int→List Byte→List Byte)(hF:∀j m x,(F j m x).length=16)(ls:List (List Byte))(q:Option Addr)(d:Nat)(l:List Byte)(p:Option Addr)(c:Nat)(w0:World)(hr:RdR w0 q ls)(hrd:ls.length≤d)(hrm:ls.length≤70368744177000)(hrs:∀i,(ls.getD i []).length≤70368744177000)(hl:RdB w0 p l)(hlc:l.length≤c)(h1:1≤l.length)(h31:l.length≤31)
   (CE:∀wx,Ext w0 wx→∀(j m:Int)(x:List Byte),x.length=16→j≤9223372036854775807→m≤9223372036854775807→Gives Tryz.prog 98 #[.pointer (some ⟨g,0,none⟩), .int .i64 j, .int .i64 m,A8 x] wx (A8 (F j m x))):
   Calls Tryz.prog 95 #[.pointer (some ⟨g,0,none⟩), .slice q ls.length d, .slice p l.length c, .bool true] w0 fun e w'=>∃px cx,e= .returned (.tuple #[.slice px l.length cx, .int .i64 0])∧l.length≤cx∧RdB w' px (tinyL F (hashG F ls) true l)∧Ext w0 w':=by
 have hm:=Own.start w0
 have H1:=hid fun (wx:World)(hx:Ext w0 wx)=>hhash_any (.pointer (some ⟨g,0,none⟩)) rfl rfl F hF ls q d wx (hr.ext hx) hrd hrm hrs (fun wy hy j m x e1 e2 e3=>CE wy (hx.trans hy) j m x e1 e2 e3)
 obtain⟨H,hH⟩:∃H,H=hashG F ls:=⟨_,rfl⟩
 have lH:H.length=16:=by rw [hH];exact hashG_length F ls
 rw [←hH]at H1
 obtain⟨m,hm0⟩:∃m,m=flipL F H l:=⟨_,rfl⟩
 have lm:m.length=l.length:=by rw [hm0];exact flipL_length F H l
 obtain⟨n,hn⟩:∃n,n=l.length:=⟨_,rfl⟩
 rw [←hn]at lm
 obtain⟨N,hN⟩:∃N,N=numN n:=⟨_,rfl⟩
 obtain⟨R,hR⟩:∃R,R=roundsN n:=⟨_,rfl⟩
 have R8:8≤R∧R≤24:=by rw [hR];exact rounds_le n (by omega) (by omega)
 obtain⟨RT,hRT⟩:∃RT,RT=rndsT (stepL F H N) (ordN true R) (pairT m):=⟨_,rfl⟩
 have HTW:=hid fun k=>show TwoN n (RT k)from by rw [hRT,←lm];exact rndsT_two _ (stepL_length F H N) (stepL_ok F H N) _ _ _ (pairT_two m) k
 have HST:=hid fun k=>show RT (k+1)=((RT k).2,xorL (RT k).1 (stepL F H N (ordN true R k) (RT k).2))from by rw [hRT];rfl
 have H00:=hid (show RT 0=(halvesL m 0 n,halvesL m n n)from by rw [hRT,←lm];rfl)
 obtain⟨J,hJ⟩:∃J,J=joinN ((RT R).2++(RT R).1):=⟨_,rfl⟩
 have lJ:J.length=n:=by rw [hJ,joinN_length,List.length_append,(HTW.out R).l,(HTW.out R).r];omega
 have eT:tinyL F (hashG F ls) true l=J:=by
   rw [hJ,hRT,hN,hR,←lm,hm0,←hH];rfl
 rw [eT]
 have RC:=hid fun w=>show Calls Tryz.prog 111 #[.int .i64 (n:Int)] w fun e w'=>e= .returned (.int .i64 (R:Int))∧w'=w from by rw [hR,←roundsI_nat];exact rounds_any (n:Int) w
 have SC:=hid fun (B:Nat)(w:World)(r:List Byte)(gr:Nat)(j:Nat)(hx:Ext w0 w)(lr:r.length=n)(hj:j≤9223372036854775807)(hB:B≤w.heap.size)(hr:RdB w (some ⟨gr,0,none⟩) r)=>show GivesR Tryz.prog 114 #[.pointer (some ⟨g,0,none⟩),A8 H, .int .i64 N, .int .i64 (j:Int), .slice (some ⟨gr,0,none⟩) n n] w (XorT B n (stepL F H N j r))from by
   have N0:0≤N∧N≤9:=by rw [hN];unfold numN;split<;>omega
   have:=step_new g F hF H lH N N0.1 (by omega) j hj r (some ⟨gr,0,none⟩) n (by omega) w hr (fun wx h=>CE wx (hx.trans h))
   rw [lr]at this
   exact this.mono fun e w' ⟨k,e1,e2⟩=>⟨_,e1,⟨k,rfl,Nat.le_trans hB (e2.base .hd),e2.row .hd⟩,e2.x⟩
 have XC:=hid fun (B:Nat)(w:World)(a b:List Byte)(ga gb:Nat)(la:a.length=n)(lb:b.length=n)(hB:B≤w.heap.size)(ha:RdB w (some ⟨ga,0,none⟩) a)(hb:RdB w (some ⟨gb,0,none⟩) b)=>show GivesR Tryz.prog 81 #[.slice (some ⟨ga,0,none⟩) n n, .slice (some ⟨gb,0,none⟩) n n] w (XorT B n (xorL a b))from by
   have:=xor_newT B a b (some ⟨ga,0,none⟩) (some ⟨gb,0,none⟩) n n w ha hb (by omega) (by omega) hB
   rw [la,lb,show(xorL a b).length=n by rw [xorL_length,la,lb,Nat.min_self]]at this
   exact this
 have FC:=hid fun (w:World)(a:List Byte)(p:Option Addr)(c:Nat)(hx:Ext w0 w)(la:a.length=n)(ha:RdB w p a)=>show Calls Tryz.prog 112 #[.pointer (some ⟨g,0,none⟩),A8 H, .slice p n c] w fun e w'=>∃v M,e= .returned v∧SlO M 5 1 v n ((flipL F H a).map v8)∧Own w w' M from by
   have:=flip_sl g F hF H lH a p c (by omega) w ha (fun wx h=>CE wx (hx.trans h))
   rwa [la]at this
 have HC:=hid fun (w:World)(p:Option Addr)(c:Nat)(ha:RdB w p m)=>show Calls Tryz.prog 113 #[.slice p n c] w fun e w'=>∃g k,e= .returned (.agg ([.slice (some ⟨g,0,none⟩) n n, .slice (some ⟨k,0,none⟩) n n]:List Value).toArray)∧Own w w' [⟨k,5,(halvesL m n n).map v8⟩,⟨g,5,(halvesL m 0 n).map v8⟩]from by
   have:=halves_pair m p c (by omega) w ha
   rwa [lm]at this
 have JC:=hid fun (w:World) p2 n2 c2 (h:RdB w p2 ((RT R).2++(RT R).1)∧n2=((RT R).2++(RT R).1).length∧n2≤c2)=>show Calls Tryz.prog 115 #[.slice p2 n2 c2] w fun e w'=>∃g,e= .returned (.slice (some ⟨g,0,none⟩) n n)∧Own w w' [⟨g,5,J.map v8⟩]from by
   have hl2:(((RT R).2++(RT R).1).length+1)/2=n:=by rw [List.length_append,(HTW.out R).l,(HTW.out R).r];omega
   have:=join_new ((RT R).2++(RT R).1) p2 c2 (by rw [List.length_append,(HTW.out R).l,(HTW.out R).r];omega) w h.1
   rw [hl2,←hJ]at this
   rw [h.2.1]
   exact this
 have HL:=hid hl
 have HM0:=hid hm0
 have HN:=hid hN
 have HNL:=hid hn.symm
 clear hH hR hRT hJ eT CE hF hr hm0 hl hN
 rw [←hn]at hlc h1 h31⊢
 clear hn
 have a1:((n:Int)==0)=false:=by rw [beq_eq_false_iff_ne];omega
 have a2:¬(n:Int)=0:=by omega
 have a3:decide ((31:Int)<(n:Int))=false:=decide_eq_false (by omega)
 have a4:¬(31:Int)<(n:Int):=by omega
 have a5:decide ((n:Int)>31)=false:=decide_eq_false (by omega)
 go_enter Tryz.func95,Tryz.ntmps95
 go_wp2_with fail
 refine wp_scope_goto 0 (fun a_ w_=>∃(k gl gr gB gh cm jj:Nat)(pm:Option Addr)(u1 u4 u5 u6 u7 u15 u16 u17 u18 u19 u20 u21 u22 u23 u24 u25 u26 u27 u28 u29 u30 u31 u32 u33 u34 u35 u36 u37 u38 u39 u40 u41 u42 u43 u44 u45 u46 u47 u48 u49 u50 u51 u52 u53 u54 u55 u56 u57 u58 u59 u60 u61 u62 u63 u64 u65 u66 u67 u68 u69 u70 u71 u72 u73 u74 u75 u76 u77 u78 u79 u80 u81 u82:Value),a_={tmps:= #[(.pointer (some ⟨g,0,none⟩)),u1,(.slice pm n cm),(.bool true),u4,u5,u6,u7,(.slice none 0 0),(.int .i64 0),(.pointer (some ⟨gh,0,none⟩)),(.int .i64 N),(.int .i64 (jj:Int)),(.int .i64 (-1)),(.pointer (some ⟨gB,0,none⟩)),u15,u16,u17,u18,u19,u20,u21,u22,u23,u24,u25,u26,u27,u28,u29,u30,u31,u32,u33,u34,u35,u36,u37,u38,u39,u40,u41,u42,u43,u44,u45,u46,u47,u48,u49,u50,u51,u52,u53,u54,u55,u56,u57,u58,u59,u60,u61,u62,u63,u64,u65,u66,u67,u68,u69,u70,u71,u72,u73,u74,u75,u76,u77,u78,u79,u80,u81,u82],defers:=[]}∧k<R∧jj=ordN true R k∧Own w0 w_ [⟨gB,197,[.slice (some ⟨gl,0,none⟩) n n, .slice (some ⟨gr,0,none⟩) n n]⟩,⟨gl,5,(RT k).1.map v8⟩,⟨gr,5,(RT k).2.map v8⟩,⟨gh,132,H.map v8⟩]) (fun a_ _=>(intOf (a_.tmps.getD 12 undef)).toNat) rfl ?_ ?_
 · clear hm
   have key_:∀(P_:Act→World→Prop),(∀(w_:World)(k gl gr gB gh cm jj:Nat)(pm:Option Addr)(u1 u4 u5 u6 u7 u15 u16 u17 u18 u19 u20 u21 u22 u23 u24 u25 u26 u27 u28 u29 u30 u31 u32 u33 u34 u35 u36 u37 u38 u39 u40 u41 u42 u43 u44 u45 u46 u47 u48 u49 u50 u51 u52 u53 u54 u55 u56 u57 u58 u59 u60 u61 u62 u63 u64 u65 u66 u67 u68 u69 u70 u71 u72 u73 u74 u75 u76 u77 u78 u79 u80 u81 u82:Value),k<R∧jj=ordN true R k∧Own w0 w_ [⟨gB,197,[.slice (some ⟨gl,0,none⟩) n n, .slice (some ⟨gr,0,none⟩) n n]⟩,⟨gl,5,(RT k).1.map v8⟩,⟨gr,5,(RT k).2.map v8⟩,⟨gh,132,H.map v8⟩]→P_ {tmps:= #[(.pointer (some ⟨g,0,none⟩)),u1,(.slice pm n cm),(.bool true),u4,u5,u6,u7,(.slice none 0 0),(.int .i64 0),(.pointer (some ⟨gh,0,none⟩)),(.int .i64 N),(.int .i64 (jj:Int)),(.int .i64 (-1)),(.pointer (some ⟨gB,0,none⟩)),u15,u16,u17,u18,u19,u20,u21,u22,u23,u24,u25,u26,u27,u28,u29,u30,u31,u32,u33,u34,u35,u36,u37,u38,u39,u40,u41,u42,u43,u44,u45,u46,u47,u48,u49,u50,u51,u52,u53,u54,u55,u56,u57,u58,u59,u60,u61,u62,u63,u64,u65,u66,u67,u68,u69,u70,u71,u72,u73,u74,u75,u76,u77,u78,u79,u80,u81,u82],defers:=[]} w_)→∀(a_:Act)(w_:World),(∃(k gl gr gB gh cm jj:Nat)(pm:Option Addr)(u1 u4 u5 u6 u7 u15 u16 u17 u18 u19 u20 u21 u22 u23 u24 u25 u26 u27 u28 u29 u30 u31 u32 u33 u34 u35 u36 u37 u38 u39 u40 u41 u42 u43 u44 u45 u46 u47 u48 u49 u50 u51 u52 u53 u54 u55 u56 u57 u58 u59 u60 u61 u62 u63 u64 u65 u66 u67 u68 u69 u70 u71 u72 u73 u74 u75 u76 u77 u78 u79 u80 u81 u82:Value),a_={tmps:= #[(.pointer (some ⟨g,0,none⟩)),u1,(.slice pm n cm),(.bool true),u4,u5,u6,u7,(.slice none 0 0),(.int .i64 0),(.pointer (some ⟨gh,0,none⟩)),(.int .i64 N),(.int .i64 (jj:Int)),(.int .i64 (-1)),(.pointer (some ⟨gB,0,none⟩)),u15,u16,u17,u18,u19,u20,u21,u22,u23,u24,u25,u26,u27,u28,u29,u30,u31,u32,u33,u34,u35,u36,u37,u38,u39,u40,u41,u42,u43,u44,u45,u46,u47,u48,u49,u50,u51,u52,u53,u54,u55,u56,u57,u58,u59,u60,u61,u62,u63,u64,u65,u66,u67,u68,u69,u70,u71,u72,u73,u74,u75,u76,u77,u78,u79,u80,u81,u82],defers:=[]}∧k<R∧jj=ordN true R k∧Own w0 w_ [⟨gB,197,[.slice (some ⟨gl,0,none⟩) n n, .slice (some ⟨gr,0,none⟩) n n]⟩,⟨gl,5,(RT k).1.map v8⟩,⟨gr,5,(RT k).2.map v8⟩,⟨gh,132,H.map v8⟩])→P_ a_ w_:=
     fun P_ h_ a_ w_ z=>z.elim fun k z=>z.elim fun gl z=>z.elim fun gr z=>z.elim fun gB z=>z.elim fun gh z=>z.elim fun cm z=>z.elim fun jj z=>z.elim fun pm z=>z.elim fun u1 z=>z.elim fun u4 z=>z.elim fun u5 z=>z.elim fun u6 z=>z.elim fun u7 z=>z.elim fun u15 z=>z.elim fun u16 z=>z.elim fun u17 z=>z.elim fun u18 z=>z.elim fun u19 z=>z.elim fun u20 z=>z.elim fun u21 z=>z.elim fun u22 z=>z.elim fun u23 z=>z.elim fun u24 z=>z.elim fun u25 z=>z.elim fun u26 z=>z.elim fun u27 z=>z.elim fun u28 z=>z.elim fun u29 z=>z.elim fun u30 z=>z.elim fun u31 z=>z.elim fun u32 z=>z.elim fun u33 z=>z.elim fun u34 z=>z.elim fun u35 z=>z.elim fun u36 z=>z.elim fun u37 z=>z.elim fun u38 z=>z.elim fun u39 z=>z.elim fun u40 z=>z.elim fun u41 z=>z.elim fun u42 z=>z.elim fun u43 z=>z.elim fun u44 z=>z.elim fun u45 z=>z.elim fun u46 z=>z.elim fun u47 z=>z.elim fun u48 z=>z.elim fun u49 z=>z.elim fun u50 z=>z.elim fun u51 z=>z.elim fun u52 z=>z.elim fun u53 z=>z.elim fun u54 z=>z.elim fun u55 z=>z.elim fun u56 z=>z.elim fun u57 z=>z.elim fun u58 z=>z.elim fun u59 z=>z.elim fun u60 z=>z.elim fun u61 z=>z.elim fun u62 z=>z.elim fun u63 z=>z.elim fun u64 z=>z.elim fun u65 z=>z.elim fun u66 z=>z.elim fun u67 z=>z.elim fun u68 z=>z.elim fun u69 z=>z.elim fun u70 z=>z.elim fun u71 z=>z.elim fun u72 z=>z.elim fun u73 z=>z.elim fun u74 z=>z.elim fun u75 z=>z.elim fun u76 z=>z.elim fun u77 z=>z.elim fun u78 z=>z.elim fun u79 z=>z.elim fun u80 z=>z.elim fun u81 z=>z.elim fun u82 z=>Eq.subst (motive:=fun z_=>P_ z_ w_) z.1.symm (h_ w_ k gl gr gB gh cm jj pm u1 u4 u5 u6 u7 u15 u16 u17 u18 u19 u20 u21 u22 u23 u24 u25 u26 u27 u28 u29 u30 u31 u32 u33 u34 u35 u36 u37 u38 u39 u40 u41 u42 u43 u44 u45 u46 u47 u48 u49 u50 u51 u52 u53 u54 u55 u56 u57 u58 u59 u60 u61 u62 u63 u64 u65 u66 u67 u68 u69 u70 u71 u72 u73 u74 u75 u76 u77 u78 u79 u80 u81 u82 z.2)
   refine key_ _ ?_
   clear key_
   intro w k gl gr gB gh cm jj pm u1 u4 u5 u6 u7 u15 u16 u17 u18 u19 u20 u21 u22 u23 u24 u25 u26 u27 u28 u29 u30 u31 u32 u33 u34 u35 u36 u37 u38 u39 u40 u41 u42 u43 u44 u45 u46 u47 u48 u49 u50 u51 u52 u53 u54 u55 u56 u57 u58 u59 u60 u61 u62 u63 u64 u65 u66 u67 u68 u69 u70 u71 u72 u73 u74 u75 u76 u77 u78 u79 u80 u81 u82
   rintro ⟨hk,hjj,hm⟩
   have TW:=HTW.out k
   have ST:=HST.out k
   have l1:=TW.l
   have l2:=TW.r
   clear TW
   have TW:=HTW.out (k+1)
   rw [ST]at TW
   have l3:(xorL (RT k).1 (stepL F H N (ordN true R k) (RT k).2)).length=n:=TW.r
   clear TW
   have l4:(stepL F H N jj (RT k).2).length=n:=(stepL_length F H N jj _).trans l2
   rw [←hjj]at ST l3
   have j63:jj≤9223372036854775807:=by rw [hjj];unfold ordN;split<;>omega
   have HJJ:=hid hjj
   have XC1:=hid fun (B:Nat)(w:World)(ga gb:Nat) hB ha hb=>XC.out B w (RT k).1 (stepL F H N jj (RT k).2) ga gb l1 l4 hB ha hb
   have SC1:=hid fun (B:Nat)(w:World)(gr:Nat) hx hB hr=>SC.out B w (RT k).2 gr jj hx l2 j63 hB hr
   have STH:=hid ST
   clear hjj ST l4
   generalize hX:xorL (RT k).1 (stepL F H N jj (RT k).2)=X at*
   generalize stepL F H N jj (RT k).2=SV at*
   generalize (RT k).1=LL at*
   generalize (RT k).2=RR at*
   clear hX
   go_wp2_with fail
   have hx0:=hm.x
   have c1:=fun wx (hwx:Ext w wx)=>SC1.out w.heap.size wx gr (hx0.trans hwx) hwx.size ((hm.ext hwx).rdB (g:=gr) (l:=RR) (by repeat (first|exact Has.hd|assumption|apply Has.tl|apply Has.app)))
   have c2:=fun wx (hwx:Ext w wx) g' hr'=>XC1.out w.heap.size wx gl g' hwx.size ((hm.ext hwx).rdB (g:=gl) (l:=LL) (by repeat (first|exact Has.hd|assumption|apply Has.tl|apply Has.app))) hr'
   refine region_new 13 (fun w'=>Ext _ w') 83 (by kernel_rfl) (by kernel_rfl) rfl (fun _ _ h k=>h.trans k) (drew_ext _) ?_
   simp only [zTa]
   repeat (first
       | (apply walk_some (XorT w.heap.size n SV) 54 (XorT.stable _ _ _) rfl rfl rfl rfl
          · (intro wx hwx;go_simp;with_reducible exact gives_callR (c1 wx hwx)))
       | (apply walk_from_some (T:=[(54,XorT w.heap.size n SV)]) (XorT w.heap.size n X) 55 (XorT.stable _ _ _) rfl rfl rfl
          · (intro wx hwx;simp only [withS];(rintro x_ ⟨g',rfl,hB',hr'⟩);refine⟨rfl, ?_⟩;go_simp;with_reducible exact gives_callR (c2 wx hwx g' (RdB.of_row hr'))))
       | (apply walk_is rfl rfl rfl
          · (intro wx hwx;first|((with_reducible show qGl);first|(exact zK (hm.ext hwx))|(exact zL (hm.ext hwx)))|(go_simp;(try go_bits);first|exact gives_same|exact gives_skip))
          · (simp only [zPu];rfl))
       | (apply walk_not rfl rfl rfl
          · (simp only [zPu];rfl)))
   intro wz hwz
   simp only [zZi]
   repeat rw [fin_is]
   rw [fin_cons];intro x54 hx54
   repeat rw [fin_is]
   rw [fin_cons];intro x55 hx55
   repeat rw [fin_is]
   rw [fin_nil];intro hap
   simp only [zPu]at hap⊢
   obtain⟨gs,rfl,_,_⟩:=hx54
   obtain⟨gx,rfl,bX,rX⟩:=hx55
   replace hm:=hm.push hwz bX rX
   clear c1 c2 hap hx0 bX rX
   obtain⟨w',rfl⟩:∃w',w'=wz:=⟨_,rfl⟩
   have hjk:jj=R-1-k:=HJJ.out
   generalize hk1:k+1=k1 at*
   by_cases hlt:k1<R
   · obtain⟨j2,hj2⟩:∃j2,j2=R-1-k1:=⟨_,rfl⟩
     have x1:(jj:Int)+ -1=(j2:Int):=by omega
     have x2:(jj:Int)-1=(j2:Int):=by omega
     have y1:decide ((j2:Int)≥0)=true:=decide_eq_true (by omega)
     have y2:decide ((0:Int)≤(j2:Int))=true:=decide_eq_true (by omega)
     have y3:(0:Int)≤(j2:Int):=by omega
     have z1:decide ((j2:Int)<(R:Int))=true:=decide_eq_true (by omega)
     have z2:(j2:Int)<(R:Int):=by omega
     have mj:j2<jj:=by omega
     have HJ2:=hid hj2
     clear hj2 hjk
     go_wp2_with (first|((with_reducible show qSt);(with_reducible apply wq_stfT (v:= .slice (some ⟨gr,0,none⟩) n n) hm);exact rfl;infer_instance;exact rfl;exact rfl;exact rfl;exact rfl;(focus ((repeat (first|exact .hd|apply Swap.tl|apply Swap.app|apply Swap.app));done));exact rfl;(exact(show _<2 from by omega));clear hm;intro w hm)|((with_reducible show qSt);(with_reducible apply wq_stfT (v:= .slice (some ⟨gx,0,none⟩) n n) hm);exact rfl;infer_instance;exact rfl;exact rfl;exact rfl;exact rfl;(focus ((repeat (first|exact .hd|apply Swap.tl|apply Swap.app|apply Swap.app));done));exact rfl;(exact(show _<2 from by omega));clear hm;intro w hm)|(go_at_call 111;(with_reducible refine(RC.out _).mono ?_);rintro e_ w_ ⟨rfl,rfl⟩))
     have hm2:=own_subT (M:=⟨gx,5,X.map v8⟩::([⟨gB,197,[.slice (some ⟨gr,0,none⟩) n n, .slice (some ⟨gx,0,none⟩) n n]⟩,⟨gr,5,RR.map v8⟩]++[⟨gh,132,H.map v8⟩])) hm (by repeat (first|exact List.Sublist.refl _|exact List.nil_sublist _|apply List.Sublist.cons_cons|apply List.Sublist.cons))
     have hm3:=hm2.perm List.perm_middle.symm
     go_step3
     exact⟨rfl,⟨_,_,_,_,_,_,_,_,_,_,_,_,_,_,_,_,_,_,_,_,_,_,_,_,_,_,_,_,_,_,_,_,_,_,_,_,_,_,_,_,_,_,_,_,_,_,_,_,_,_,_,_,_,_,_,_,_,_,_,_,_,_,_,_,_,_,_,_,_,_,_,_,_,_,_,_,_,_,_,_,_,rfl,⟨hlt,HJ2.out,by rw [STH.out];exact hm3⟩⟩,by simp [intOf];omega⟩
   · obtain rfl:k1=R:=by omega
     have x1:(jj:Int)+ -1= -1:=by omega
     have x2:(jj:Int)-1= -1:=by omega
     clear hjk
     have FIT:=hid (show(n+n)*(1+1)≤140737488355328 by omega)
     have LR:=hid (show(RR.map v8).length=n*1 by rw [List.length_map,l2,Nat.mul_one])
     have SX:=hid (SlO.whole gx 5 1 n (X.map v8) (by rw [List.length_map,l3,Nat.mul_one]) (by unfold maxLen;omega))
     go_wp2_with (first|((with_reducible show qSt);(with_reducible apply wq_stfT (v:= .slice (some ⟨gr,0,none⟩) n n) hm);exact rfl;infer_instance;exact rfl;exact rfl;exact rfl;exact rfl;(focus ((repeat (first|exact .hd|apply Swap.tl|apply Swap.app|apply Swap.app));done));exact rfl;(exact(show _<2 from by omega));clear hm;intro w hm)|((with_reducible show qSt);(with_reducible apply wq_stfT (v:= .slice (some ⟨gx,0,none⟩) n n) hm);exact rfl;infer_instance;exact rfl;exact rfl;exact rfl;exact rfl;(focus ((repeat (first|exact .hd|apply Swap.tl|apply Swap.app|apply Swap.app));done));exact rfl;(exact(show _<2 from by omega));clear hm;intro w hm)|((with_reducible show wpList _ _ _ (Oper.mk _ (Op.call _) _ _ _ _::_) _ _);refine wplO_app (M:=[⟨gx,5,X.map v8⟩]) (R:=_) (ds:=RR.map v8) hm SX.out rfl rfl rfl rfl Tryz.underlying22 LR.out (cellsB (hm.rdB (g:=gr) (l:=RR) (by repeat (first|exact Has.hd|assumption|apply Has.tl|apply Has.app)))) (one_map _) FIT.out ?_;clear hm;intro v2 w M2 hm hs2;obtain⟨p_v2,c_v2,rfl⟩:=hs2.form)|((with_reducible show qLd);refine zC hm ?_))
     rw [←List.map_append]at hs2
     have eRT:=STH.out
     have e2:(RT k1).2++(RT k1).1=X++RR:=by rw [eRT]
     have JC1:=JC.out
     rw [e2]at JC1
     have hr2:=slo_bytes hs2 hm
     refine(JC1 _ _ _ _ hr2).mono ?_
     rintro e w ⟨gj,rfl,hmM⟩
     have hm2:=Own.join hm.dropN hmM
     clear hm hmM hr2 hs2 JC1 e2 eRT
     simp only [List.cons_append,List.nil_append]at hm2
     have hm:=hm2
     clear hm2
     go_wp2_with fail
     try simp only [Exit.jump]
     go_ret2
     exact⟨_,_,rfl,Nat.le_refl _,hm.rdB (g:=gj) (l:=J) (by repeat (first|exact Has.hd|assumption|apply Has.tl|apply Has.app)),hm.x⟩
 · intro hp
   by_cases h16:n<16
   · obtain rfl:N=7:=by rw [HN.out];exact if_pos h16
     have b1:decide ((16:Int)≤(n:Int))=false:=decide_eq_false (by omega)
     have b2:¬(16:Int)≤(n:Int):=by omega
     have b3:decide ((n:Int)≥16)=false:=decide_eq_false (by omega)
     obtain⟨j0,hj0⟩:∃j0,j0=R-1:=⟨_,rfl⟩
     have x0:(R:Int)-1=(j0:Int):=by omega
     have HJ0:=hid (show j0=ordN true R 0 from hj0)
     clear hj0
     go_wp2_with (first|(go_at_call 97;(with_reducible refine(H1.out _ hm.x).mono ?_);rintro e_ w ⟨rfl,hx_⟩;replace hm:=hm.ext hx_;clear hx_)|(go_at_call 111;(with_reducible refine(RC.out _).mono ?_);rintro e_ w_ ⟨rfl,rfl⟩)|((with_reducible show qLd);refine zB hm ?_)|((with_reducible show qSt);refine zE hm ?_;clear hm;intro w hm)|(((with_reducible show qAl);refine zG hm ?_);clear hm;intro gx_;intro w hm))
     refine(FC.out _ l p c hm.x HNL.out (HL.out.ext hm.x)).mono ?_
     rintro e w ⟨v5,M5,rfl,hs5,hmM⟩
     obtain⟨p5,c5,rfl⟩:=hs5.form
     rw [←HM0.out]at hs5
     have hr5:=hid (slo_bytes (R:=[]) hs5 (by simpa using hmM))
     have hm2:=hm.ext hmM.x
     clear hm hmM hs5
     have hm:=hm2
     clear hm2
     go_wp2_with fail
     refine(HC.out _ p5 c5 hr5.out.1).mono ?_
     rintro e w ⟨gl,gr,rfl,hmM⟩
     have hm2:=Own.join hm hmM
     clear hm hmM
     simp only [List.cons_append,List.nil_append]at hm2
     have hm:=hm2
     clear hm2
     go_wp2_with (first|((with_reducible show wpList _ _ _ (Oper.mk _ (Op.store 197 _ _) _ _ _ _::_) _ _);(with_reducible apply wq_stW (cs':=[.slice (some ⟨gl,0,none⟩) n n, .slice (some ⟨gr,0,none⟩) n n]) hm);exact rfl;infer_instance;exact rfl;exact rfl;(focus ((repeat (first|exact .hd|apply Swap.tl|apply Swap.app|apply Swap.app));done));exact rfl;exact rfl;(exact two_one);clear hm;intro w hm)|(((with_reducible show qAl);refine zG hm ?_);clear hm;intro gx_;intro w hm))
     have hm3:=hm.perm (((List.Perm.swap _ _ _).cons _))
     go_step3
     rename_i hK
     exact hK _ _ (hp _ _ ⟨_,_,_,_,_,_,_,_,_,_,_,_,_,_,_,_,_,_,_,_,_,_,_,_,_,_,_,_,_,_,_,_,_,_,_,_,_,_,_,_,_,_,_,_,_,_,_,_,_,_,_,_,_,_,_,_,_,_,_,_,_,_,_,_,_,_,_,_,_,_,_,_,_,_,_,_,_,_,_,_,_,rfl,⟨(show 0<R from by omega),HJ0.out,(by rw [H00.out];exact hm3)⟩⟩)
   · obtain rfl:N=6:=by rw [HN.out];exact if_neg h16
     have b1:decide ((16:Int)≤(n:Int))=true:=decide_eq_true (by omega)
     have b2:(16:Int)≤(n:Int):=by omega
     have b3:decide ((n:Int)≥16)=true:=decide_eq_true (by omega)
     obtain⟨j0,hj0⟩:∃j0,j0=R-1:=⟨_,rfl⟩
     have x0:(R:Int)-1=(j0:Int):=by omega
     have HJ0:=hid (show j0=ordN true R 0 from hj0)
     clear hj0
     go_wp2_with (first|(go_at_call 97;(with_reducible refine(H1.out _ hm.x).mono ?_);rintro e_ w ⟨rfl,hx_⟩;replace hm:=hm.ext hx_;clear hx_)|(go_at_call 111;(with_reducible refine(RC.out _).mono ?_);rintro e_ w_ ⟨rfl,rfl⟩)|((with_reducible show qLd);refine zB hm ?_)|((with_reducible show qSt);refine zE hm ?_;clear hm;intro w hm)|(((with_reducible show qAl);refine zG hm ?_);clear hm;intro gx_;intro w hm))
     refine(FC.out _ l p c hm.x HNL.out (HL.out.ext hm.x)).mono ?_
     rintro e w ⟨v5,M5,rfl,hs5,hmM⟩
     obtain⟨p5,c5,rfl⟩:=hs5.form
     rw [←HM0.out]at hs5
     have hr5:=hid (slo_bytes (R:=[]) hs5 (by simpa using hmM))
     have hm2:=hm.ext hmM.x
     clear hm hmM hs5
     have hm:=hm2
     clear hm2
     go_wp2_with fail
     refine(HC.out _ p5 c5 hr5.out.1).mono ?_
     rintro e w ⟨gl,gr,rfl,hmM⟩
     have hm2:=Own.join hm hmM
     clear hm hmM
     simp only [List.cons_append,List.nil_append]at hm2
     have hm:=hm2
     clear hm2
     go_wp2_with (first|((with_reducible show wpList _ _ _ (Oper.mk _ (Op.store 197 _ _) _ _ _ _::_) _ _);(with_reducible apply wq_stW (cs':=[.slice (some ⟨gl,0,none⟩) n n, .slice (some ⟨gr,0,none⟩) n n]) hm);exact rfl;infer_instance;exact rfl;exact rfl;(focus ((repeat (first|exact .hd|apply Swap.tl|apply Swap.app|apply Swap.app));done));exact rfl;exact rfl;(exact two_one);clear hm;intro w hm)|(((with_reducible show qAl);refine zG hm ?_);clear hm;intro gx_;intro w hm))
     have hm3:=hm.perm (((List.Perm.swap _ _ _).cons _))
     go_step3
     rename_i hK
     exact hK _ _ (hp _ _ ⟨_,_,_,_,_,_,_,_,_,_,_,_,_,_,_,_,_,_,_,_,_,_,_,_,_,_,_,_,_,_,_,_,_,_,_,_,_,_,_,_,_,_,_,_,_,_,_,_,_,_,_,_,_,_,_,_,_,_,_,_,_,_,_,_,_,_,_,_,_,_,_,_,_,_,_,_,_,_,_,_,_,rfl,⟨(show 0<R from by omega),HJ0.out,(by rw [H00.out];exact hm3)⟩⟩)
section
variable {P:Program} {ops:Array Oper} {Q:Exit→Act→World→Prop} {rest:List Oper} {a:Act} {w0 w:World} {L:List Blk} {dst:Option Tmp} {T e ty:TypeId} {pos:String} {aft:Array Edge} {gd:Option (Nat×Bool)}
theorem wq_bs1g {u0:Value}{x0:Operand}{cs:List Value}(hb:∀w,(Instr.buildSlice T 1 #[(0,u0)]).run P w= .ok (.slice (some ⟨w.heap.size,0,none⟩) 1 1) (w.alloc (.cells cs.toArray e)))(hm:Own w0 w L)(hgd:Region.wanted (Oper.mk dst (.buildSlice T 1 #[(0,x0)]) ty pos aft gd) (yielded ops a.tmps)=true)(hx0:a.eval x0=u0)(hr:∀g w',Own w0 w' (⟨g,e,cs⟩::L)→wpList P ops Q rest (a.put dst (.slice (some ⟨g,0,none⟩) 1 1)) w'):wpList P ops Q ((Oper.mk dst (.buildSlice T 1 #[(0,x0)]) ty pos aft gd)::rest) a w:=
 wpList_want hgd fun K hK=>by
   unfold Oper.wp execOp
   simp [hx0,hb,Sem.run_bind,Result.andThen_ok,Sem.run_pure]
   exact hK _ _ (hr _ _ (hm.alloc e cs))
end
theorem bs_s1(p:Option Addr)(n c:Nat)(w:World):(Instr.buildSlice 48 1 #[(0, .slice p n c)]).run Tryz.prog w= .ok (.slice (some ⟨w.heap.size,0,none⟩) 1 1) (w.alloc (.cells [.slice p n c].toArray 22)):=by kernel_rfl
theorem rdR1 {w:World}{g:Nat}{t:TypeId}{p:Option Addr}{a:List Byte}{c:Nat}(h:Row w g t [.slice p a.length c])(ha:RdB w p a)(hc:a.length≤c)(la:a.length≤maxLen):RdR w (some ⟨g,0,none⟩) [a]:=by
 refine⟨fun _=>rfl,fun i hi=> ?_⟩
 have hcell:∀k,w.cell? (((some (⟨g,0,none⟩:Addr)).getD default).add k)=w.cell? ⟨g,k,none⟩:=fun k=>by rw [show((some (⟨g,0,none⟩:Addr)).getD default).add k=⟨g,k,none⟩from by simp [Addr.add];exact fun h=>h.symm]
 match i,hi with
 |0,_=>exact⟨p,c,(hcell 0).trans (row_cell h 0),ha,hc,la⟩
def aezL(key t m:List Byte):List Byte:=tinyL (eZ (keyOf key)) (hashG (eZ (keyOf key)) [t]) false m
theorem vright_any(t:Int)(h:0≤t∧t≤16)(w:World):Calls Tryz.prog 73 #[.int .i64 t] w fun e w'=>e= .returned (.int .i64 0)∧w=w':=by
 have d1:decide (t<0)=false:=decide_eq_false (by omega)
 have d2:decide (t>16)=false:=decide_eq_false (by omega)
 have d3:decide (16<t)=false:=decide_eq_false (by omega)
 have d4:¬t<0:=by omega
 have d5:¬16<t:=by omega
 clear h
 go_enter Tryz.func73,Tryz.ntmps73
 go_wp2
 go_ret
 exact⟨rfl,rfl⟩
def putV(out:List Byte)(ls:List (List Byte)):Nat→List Byte
 |0=>out
 |k+1=>putV out ls k++(putL (BitVec.ofNat 64 (ls.getD k []).length) 8++ls.getD k [])
theorem putV_length(out:List Byte)(ls:List (List Byte))(h:∀i,(ls.getD i []).length≤1000)(k:Nat):(putV out ls k).length≤out.length+1008*k:=by
 induction k with
 |zero=>exact Nat.le_refl _
 | succ k ih=>
   rw [putV,List.length_append,List.length_append,putL_length]
   have:=h k
   omega
theorem vput_any(out:List Byte)(ls:List (List Byte))(p:Option Addr)(c:Nat)(q:Option Addr)(d:Nat)(w0:World)(hr:RdB w0 p out)(hc:out.length≤c)(hs:RdR w0 q ls)(hd:ls.length≤d)(ho:out.length≤10000)(hn:ls.length≤100)(hl:∀i,(ls.getD i []).length≤1000):
   Calls Tryz.prog 78 #[.slice p out.length c, .slice q ls.length d] w0 fun e w'=>∃r e2,e= .returned (.slice r (putV out ls ls.length).length e2)∧(putV out ls ls.length).length≤e2∧RdB w' r (putV out ls ls.length)∧Ext w0 w':=by
 have HS:=hid fun (w:World)(hx:Ext w0 w)=>hs.ext hx
 have HL:=hid hl
 have PB:=hid (putV_length out ls hl)
 obtain⟨N,hN⟩:=exq (ls.length)
 have HN:=hid hN
 obtain⟨OL,hOL⟩:=exq (out.length)
 have HOL:=hid hOL
 rw [←hN]at hd hn⊢
 rw [←hOL]at hc ho PB⊢
 have hx:=Ext.refl w0
 clear hs hl hN hOL
 go_enter Tryz.func78,Tryz.ntmps78
 go_wp2_with fail
 go_loopw [0,10] (fun vo vi wr=>∃(k o d2:Nat)(r:Option Addr),k≤N∧vi= .int .i64 (k:Int)∧vo= .slice r o d2∧o=(putV out ls k).length∧o≤d2∧RdB wr r (putV out ls k)∧Ext w0 wr) (fun _ vi _=>N-(intOf vi).toNat)
 case atStart=>exact⟨0,OL,c,p,by omega,rfl,rfl,HOL.out,hc,hr,hx⟩
 case round=>
   clear hr hx
   obtain⟨k,o,d2,r,hk,rfl,rfl,ho2,hod,hr,hx⟩:=hrel
   by_cases hlt:k<N
   · have hd1:decide ((k:Int)<(N:Int))=true:=decide_eq_true (by omega)
     have hd2:(k:Int)<(N:Int):=by omega
     have hd3:0≤(k:Int)∧(k:Int)<(N:Int):=by omega
     obtain⟨A,rfl,kq,kc,hcell,hrd,hkc,_⟩:=(HS.out wr hx).row k (by rw [←HN.out];exact hlt)
     have hL:=HL.out k
     have hP:=PB.out k
     have EQ:Hid (putV out ls (k+1)=putV out ls k++(putL (BitVec.ofNat 64 (ls.getD k []).length) 8++ls.getD k [])):=hid rfl
     obtain⟨B,hB⟩:=exq (ls.getD k [])
     rw [←hB]at hcell hrd hkc hL EQ
     obtain⟨V,hV⟩:=exq (putV out ls k)
     rw [←hV]at ho2 hr hP EQ
     have hm:=Own.start wr
     have hcl:=fun w (hx:Ext wr w)=>hx.cell hcell
     have PL:=hid fun w=>(show Gives Tryz.prog 11 #[.int .u64 (B.length:Int)] w (A8 (putL (BitVec.ofNat 64 B.length) 8))from by
       have h:=putlong_any' (BitVec.ofNat 64 B.length) w
       rwa [v64_nat _ (by omega)]at h)
     have lT:=putL_length (BitVec.ofNat 64 B.length) 8
     obtain⟨T,hT⟩:=exq (putL (BitVec.ofNat 64 B.length) 8)
     rw [←hT]at PL lT EQ
     have CC:=hid fun (gb gt:Nat)(w:World)(hx:Ext wr w)(hrow:Row w gb 22 [.slice r o d2, .slice (some ⟨gt,0,none⟩) 8 8, .slice kq B.length kc])(ht:RdB w (some ⟨gt,0,none⟩) T)=>(show Calls Tryz.prog 43 #[.slice (some ⟨gb,0,none⟩) 3 3] w fun e w'=>∃v M,e= .returned v∧Own w w' (M++[])∧SlO M 5 1 v (o+(8+B.length)) ((V++(T++B)).map v8)from by
       have h:=concat_any [V,T,B] (some ⟨gb,0,none⟩) 3 w (rdR3 (a:=V) (b:=T) (x:=B) (by rw [←ho2,lT];exact hrow) (hr.ext hx) ht (hrd.ext hx) (by omega) (by omega) hkc (by unfold maxLen;omega) (by unfold maxLen;omega) (by unfold maxLen;omega)) (by simp) (by simp [lT];omega)
       rw [show [V,T,B].flatten=V++(T++B)from by simp]at h
       rw [show(V++(T++B)).length=o+(8+B.length)from by simp [ho2,lT]]at h
       exact h)
     have BS:=hid fun gt=>bs_s3 r (some ⟨gt,0,none⟩) kq o d2 8 8 B.length kc
     have t1:=Nat.le_of_eq lT
     have t2:=Nat.le_of_eq lT.symm
     have LEN:=hid (show o+(8+B.length)=(putV out ls (k+1)).length from by rw [EQ.out];simp [ho2,lT])
     have hLI:(B.length:Int)≤1000:=by omega
     obtain⟨BL,hBL⟩:=exq (B.length)
     rw [←hBL]at PL CC BS LEN hLI hcell
     clear hB hV hT hBL lT hL hP hr hrd hkc hcl ho2
     go_wp2_with (first|(go_at_call 11;(with_reducible refine(PL.out _).mono ?_);rintro e_ w ⟨rfl,hx_⟩;replace hm:=hm.ext hx_;clear hx_)|((with_reducible apply wq_bs3g (BS.out _) hm);exact rfl;exact rfl;exact rfl;exact rfl;clear hm;intro gb w hm)|((with_reducible show qSt);refine zE hm ?_;clear hm;intro w hm)|(((with_reducible show qAl);refine zG hm ?_);clear hm;(first|(have hx_:=g1;clear hx_;intro gx_)|intro g1);intro w hm))
     refine(CC.out gb g1 w hm.x (hm.row .hd) (hm.rdB (g:=g1) (l:=T) (.tl .hd))).mono ?_
     rintro e_ w ⟨v5,M5,rfl,hm1,hs5⟩
     obtain⟨p5,c5,rfl⟩:=hs5.form
     have hrv:=slo_rdZ hs5 hm1
     obtain⟨_,hc5⟩:=slo_bytes hs5 hm1
     have hx9:=(hx.trans hm.x).trans hm1.x
     have HRV:=hid hrv
     have HC5:=hid hc5
     clear hrv hc5 hm1 hs5 hm hcell
     go_wp2_with fail
     go_roundw
     case rel=>exact⟨k+1,_,c5,p5,by omega,by go_num,rfl,LEN.out,HC5.out.2,by rw [EQ.out];exact HRV.out,hx9⟩
     case measure=>simp [intOf]<;>omega
   · obtain rfl:k=N:=by omega
     have hd1:decide ((k:Int)<(k:Int))=false:=decide_eq_false (by omega)
     have HR:=hid hr
     have HO:=hid ho2
     clear hr ho2
     go_wp2_with fail
     go_ret
     exact⟨r,d2,by rw [←HO.out];rfl,by rw [←HO.out];exact hod,HR.out,hx⟩
def vecE(t:Int)(nn:List Byte)(ad:List (List Byte)):List Byte:=putV (putV ([BitVec.ofInt 8 t]++putL (BitVec.ofNat 64 ad.length) 8) [nn] 1) ad ad.length
theorem putV_length60(out:List Byte)(ls:List (List Byte))(h:∀i,(ls.getD i []).length≤60)(k:Nat):(putV out ls k).length≤out.length+68*k:=by
 induction k with
 |zero=>exact Nat.le_refl _
 | succ k ih=>
   rw [putV,List.length_append,List.length_append,putL_length]
   have:=h k
   omega
theorem vecE_length(t:Int)(nn:List Byte)(ad:List (List Byte))(h1:nn.length≤60)(h2:ad.length≤5)(h3:∀i,(ad.getD i []).length≤60):(vecE t nn ad).length≤500:=by
 have a:=putV_length60 (putV ([BitVec.ofInt 8 t]++putL (BitVec.ofNat 64 ad.length) 8) [nn] 1) ad h3 ad.length
 have b:=putV_length60 ([BitVec.ofInt 8 t]++putL (BitVec.ofNat 64 ad.length) 8) [nn] (fun i=>by match i with|0=>exact h1|i+1=>exact Nat.zero_le _) 1
 have c:([BitVec.ofInt 8 t]++putL (BitVec.ofNat 64 ad.length) 8).length=9:=by simp [putL_length]
 rw [vecE];omega
theorem vecenc_any(t:Int)(ht:0≤t∧t≤16)(nn:List Byte)(ad:List (List Byte))(h1:nn.length≤60)(h2:ad.length≤5)(h3:∀i,(ad.getD i []).length≤60)(p:Option Addr)(c:Nat)(q:Option Addr)(d:Nat)(w0:World)(hr:RdB w0 p nn)(hc:nn.length≤c)(hs:RdR w0 q ad)(hd:ad.length≤d):
   Calls Tryz.prog 60 #[.int .i64 t, .slice p nn.length c, .slice q ad.length d] w0 fun e w'=>∃r e2,e= .returned (.tuple #[.slice r (vecE t nn ad).length e2, .int .i64 0])∧(vecE t nn ad).length≤e2∧RdB w' r (vecE t nn ad)∧Ext w0 w':=by
 have hm:=Own.start w0
 have VR:=hid (vright_any t ht)
 have T8:Hid (Value.int .u8 t=v8 (BitVec.ofInt 8 t)):=hid (by
   rw [v8];congr 1
   rw [BitVec.toNat_ofInt];omega)
 have PL:=hid fun w=>(show Gives Tryz.prog 11 #[.int .u64 (ad.length:Int)] w (A8 (putL (BitVec.ofNat 64 ad.length) 8))from by
   have h:=putlong_any' (BitVec.ofNat 64 ad.length) w
   rwa [v64_nat _ (by omega)]at h)
 have lT:=putL_length (BitVec.ofNat 64 ad.length) 8
 have EV:Hid (vecE t nn ad=putV (putV ([BitVec.ofInt 8 t]++putL (BitVec.ofNat 64 ad.length) 8) [nn] 1) ad ad.length):=hid rfl
 obtain⟨T,hT⟩:=exq (putL (BitVec.ofNat 64 ad.length) 8)
 obtain⟨X,hX⟩:=exq (BitVec.ofInt 8 t)
 rw [←hT]at PL lT EV
 rw [←hX]at T8 EV
 have lO:([X]++T).length=9:=by simp [lT]
 have P1:=hid fun (w:World)(hx:Ext w0 w)(po:Option Addr)(co:Nat)(gb:Nat)(hco:9≤co)(ho:RdB w po ([X]++T))(hrow:Row w gb 22 [.slice p nn.length c])=>(show Calls Tryz.prog 78 #[.slice po 9 co, .slice (some ⟨gb,0,none⟩) 1 1] w fun e w'=>∃r e2,e= .returned (.slice r (putV ([X]++T) [nn] 1).length e2)∧(putV ([X]++T) [nn] 1).length≤e2∧RdB w' r (putV ([X]++T) [nn] 1)∧Ext w w' from by
   have h:=vput_any ([X]++T) [nn] po co (some ⟨gb,0,none⟩) 1 w ho (by omega) (rdR1 hrow (hr.ext hx) hc (by unfold maxLen;omega)) (by simp) (by omega) (by simp) (fun i=>by match i with|0=>exact Nat.le_trans h1 (by omega)|i+1=>exact Nat.zero_le _)
   rw [lO]at h
   exact h)
 have b1:=putV_length60 ([X]++T) [nn] (fun i=>by match i with|0=>exact h1|i+1=>exact Nat.zero_le _) 1
 obtain⟨U,hU⟩:=exq (putV ([X]++T) [nn] 1)
 rw [←hU]at P1 EV b1
 have P2:=hid fun (w:World)(hx:Ext w0 w)(po:Option Addr)(co:Nat)(hco:U.length≤co)(ho:RdB w po U)=>vput_any U ad po co q d w ho hco (hs.ext hx) hd (by omega) (by omega) (fun i=>Nat.le_trans (h3 i) (by omega))
 rw [←EV.out]at P2
 obtain⟨Y,hY⟩:=exq (vecE t nn ad)
 rw [←hY]at P2⊢
 obtain⟨NL,hNL⟩:=exq (nn.length)
 obtain⟨AL,hAL⟩:=exq (ad.length)
 obtain⟨UL,hUL⟩:=exq (U.length)
 obtain⟨YL,hYL⟩:=exq (Y.length)
 rw [←hNL]at P1⊢
 rw [←hAL]at PL P2⊢
 rw [←hUL]at P1 P2
 rw [←hYL]at P2⊢
 have BS:=hid (bs_s1 p NL c)
 have a5:(AL:Int)≤5:=by omega
 have t1:=Nat.le_of_eq lT
 have t2:=Nat.le_of_eq lT.symm
 have LT:=hid lT
 obtain⟨ht1,ht2⟩:=ht
 clear hT hX hU hY hNL hAL hUL hYL lT lO b1 hr hc hs hd h1 h2 h3 EV
 go_enter Tryz.func60,Tryz.ntmps60
 go_wp2_with (first|(go_at_call 73;(with_reducible refine(VR.out _).mono ?_);rintro e_ w_ ⟨rfl,rfl⟩)|(go_at_call 11;(with_reducible refine(PL.out _).mono ?_);rintro e_ w ⟨rfl,hx_⟩;replace hm:=hm.ext hx_;clear hx_)|((with_reducible apply wq_bs1c (bs1_b X) hm);exact rfl;exact T8.out;clear hm;intro gz w hm)|((with_reducible show wpList _ _ _ (Oper.mk _ (Op.call _) _ _ _ _::_) _ _);refine wplO_app (M:=[⟨gz,5,[v8 X]⟩]) (R:=_) (ds:=T.map v8) hm (SlO.whole gz 5 1 1 [v8 X] rfl (by decide)) rfl rfl rfl rfl Tryz.underlying22 (by rw [List.length_map,Nat.mul_one];exact LT.out) (cells_b (hm.rdB (g:=g1) (l:=T) (by repeat (first|exact Has.hd|assumption|apply Has.tl|apply Has.app)))) (one_map _) (by omega) ?_;clear hm;intro v1 w M1 hm hs1;obtain⟨p_v1,c_v1,rfl⟩:=hs1.form;(skip))|((with_reducible apply wq_bs1g BS.out hm);exact rfl;exact rfl;clear hm;intro gb w hm)|((with_reducible show qSt);refine zE hm ?_;clear hm;intro w hm)|(((with_reducible show qAl);refine zG hm ?_);clear hm;(first|(have hx_:=g1;clear hx_;intro gx_)|intro g1);intro w hm))
 have hm2:=hm.drop
 have hrv:=slo_rdZ (l:=[X]++T) hs1 hm2
 have hcv:9≤c_v1:=by obtain⟨_,_,hv,h9,_⟩:=hs1.cells hm2;cases hv;exact h9
 refine(P1.out _ hm.x _ _ _ hcv hrv (hm.row .hd)).mono ?_
 rintro e_ w ⟨r,e2,rfl,he2,hr2,hx_⟩
 replace hm:=hm.ext hx_
 clear hx_ hm2 hrv hcv hs1
 go_wp2_with fail
 refine(P2.out _ hm.x _ _ he2 hr2).mono ?_
 rintro e_ w ⟨r3,e3,rfl,he3,hr3,hx_⟩
 replace hm:=hm.ext hx_
 have hX:=hm.x
 clear hx_ hm he2 hr2
 go_wp2_with fail
 go_ret2
 exact⟨r3,e3,rfl,he3,hr3,hX⟩
end Go.Proofs.YtneacgpmjlocjaaGreatDoor
