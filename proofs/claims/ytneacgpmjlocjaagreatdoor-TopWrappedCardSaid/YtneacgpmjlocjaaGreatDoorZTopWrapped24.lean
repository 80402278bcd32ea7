/-
  Texts of the program, walked, and plain ones. Conditions: those written in each theorem.
-/
import Derived.Test.YtneacgpmjlocjaaGreatDoorZTopWrapped0
import Derived.Test.YtneacgpmjlocjaaGreatDoorZTopWrapped23
import Derived.Test.YtneacgpmjlocjaaGreatDoorZTopWrapped19
import Derived.Test.YtneacgpmjlocjaaGreatDoorZTopWrapped9
import Derived.Test.YtneacgpmjlocjaaGreatDoorZTopWrapped22
set_option linter.unusedSimpArgs false
set_option linter.unusedVariables false
set_option maxHeartbeats 16000000
open Go.Lib (hid)
namespace Go.Proofs.YtneacgpmjlocjaaGreatDoor
open Go Go.RowKit
set_option maxRecDepth 100000
def XorS(B:Nat)(l:List Byte):Slot:=fun v w=>∃g,v= .slice (some ⟨g,0,none⟩) l.length l.length∧B≤g∧Row w g 5 (l.map v8)
theorem XorS.stable(B:Nat)(l:List Byte):Stable (XorS B l):=fun _ _ _ ⟨g,h1,h2,h3⟩ hx=>⟨g,h1,h2,row_ext h3 hx⟩
theorem own_two {w0 w:World}{L:List Blk}{g k:Nat}{a b:List Byte}(h:Own w0 w L)(hg:Row w g 5 (a.map v8))(hk:Row w k 5 (b.map v8))(bg:w0.heap.size≤g)(bk:w0.heap.size≤k)(ng:∀x∈L,x.g≠g)(nk:∀x∈L,x.g≠k):
   ∃N,Own w0 w (N++L)∧∀(w1 w':World)(L':List Blk),Own w1 w' (N++L')→RdB w' (some ⟨g,0,none⟩) a∧RdB w' (some ⟨k,0,none⟩) b:=by
 by_cases e:g=k
 · subst e
   have hab:a.map v8=b.map v8:=by
     have h1:w.heap[g]? =_:=hg
     have h2:w.heap[g]? =_:=hk
     rw [h1]at h2
     simpa using h2
   refine⟨[⟨g,5,a.map v8⟩],h.add bg ng hg,fun w1 w' L' hm=> ?_⟩
   have hr:Row w' g 5 (a.map v8):=hm.row .hd
   exact⟨RdB.of_row hr,RdB.of_row (hab ▸ hr)⟩
 · refine⟨[⟨g,5,a.map v8⟩,⟨k,5,b.map v8⟩],(h.add bk nk hk).add bg (fun x hx=> ?_) hg,fun w1 w' L' hm=>⟨RdB.of_row (hm.row .hd),RdB.of_row (hm.row (.tl .hd))⟩⟩
   rcases List.mem_cons.1 hx with rfl|hx
   · exact fun h=>e h.symm
   · exact ng x hx
theorem xor_new(B:Nat)(a b:List Byte)(p q:Option Addr)(c d:Nat)(w:World)(ha:RdB w p a)(hb:RdB w q b)(hla:a.length≤140737488355328)(hlb:b.length≤140737488355328)(hB:B≤w.heap.size):
   GivesR Tryz.prog 81 #[.slice p a.length c, .slice q b.length d] w (XorS B (xorL a b)):=by
 unfold GivesR
 have hn:=xorL_length a b
 generalize hN:(xorL a b).length=n at*
 have hx:Ext w (w.alloc (.cells ((zeros n).map v8).toArray 5)):=(Ext.refl w).alloc _
 have hrow:=row_new w 5 ((zeros n).map v8)
 have HN:=hid hN
 have Hn:=hid hn
 have hn1:n≤a.length:=by omega
 have hn2:n≤b.length:=by omega
 clear hN hn
 rcases Nat.lt_or_ge b.length a.length with hab|hab
 all_goals
   go_enter Tryz.func81,Tryz.ntmps81
   go_wp2_with (with_reducible show wpList _ _ _ _ _ _;refine make_b n rfl rfl rfl rfl (by have:=Hn.out;omega) (by have:=Hn.out;omega) (by omega) ?_)
   go_loopw [6,15] (fun _ i wr=>∃k:Nat,k≤n∧i= .int .i64 k∧Row wr w.heap.size 5 ((fillTo (xorL a b) k).map v8)∧Ext w wr) (fun _ i _=>n-(intOf i).toNat)
   case atStart=>exact⟨0,Nat.zero_le _,rfl,by rw [fillTo_zero,HN.out];exact hrow,hx⟩
   case round =>
     obtain⟨k,hk,rfl,hr,hxr⟩:=hrel
     by_cases hlt:k<n
     · have hka:k<a.length:=by omega
       have hkb:k<b.length:=by omega
       have hpa:=(ha.ext hxr).isSome k (by omega)
       have hpb:=(hb.ext hxr).isSome k (by omega)
       have hca:=fun wx (hwx:Ext wr wx)=>((ha.ext hxr).ext hwx).at k (by omega)
       have hcb:=fun wx (hwx:Ext wr wx)=>((hb.ext hxr).ext hwx).at k (by omega)
       have hset:=fillTo_set (xorL a b) k (by rw [HN.out];exact hlt)
       have e:a.getD k 0^^^b.getD k 0=a[k]^^^b[k]:=by simp [hka,hkb]
       rw [xorL_getD a b k (by rw [HN.out];exact hlt),e]at hset
       have Hset:=hid hset
       clear hset e
       go_wp2
       refine rgE 12 32 ?_
       simp only [zTa]
       repeat (first
           | (apply walk_is rfl rfl rfl
              · (intro wx hwx;go_simp;(try go_bits);first|exact gives_same|exact gives_skip)
              · (simp only [zPu];rfl))
           | (apply walk_not rfl rfl rfl
              · (simp only [zPu];rfl)))
       intro wz hwz
       simp only [zZi]
       repeat (first|rw [fin_is]|(rw [fin_cons];intro _ _))
       rw [fin_nil]
       try (replace hm:=hm.ext hwz)
       simp only [zPu]
       have hr':=row_ext hr hwz
       have hc:=row_v8 hr' k (by rw [fillTo_length _ _ (by rw [HN.out];omega),HN.out];exact hlt)
       have hf:=row_free hr' k
       have hrs:=row_set hr' k (v8 (a[k]^^^b[k]))
       rw [←List.map_set,Hset.out]at hrs
       have hxz:=ext_setCell (hxr.trans hwz) ⟨w.heap.size,k,none⟩ (v8 (a[k]^^^b[k])) (Nat.le_refl _)
       go_wp2
       go_roundw
       case rel=>exact⟨k+1,by omega,by go_num,hrs,hxz⟩
       case measure=>simp [intOf]<;>omega
     · obtain rfl:k=n:=by omega
       go_wp2
       go_ret
       have hr':Row wr w.heap.size 5 ((xorL a b).map v8):=by rw [←HN.out,fillTo_all]at hr;exact hr
       exact⟨_,rfl,⟨w.heap.size,by rw [HN.out];rfl,hB,hr'⟩,hxr⟩
theorem own_sub8 {w0 w:World}{L M:List Blk}(h:Own w0 w L)(hs:M.Sublist L):Own w0 w M:=⟨h.1,h.2.1.sublist (hs.map _),fun b hb=>h.2.2 b (hs.subset hb)⟩
theorem slo_rdNc {w0 w:World}{M R:List Blk}{p:Option Addr}{n c sz:Nat}{e:TypeId}{l:List Byte}(h:SlO M e sz (.slice p n c) n (l.map v8))(hm:Own w0 w (M++R)):RdB w p l∧n≤c:=by
 have hl:=h.1
 rw [List.length_map]at hl
 obtain⟨_,_,hv,hnc,_,h0,hcell⟩:=h.cells hm
 cases hv
 refine⟨⟨fun hp=>h0 ?_,fun i hi=> ?_⟩,hnc⟩
 · rcases Nat.eq_zero_or_pos n with h1|h1
   · subst h1;omega
   · exact h1
 obtain⟨a,rfl,ha⟩:=hcell i (v8 (l.getD i 0)) (by rw [List.getElem?_map,List.getElem?_eq_getElem hi,List.getD_eq_getElem?_getD,List.getElem?_eq_getElem hi];rfl)
 exact ha
section
variable {pp u v:Value} {x y z:List Byte}
theorem msg_setx(hx:x.length=16)(hz:z.length=16):(msgC pp u v x y).take 3++z.map v8++(msgC pp u v x y).drop (3+16)=msgC pp u v z y:=by
 have h:(msgC pp u v x y).drop (3+16)=y.map v8:=by
   show(x.map v8++y.map v8).drop 16=_
   rw [List.drop_append_of_le_length (by simp [hx]),List.drop_eq_nil_of_le (by simp [hx]),List.nil_append]
 rw [h]
 show([pp,u,v]++z.map v8)++y.map v8=[pp,u,v]++(z.map v8++y.map v8)
 rw [List.append_assoc]
theorem msg_sety(hx:x.length=16)(hy:y.length=16)(hz:z.length=16):(msgC pp u v x y).take 19++z.map v8++(msgC pp u v x y).drop (19+16)=msgC pp u v x z:=by
 have h1:(msgC pp u v x y).drop (19+16)=[]:=List.drop_eq_nil_of_le (by rw [msg_length hx hy];omega)
 have h2:(msgC pp u v x y).take 19=[pp,u,v]++x.map v8:=by
   show [pp,u,v]++(x.map v8++y.map v8).take 16=_
   rw [List.take_append_of_le_length (by simp [hx]),List.take_of_length_le (by simp [hx])]
 rw [h1,h2,List.append_nil,List.append_assoc];rfl
end
theorem cturn_ok(g:Nat)(F:Int→Int→List Byte→List Byte)(hF:∀j m x,(F j m x).length=16)(ls:List (List Byte))(q:Option Addr)(d:Nat)(l:List Byte)(p:Option Addr)(c:Nat)(back:Bool)(a b:Int)(hab:(back=false∧a=1∧b=2)∨(back=true∧a=2∧b=1))(w0:World)(hr:RdR w0 q ls)(hrd:ls.length≤d)(hrm:ls.length≤70368744177000)(hrs:∀i,(ls.getD i []).length≤70368744177000)(hl:RdB w0 p l)(hlc:l.length≤c)(h32:32≤l.length)(h300:l.length≤300)
   (CE:∀wx,Ext w0 wx→∀(j m:Int)(x:List Byte),x.length=16→j≤9223372036854775807→m≤9223372036854775807→Gives Tryz.prog 98 #[.pointer (some ⟨g,0,none⟩), .int .i64 j, .int .i64 m,A8 x] wx (A8 (F j m x))):
   Calls Tryz.prog 96 #[.pointer (some ⟨g,0,none⟩), .slice q ls.length d, .slice p l.length c, .bool back] w0 fun e w'=>∃px cx,e= .returned (.tuple #[.slice px l.length cx, .int .i64 0])∧l.length≤cx∧RdB w' px (coreL F (hashG F ls) a b l)∧Ext w0 w':=by
 have hm:=Own.start w0
 have hlen:=coreL_length F hF (hashG F ls) a b l h32
 have H1:=hid fun (wx:World)(hx:Ext w0 wx)=>hhash_any (.pointer (some ⟨g,0,none⟩)) rfl rfl F hF ls q d wx (hr.ext hx) hrd hrm hrs (fun wy hy j m x e1 e2 e3=>CE wy (hx.trans hy) j m x e1 e2 e3)
 have lH:=hashG_length F ls
 have HL:=hid hl
 have HE:=hid CE
 have HF:=hid hF
 have A1:=hid fun w (hx:Ext w0 w)=>apart_any l p c h32 h300 hlc w (hl.ext hx)
 have ok:=splitT_ok l h32
 obtain⟨n,hn⟩:∃n,n=(l.length-32)/32:=⟨_,rfl⟩
 obtain⟨H,hH⟩:∃H,H=hashG F ls:=⟨_,rfl⟩
 have oc:=coreT_ok F hF H a b n (splitT l) (hn ▸ ok)
 have ec:coreL F (hashG F ls) a b l=joinT (coreT F H a b n (splitT l)):=by rw [hH,hn];rfl
 rw [ec]at hlen⊢
 rw [←hn]at A1 ok
 rw [←hH]at H1 lH
 obtain⟨ps,u,v,x,y,hsp⟩:∃ps u v x y,splitT l=⟨ps,u,v,x,y⟩:=⟨_,_,_,_,_,rfl⟩
 rw [hsp]at A1 ok ec oc hlen⊢
 have lps:ps.length=32*n:=ok.ps
 have lu:u.length≤16:=ok.u
 have lv:v.length<16:=by have:v.length≤15:=ok.v;omega
 have lx:x.length=16:=ok.x
 have ly:y.length=16:=ok.y
 have hn2:n≤300:=by omega
 obtain⟨X1,hX1⟩:∃V,V=sumG (xF F ps) n:=⟨_,rfl⟩
 obtain⟨TL,hTL⟩:∃V,V=tailL F u v:=⟨_,rfl⟩
 obtain⟨P,hP⟩:∃V,V=bothL X1 TL:=⟨_,rfl⟩
 obtain⟨EY,hEY⟩:∃V,V=F 0 a y:=⟨_,rfl⟩
 obtain⟨S,hS⟩:∃V,V=bothL (bothL (bothL x H) P) EY:=⟨_,rfl⟩
 obtain⟨ES,hES⟩:∃V,V=F (-1) a S:=⟨_,rfl⟩
 obtain⟨T,hT⟩:∃V,V=bothL y ES:=⟨_,rfl⟩
 obtain⟨Z,hZ⟩:∃V,V=bothL S T:=⟨_,rfl⟩
 obtain⟨EU,hEU⟩:∃V,V=F (-1) 4 Z:=⟨_,rfl⟩
 obtain⟨EV,hEV⟩:∃V,V=F (-1) 5 Z:=⟨_,rfl⟩
 obtain⟨U2,hU2⟩:∃V,V=xorL u EU:=⟨_,rfl⟩
 obtain⟨V2,hV2⟩:∃V,V=xorL v EV:=⟨_,rfl⟩
 obtain⟨O1,hO1⟩:∃V,V=oneP F ps n:=⟨_,rfl⟩
 obtain⟨Y1,hY1⟩:∃V,V=sumG (yF F Z O1) n:=⟨_,rfl⟩
 obtain⟨P2,hP2⟩:∃V,V=glueF (fsF F Z O1) n:=⟨_,rfl⟩
 obtain⟨TL2,hTL2⟩:∃V,V=tailL F U2 V2:=⟨_,rfl⟩
 obtain⟨Q,hQ⟩:∃V,V=bothL Y1 TL2:=⟨_,rfl⟩
 obtain⟨ET,hET⟩:∃V,V=F (-1) b T:=⟨_,rfl⟩
 obtain⟨Y2,hY2⟩:∃V,V=bothL S ET:=⟨_,rfl⟩
 obtain⟨EX,hEX⟩:∃V,V=F 0 b Y2:=⟨_,rfl⟩
 obtain⟨X2,hX2⟩:∃V,V=bothL (bothL (bothL T H) Q) EX:=⟨_,rfl⟩
 have eJ:coreT F H a b n ⟨ps,u,v,x,y⟩=⟨P2,U2,V2,X2,Y2⟩:=by
   subst hX2;subst hEX;subst hY2;subst hET;subst hQ;subst hTL2;subst hP2;subst hY1;subst hO1;subst hV2;subst hU2;subst hEV;subst hEU;subst hZ;subst hT;subst hES;subst hS;subst hEY;subst hP;subst hTL;subst hX1
   rfl
 rw [eJ]at oc hlen⊢
 have OC:=hid oc
 have HLEN:=hid hlen
 have lX1:X1.length=16:=by rw [hX1];exact sumG_length _ _
 have lTL:TL.length=16:=by rw [hTL];exact tailL_length F hF _ _
 have lP:P.length=16:=by rw [hP];exact bothL_length _ _
 have lEY:EY.length=16:=by rw [hEY];exact hF _ _ _
 have lS:S.length=16:=by rw [hS];exact bothL_length _ _
 have lES:ES.length=16:=by rw [hES];exact hF _ _ _
 have lT:T.length=16:=by rw [hT];exact bothL_length _ _
 have lZ:Z.length=16:=by rw [hZ];exact bothL_length _ _
 have lEU:EU.length=16:=by rw [hEU];exact hF _ _ _
 have lEV:EV.length=16:=by rw [hEV];exact hF _ _ _
 have lU2:U2.length=u.length:=by rw [hU2,xorL_length,lEU];omega
 have lV2:V2.length=v.length:=by rw [hV2,xorL_length,lEV];omega
 have lO1:O1.length=32*n:=by rw [hO1];exact oneP_length F ps n
 have lY1:Y1.length=16:=by rw [hY1];exact sumG_length _ _
 have lP2:P2.length=32*n:=oc.ps
 have lTL2:TL2.length=16:=by rw [hTL2];exact tailL_length F hF _ _
 have lQ:Q.length=16:=by rw [hQ];exact bothL_length _ _
 have lET:ET.length=16:=by rw [hET];exact hF _ _ _
 have lY2:Y2.length=16:=by rw [hY2];exact bothL_length _ _
 have lEX:EX.length=16:=by rw [hEX];exact hF _ _ _
 have lX2:X2.length=16:=by rw [hX2];exact bothL_length _ _
 have a63:a≤9223372036854775807:=by rcases hab with ⟨_,rfl,_⟩|⟨_,rfl,_⟩<;>omega
 have b63:b≤9223372036854775807:=by rcases hab with ⟨_,_,rfl⟩|⟨_,_,rfl⟩<;>omega
 have E1:=hid fun w (h:Ext w0 w)=>hEY ▸ HE.out w h 0 a y ly (by omega) a63
 have E2:=hid fun w (h:Ext w0 w)=>hES ▸ HE.out w h (-1) a S lS (by omega) a63
 have E3:=hid fun w (h:Ext w0 w)=>hEU ▸ HE.out w h (-1) 4 Z lZ (by omega) (by omega)
 have E4:=hid fun w (h:Ext w0 w)=>hEV ▸ HE.out w h (-1) 5 Z lZ (by omega) (by omega)
 have E5:=hid fun w (h:Ext w0 w)=>hET ▸ HE.out w h (-1) b T lT (by omega) b63
 have E6:=hid fun w (h:Ext w0 w)=>hEX ▸ HE.out w h 0 b Y2 lY2 (by omega) b63
 have D1:=hid fun (w:World)(p:Option Addr)(c:Nat)(hc:2≤c)(hk:RdK w p 16 [X1,TL])=>show Gives Tryz.prog 117 #[.slice p 2 c] w (A8 P)from hP ▸ cplus_two _ _ lX1 lTL p c w hk hc
 have D2:=hid fun (w:World)(p:Option Addr)(c:Nat)(hc:4≤c)(hk:RdK w p 16 [x,H,P,EY])=>show Gives Tryz.prog 117 #[.slice p 4 c] w (A8 S)from hS ▸ cplus_four _ _ _ _ lx p c w hk hc
 have D3:=hid fun (w:World)(p:Option Addr)(c:Nat)(hc:2≤c)(hk:RdK w p 16 [y,ES])=>show Gives Tryz.prog 117 #[.slice p 2 c] w (A8 T)from hT ▸ cplus_two _ _ ly lES p c w hk hc
 have D4:=hid fun (w:World)(p:Option Addr)(c:Nat)(hc:2≤c)(hk:RdK w p 16 [S,T])=>show Gives Tryz.prog 117 #[.slice p 2 c] w (A8 Z)from hZ ▸ cplus_two _ _ lS lT p c w hk hc
 have D5:=hid fun (w:World)(p:Option Addr)(c:Nat)(hc:2≤c)(hk:RdK w p 16 [Y1,TL2])=>show Gives Tryz.prog 117 #[.slice p 2 c] w (A8 Q)from hQ ▸ cplus_two _ _ lY1 lTL2 p c w hk hc
 have D6:=hid fun (w:World)(p:Option Addr)(c:Nat)(hc:2≤c)(hk:RdK w p 16 [S,ET])=>show Gives Tryz.prog 117 #[.slice p 2 c] w (A8 Y2)from hY2 ▸ cplus_two _ _ lS lET p c w hk hc
 have D7:=hid fun (w:World)(p:Option Addr)(c:Nat)(hc:4≤c)(hk:RdK w p 16 [T,H,Q,EX])=>show Gives Tryz.prog 117 #[.slice p 4 c] w (A8 X2)from hX2 ▸ cplus_four _ _ _ _ lT p c w hk hc
 have k1:=hid (show∀q∈[X1,TL],q.length=16 from by simp [lX1,lTL])
 have k2:=hid (show∀q∈[x,H,P,EY],q.length=16 from by simp [lx,lH,lP,lEY])
 have k3:=hid (show∀q∈[y,ES],q.length=16 from by simp [ly,lES])
 have k4:=hid (show∀q∈[S,T],q.length=16 from by simp [lS,lT])
 have k5:=hid (show∀q∈[Y1,TL2],q.length=16 from by simp [lY1,lTL2])
 have k6:=hid (show∀q∈[S,ET],q.length=16 from by simp [lS,lET])
 have k7:=hid (show∀q∈[T,H,Q,EX],q.length=16 from by simp [lT,lH,lQ,lEX])
 have AH:=hid fun (M R:List Blk)(pp:Value)(w1 w:World)(h1:Ext w0 w1)(u v:Value)(hm:Own w1 w (M++R))(hs:SlO M 223 32 pp n (ps.map v8))=>show Calls Tryz.prog 118 #[.agg (msgC pp u v x y).toArray, .pointer (some ⟨g,0,none⟩)] w fun e w'=>e= .returned (A8 X1)∧∃M',Own w1 w' (M'++R)∧SlO M' 223 32 pp n (O1.map v8)from
   hX1 ▸ hO1 ▸ ahead_sl hm hs lps (by omega) u v x y lx ly hF (fun wx hx=>CE wx (h1.trans hx))
 have BH:=hid fun (M R:List Blk)(pp:Value)(w1 w:World)(h1:Ext w0 w1)(u v:Value)(hm:Own w1 w (M++R))(hs:SlO M 223 32 pp n (O1.map v8))=>show Calls Tryz.prog 120 #[.agg (msgC pp u v x y).toArray, .pointer (some ⟨g,0,none⟩),A8 Z] w fun e w'=>e= .returned (A8 Y1)∧∃M',Own w1 w' (M'++R)∧SlO M' 223 32 pp n (P2.map v8)from
   hY1 ▸ hP2 ▸ behind_sl hm hs lO1 (by omega) u v x y Z lx ly lZ hF (fun wx hx=>CE wx (h1.trans hx))
 have TA:=hid fun (pp:Value)(pu pv:Option Addr)(cu cv:Nat)(w:World)(h1:Ext w0 w)(hu:RdB w pu u)(hv:RdB w pv v)=>show Gives Tryz.prog 119 #[.agg (msgC pp (.slice pu u.length cu) (.slice pv v.length cv) x y).toArray, .pointer (some ⟨g,0,none⟩)] w (A8 TL)from
   hTL ▸ ctail_any pp u v pu pv cu cv x y lx ly (.pointer (some ⟨g,0,none⟩)) F hF lu lv w hu hv (fun wx hx=>CE wx (h1.trans hx))
 have TB:=hid fun (pp:Value)(pu pv:Option Addr)(cu cv:Nat)(w:World)(h1:Ext w0 w)(hu:RdB w pu U2)(hv:RdB w pv V2)=>show Gives Tryz.prog 119 #[.agg (msgC pp (.slice pu U2.length cu) (.slice pv V2.length cv) x y).toArray, .pointer (some ⟨g,0,none⟩)] w (A8 TL2)from
   hTL2 ▸ ctail_any pp U2 V2 pu pv cu cv x y lx ly (.pointer (some ⟨g,0,none⟩)) F hF (by omega) (by omega) w hu hv (fun wx hx=>CE wx (h1.trans hx))
 have XU:=hid fun (B:Nat)(w:World)(p r:Option Addr)(c:Nat)(hu:RdB w p u)(hr:RdB w r EU)(hB:B≤w.heap.size)=>show GivesR Tryz.prog 81 #[.slice p u.length c, .slice r 16 16] w (XorS B U2)from by
   have:=xor_new B u EU p r c 16 w hu hr (by omega) (by omega) hB
   rwa [lEU,←hU2]at this
 have XV:=hid fun (B:Nat)(w:World)(p r:Option Addr)(c:Nat)(hv:RdB w p v)(hr:RdB w r EV)(hB:B≤w.heap.size)=>show GivesR Tryz.prog 81 #[.slice p v.length c, .slice r 16 16] w (XorS B V2)from by
   have:=xor_new B v EV p r c 16 w hv hr (by omega) (by omega) hB
   rwa [lEV,←hV2]at this
 have CB:=hid fun (q:Option Addr)(cap:Nat)(pu pv:Option Addr)(cu cv:Nat)(w:World)(hp:RdB w q P2)(hnc:n≤cap)(hu:RdB w pu U2)(hv:RdB w pv V2)=>cbytes_any q n cap ⟨P2,U2,V2,X2,Y2⟩ pu pv cu cv oc (by omega) w hp hnc hu hv
 clear hX1 hTL hP hEY hS hES hT hZ hEU hEV hU2 hV2 hO1 hY1 hP2 hTL2 hQ hET hY2 hEX hX2 eJ hlen oc ec hsp ok hH hn CE hF hl hr lps lu lv lO1 lP2 lU2 lV2
 generalize joinT ⟨P2,U2,V2,X2,Y2⟩=D at*
 have e300:(l.length:Int)≤300:=by omega
 have n1:decide ((l.length:Int)<32)=false:=decide_eq_false (by omega)
 have n2:¬(l.length:Int)<32:=by omega
 rcases hab with ⟨rfl,rfl,rfl⟩|⟨rfl,rfl,rfl⟩
 all_goals
   go_enter Tryz.func96,Tryz.ntmps96
   go_wp2_with (first|(go_at_call 97;(with_reducible refine(H1.out _ hm.x).mono ?_);rintro e_ w ⟨rfl,hx_⟩;replace hm:=hm.ext hx_;clear hx_)|((with_reducible show qSt);refine zE hm ?_;clear hm;intro w hm)|(((with_reducible show qAl);refine zG hm ?_);clear hm;(first|(have hx_:=g1;clear hx_;(first|(have hx_:=g2;clear hx_;(first|(have hx_:=g3;clear hx_;(first|(have hx_:=g4;clear hx_;(first|(have hx_:=g5;clear hx_;(first|(have hx_:=g6;clear hx_;(first|(have hx_:=g7;clear hx_;(first|(have hx_:=g8;clear hx_;(first|(have hx_:=g9;clear hx_;intro gx_)|intro g9))|intro g8))|intro g7))|intro g6))|intro g5))|intro g4))|intro g3))|intro g2))|intro g1);intro w hm))
   have HH:=hid (hm.rdB (g:=g1) (l:=H) (by repeat (first|exact Has.hd|assumption|apply Has.tl|apply Has.app)))
   have hx1:=hm.x
   clear hm
   refine(A1.out _ hx1).mono ?_
   rintro e w1 ⟨pp,pu,pv,cu,cv,M,rfl,ru,rv,hs,hm⟩
   obtain⟨qp,cp,rfl⟩:=hs.form
   have RU:=hid ru
   have RV:=hid rv
   have HS:=hid hs
   clear ru rv hs
   obtain⟨wb,hwb⟩:∃v,v=w:=⟨_,rfl⟩
   rw [←hwb]at hm HH RU RV hx1
   clear hwb
   obtain⟨w,rfl⟩:∃v,v=w1:=⟨_,rfl⟩
   have lSM:=msg_length (pp:= .slice qp n cp) (u:= .slice pu u.length cu) (v:= .slice pv v.length cv) lx ly
   go_wp2_with (first|((with_reducible show wpList _ _ _ (Oper.mk _ (Op.store 202 _ _) _ _ _ _::_) _ _);(with_reducible apply wq_stW hm);exact rfl;infer_instance;exact rfl;exact rfl;(focus ((repeat (first|exact .hd|apply Swap.tl|apply Swap.app|apply Swap.app));done));(exact lSM);(focus (first|assumption|(simp;done)));(exact msg_one rfl rfl rfl);clear hm;intro w hm)|(((with_reducible show qAl);refine zG hm ?_);clear hm;(first|(have hx_:=g1;clear hx_;(first|(have hx_:=g2;clear hx_;(first|(have hx_:=g3;clear hx_;(first|(have hx_:=g4;clear hx_;(first|(have hx_:=g5;clear hx_;(first|(have hx_:=g6;clear hx_;(first|(have hx_:=g7;clear hx_;(first|(have hx_:=g8;clear hx_;(first|(have hx_:=g9;clear hx_;intro gx_)|intro g9))|intro g8))|intro g7))|intro g6))|intro g5))|intro g4))|intro g3))|intro g2))|intro g1);intro w hm))
   have TA1:=hid fun wx (h:Ext wb wx)=>TA.out (.slice qp n cp) pu pv cu cv wx (hx1.trans h) (RU.out.ext h) (RV.out.ext h)
   have AH1:=hid fun M R w hm hs=>AH.out M R (.slice qp n cp) wb w hx1 (.slice pu u.length cu) (.slice pv v.length cv) hm hs
   have FU:=hid (msg_u (pp:= .slice qp n cp) (u:= .slice pu u.length cu) (v:= .slice pv v.length cv) (x:=x) (y:=y))
   have FV:=hid (msg_v (pp:= .slice qp n cp) (u:= .slice pu u.length cu) (v:= .slice pv v.length cv) (x:=x) (y:=y))
   have FX:=hid (msg_x (pp:= .slice qp n cp) (u:= .slice pu u.length cu) (v:= .slice pv v.length cv) (x:=x) (y:=y) lx)
   have FY:=hid (msg_y (pp:= .slice qp n cp) (u:= .slice pu u.length cu) (v:= .slice pv v.length cv) (x:=x) (y:=y) lx ly)
   obtain⟨SM,hSM⟩:∃V,V=msgC (.slice qp n cp) (.slice pu u.length cu) (.slice pv v.length cv) x y:=⟨_,rfl⟩
   rw [←hSM]at TA1 AH1 FU FV FX FY lSM hm
   have HSM:=hid hSM
   clear hSM
   obtain⟨w',rfl⟩:∃w',w'=w:=⟨_,rfl⟩
   refine pregion 9 (KV wb [⟨g2,202,SM⟩] 223 32 (.slice qp n cp) n (ps.map v8) (O1.map v8) (A8 X1) 132 ((zer 16).map v8)) [2,8] 113 (by kernel_rfl) (by kernel_rfl) rfl (⟨none,none,rfl,CallV.start ((hm.perm (List.perm_append_singleton _ _).symm).ext (drew_ext _)) HS.out⟩) ?_
   simp only [zTa]
   repeat (first
       | (apply pwalk_mark (T:=[]) 0 [] rfl rfl rfl (by kernel_rfl) rfl
          · (intro vs_ wx hJ_ hn_ hD_;simp only [pwithS];obtain⟨a_,b_,rfl,hX_⟩:=hJ_;obtain rfl:a_=none:=(by simpa using hn_);obtain⟨M_,hm,hs_⟩:=hX_.call0;refine⟨rfl, ?_⟩;go_wp2_with (go_at_call 118;(with_reducible refine(AH1.out _ _ _ hm hs_).mono ?_);rintro e_ w_ ⟨rfl,M1_,hm1_,hs1_⟩);exact hX_.k0 hm1_ hs1_))
       |(apply pwalk_from_some (T:=[(38,PMk 0)]) (KeysQ [X1,TL]) 42 (KeysQ.stable _) rfl rfl rfl rfl;(intro vs_ wx hJ_;simp only [pwithS];intro x_ hx_;obtain⟨a_,b_,rfl,hX_⟩:=hJ_;obtain rfl:a_=some x_:=(by simpa [PMk]using hx_);obtain rfl:=hX_.pa _ rfl;refine⟨rfl, ?_⟩;exact gqk_bs2 k1.out (bs_run2 X1 TL lX1 lTL wx) rfl rfl))
       |(apply pwalk_from (T:=[(42,KeysQ [X1,TL])]) rfl rfl rfl;(intro vs_ wx hJ_;simp only [pwithS];rintro x_ ⟨_,p,c,rfl,hlc,hk'⟩;refine⟨rfl, ?_⟩;go_simp;exact gives_call (D1.out wx p c hlc hk'));(simp only [zPu];rfl))
       | (apply pwalk_mark (T:=[]) 1 [] rfl rfl rfl (by kernel_rfl) rfl
          · (intro vs_ wx hJ_ hn_ hD_;simp only [pwithS];obtain⟨a_,b_,rfl,hX_⟩:=hJ_;obtain rfl:b_=none:=(by simpa using hn_);obtain⟨M_,hm,hs_⟩:=hX_.new0;refine⟨rfl, ?_⟩;(with_reducible apply wq_newX hm);exact rfl;infer_instance;clear hm;intro g_ w_ hm hxx_ hg_;exact mark_end rfl (hX_.k1 hm hs_ hxx_)))
       | (apply pwalk_is rfl rfl rfl rfl
          · (intro vs_ wx hJ_;obtain⟨a_,b_,rfl,hX_⟩:=hJ_;have hm:=hX_.low;first|((with_reducible show qGl);first|(exact zJ hm)|(exact zK hm)|(exact zL hm))|(go_simp;(try go_bits);first|exact gives_same|exact gives_skip|with_reducible exact gives_call (TA1.out wx hm.x)))
          · (simp only [zPu];rfl)))
   intro vs_ wz hJ_ hl_ hall_
   simp only [zZi]
   repeat rw [pfin_is]
   rw [pfin_cons];intro x38 hx38
   repeat rw [pfin_is]
   rw [pfin_cons];intro y42 hy42
   repeat rw [pfin_is]
   rw [pfin_cons];intro x14 hx14
   repeat rw [pfin_is]
   rw [pfin_nil]
   simp only [zPu]
   obtain⟨a_,b_,rfl,hX_⟩:=hJ_
   obtain⟨p_,q_,rfl,rfl⟩:=some2 hall_
   obtain rfl:=pmk0 hx38
   obtain rfl:=pmk1 hx14
   clear hm
   obtain⟨rfl,g14,M1,rfl,hm,hs1⟩:=hX_.fin
   have HS1:=hid hs1
   clear hX_ hl_ hall_ hx38 hx14 hy42 hs1
   obtain⟨w,rfl⟩:∃w',w'=wz:=⟨_,rfl⟩
   go_wp2_with (first|((with_reducible show qSt);refine zE hm ?_;clear hm;intro w hm))
   have hx0:=hm.x
   refine region_new 12 (fun w'=>Ext _ w') 113 (by kernel_rfl) (by kernel_rfl) rfl (fun _ _ h k=>h.trans k) (drew_ext _) ?_
   simp only [zTa]
   repeat (first
       | (apply walk_some (NewS (w.heap.size) 132 ((zer 16).map v8)) 15 (NewS.stable _ _ _) rfl rfl rfl rfl
          · (intro wx hwx;go_simp;exact gives_new (cs:=(zer 16).map v8) hwx.size))
       |(apply walk_is rfl rfl rfl;(intro wx hwx;(with_reducible apply gq_ldN (hm.ext hwx));infer_instance;exact rfl;(focus ((repeat (first|exact .hd|assumption|apply Has.tl|apply Has.app));done));(exact FX.out);(exact((List.length_map ..).trans lx)));(simp only [zPu];rfl))
       |(apply walk_is rfl rfl rfl;(intro wx hwx;(with_reducible apply gq_ldN (hm.ext hwx));infer_instance;exact rfl;(focus ((repeat (first|exact .hd|assumption|apply Has.tl|apply Has.app));done));(exact FY.out);(exact((List.length_map ..).trans ly)));(simp only [zPu];rfl))
       | (apply walk_is rfl rfl rfl
          · (intro wx hwx;(with_reducible apply gq_rdW ((fun wx hwx=>HH.out.ext (hx0.trans hwx)) wx hwx));infer_instance;exact rfl;(focus (first|rfl|omega|(simp;done)|(simp;omega))))
          · (simp only [zPu];rfl))
       |(apply walk_some (KeysS ([x,H,P,EY])) 53 (KeysS.stable _) rfl rfl rfl rfl;(intro wx hwx;exact gq_bs4 (k2.out) (bs_run4 x H P EY lx lH lP lEY wx) rfl rfl rfl rfl))
       | (apply walk_from (T:=[(53,KeysS [x,H,P,EY])]) rfl rfl
          · (intro wx hwx;simp only [withS];(rintro x_ ⟨p,c,rfl,hlc,hk'⟩);refine⟨rfl, ?_⟩;go_simp;exact gives_call (D2.out wx p c hlc hk'))
          · (simp only [zPu];rfl))
       | (apply walk_is rfl rfl rfl
          · (intro wx hwx;first|((with_reducible show qGl);exact zK (hm.ext hwx))|(go_simp;(try go_bits);first|exact gives_same|exact gives_skip|with_reducible exact gives_call (E1.out wx ((hx1.trans hx0).trans hwx))))
          · (simp only [zPu];rfl))
       | (apply walk_not rfl rfl rfl
          · (simp only [zPu];rfl)))
   intro wz hwz
   simp only [zZi]
   repeat rw [fin_is]
   rw [fin_cons];intro y53 hy53
   repeat rw [fin_is]
   rw [fin_cons];intro x15 hx15
   repeat rw [fin_is]
   rw [fin_nil];intro hap
   simp only [zPu]at hap⊢
   clear hy53
   obtain⟨g15_,rfl,hg15,hr15⟩:=hx15
   replace hm:=hm.push hwz hg15 hr15
   clear hap hr15
   clear hx0
   go_wp2_with (first|((with_reducible show qSt);refine zE hm ?_;clear hm;intro w hm))
   have hx0:=hm.x
   refine region_new 9 (fun w'=>Ext _ w') 113 (by kernel_rfl) (by kernel_rfl) rfl (fun _ _ h k=>h.trans k) (drew_ext _) ?_
   simp only [zTa]
   repeat (first
       | (apply walk_some (NewS (w.heap.size) 132 ((zer 16).map v8)) 16 (NewS.stable _ _ _) rfl rfl rfl rfl
          · (intro wx hwx;go_simp;exact gives_new (cs:=(zer 16).map v8) hwx.size))
       |(apply walk_is rfl rfl rfl;(intro wx hwx;(with_reducible apply gq_ldN (hm.ext hwx));infer_instance;exact rfl;(focus ((repeat (first|exact .hd|assumption|apply Has.tl|apply Has.app));done));(exact FY.out);(exact((List.length_map ..).trans ly)));(simp only [zPu];rfl))
       |(apply walk_some (KeysS ([y,ES])) 61 (KeysS.stable _) rfl rfl rfl rfl;(intro wx hwx;exact gq_bs2 (k3.out) (bs_run2 y ES ly lES wx) rfl rfl))
       | (apply walk_from (T:=[(61,KeysS [y,ES])]) rfl rfl
          · (intro wx hwx;simp only [withS];(rintro x_ ⟨p,c,rfl,hlc,hk'⟩);refine⟨rfl, ?_⟩;go_simp;exact gives_call (D3.out wx p c hlc hk'))
          · (simp only [zPu];rfl))
       | (apply walk_is rfl rfl rfl
          · (intro wx hwx;first|((with_reducible show qGl);exact zK (hm.ext hwx))|(go_simp;(try go_bits);first|exact gives_same|exact gives_skip|with_reducible exact gives_call (E2.out wx ((hx1.trans hx0).trans hwx))))
          · (simp only [zPu];rfl))
       | (apply walk_not rfl rfl rfl
          · (simp only [zPu];rfl)))
   intro wz hwz
   simp only [zZi]
   repeat rw [fin_is]
   rw [fin_cons];intro y61 hy61
   repeat rw [fin_is]
   rw [fin_cons];intro x16 hx16
   repeat rw [fin_is]
   rw [fin_nil];intro hap
   simp only [zPu]at hap⊢
   clear hy61
   obtain⟨g16_,rfl,hg16,hr16⟩:=hx16
   replace hm:=hm.push hwz hg16 hr16
   clear hap hr16
   clear hx0
   go_wp2_with (first|((with_reducible apply wq_bs2 hm (bs_run2 S T lS lT _));exact rfl;exact rfl;exact rfl;clear hm;intro gq w hm)|(go_at_call 117;(with_reducible refine(D4.out _ _ _ (Nat.le_refl 2) (hm.rdK (by repeat (first|exact Has.hd|assumption|apply Has.tl|apply Has.app)) k4.out)).mono ?_);rintro e_ w ⟨rfl,hx_⟩;replace hm:=hm.ext hx_;clear hx_)|((with_reducible show qLd);refine zB hm ?_)|((with_reducible show qSt);refine zE hm ?_;clear hm;intro w hm)|(((with_reducible show qAl);refine zG hm ?_);clear hm;(first|(have hx_:=g1;clear hx_;(first|(have hx_:=g2;clear hx_;(first|(have hx_:=g3;clear hx_;(first|(have hx_:=g4;clear hx_;(first|(have hx_:=g5;clear hx_;(first|(have hx_:=g6;clear hx_;(first|(have hx_:=g7;clear hx_;(first|(have hx_:=g8;clear hx_;(first|(have hx_:=g9;clear hx_;intro gx_)|intro g9))|intro g8))|intro g7))|intro g6))|intro g5))|intro g4))|intro g3))|intro g2))|intro g1);intro w hm))
   obtain⟨w',rfl⟩:∃w',w'=w:=⟨_,rfl⟩
   refine pregion 10 (K2 _ _ 132 ((zer 16).map v8) (EU.map v8) (EV.map v8)) [6,7,8,9] 113 (by kernel_rfl) (by kernel_rfl) rfl (⟨none,none,none,none,rfl,TwoV.start (hm.ext (drew_ext _))⟩) ?_
   simp only [zTa]
   repeat (first
       |(apply pwalk_mark (T:=[]) 0 [] rfl rfl rfl rfl rfl;(intro vs_ wx hJ_ hn_ hD_;simp only [pwithS];obtain⟨a_,b_,c_,d_,rfl,hT_⟩:=hJ_;obtain rfl:a_=none:=(by simpa using hn_);have hm:=hT_.oa;refine⟨rfl, ?_⟩;refine zG hm ?_;clear hm;intro g_ w_ hm;exact mark_end rfl (hT_.j0 hm)))
       |(apply pwalk_mark (T:=[]) 1 [] rfl rfl rfl rfl rfl;(intro vs_ wx hJ_ hn_ hD_;simp only [pwithS];obtain⟨a_,b_,c_,d_,rfl,hT_⟩:=hJ_;obtain rfl:b_=none:=(by simpa using hn_);have hm:=hT_.ob;refine⟨rfl, ?_⟩;refine zG hm ?_;clear hm;intro g_ w_ hm;exact mark_end rfl (hT_.j1 hm)))
       |(apply pwalk_mark (T:=[(18,PMk 0)]) 2 [] rfl rfl rfl rfl rfl;(intro vs_ wx hJ_ hn_ hD_;simp only [pwithS];obtain⟨a_,b_,c_,d_,rfl,hT_⟩:=hJ_;obtain rfl:c_=none:=(by simpa using hn_);intro x_ hx_;obtain rfl:a_=some x_:=(by simpa [PMk]using hx_);obtain⟨g_,rfl,hm⟩:=hT_.sa;refine⟨rfl, ?_⟩;refine zE hm ?_;clear hm;intro w_ hm;exact mark_end rfl (fun u_=>hT_.j2 hm)))
       |(apply pwalk_mark (T:=[(19,PMk 1)]) 3 [] rfl rfl rfl rfl rfl;(intro vs_ wx hJ_ hn_ hD_;simp only [pwithS];obtain⟨a_,b_,c_,d_,rfl,hT_⟩:=hJ_;obtain rfl:d_=none:=(by simpa using hn_);intro x_ hx_;obtain rfl:b_=some x_:=(by simpa [PMk]using hx_);obtain⟨g_,rfl,hm⟩:=hT_.sb;refine⟨rfl, ?_⟩;refine zE hm ?_;clear hm;intro w_ hm;exact mark_end rfl (fun u_=>hT_.j3 hm)))
       | (apply pwalk_is rfl rfl rfl rfl
          · (intro vs_ wx hJ_;obtain⟨a_,b_,c_,d_,rfl,hT_⟩:=hJ_;have hm:=hT_.low;first|((with_reducible show qGl);first|(exact zJ hm)|(exact zK hm)|(exact zL hm))|(go_simp;(try go_bits);first|exact gives_same|exact gives_skip|with_reducible exact gives_call (E3.out wx (hx1.trans hm.x))|with_reducible exact gives_call (E4.out wx (hx1.trans hm.x))))
          · (simp only [zPu];rfl)))
   intro vs_ wz hJ_ hl_ hall_
   simp only [zZi]
   repeat rw [pfin_is]
   rw [pfin_cons];intro x18 hx18
   repeat rw [pfin_is]
   rw [pfin_cons];intro x19 hx19
   repeat rw [pfin_is]
   rw [pfin_cons];intro y18 hy18
   repeat rw [pfin_is]
   rw [pfin_cons];intro y19 hy19
   repeat rw [pfin_is]
   rw [pfin_nil]
   simp only [zPu]
   obtain⟨a_,b_,c_,d_,rfl,hT_⟩:=hJ_
   obtain⟨p_,q_,r_,s_,rfl,rfl,rfl,rfl⟩:=some4 hall_
   clear hm
   obtain⟨g18_,g19_,rfl,rfl,hm⟩:=hT_.fin
   obtain rfl:=pmk0 hx18
   obtain rfl:=pmk1 hx19
   clear hT_ hl_ hall_ hx18 hx19 hy18 hy19 y18 y19
   obtain⟨w,rfl⟩:∃w',w'=wz:=⟨_,rfl⟩
   have hx0:=hm.x
   have hlt:=hm.lt
   have c1:=fun wx (hwx:Ext w wx)=>XU.out w.heap.size wx pu (some ⟨g18_,0,none⟩) cu (RU.out.ext (hx0.trans hwx)) ((hm.ext hwx).rdB (by repeat (first|exact Has.hd|assumption|apply Has.tl|apply Has.app))) hwx.size
   have c2:=fun wx (hwx:Ext w wx)=>XV.out w.heap.size wx pv (some ⟨g19_,0,none⟩) cv (RV.out.ext (hx0.trans hwx)) ((hm.ext hwx).rdB (by repeat (first|exact Has.hd|assumption|apply Has.tl|apply Has.app))) hwx.size
   go_wp2_with fail
   refine region_new 9 (fun w'=>Ext _ w') 113 (by kernel_rfl) (by kernel_rfl) rfl (fun _ _ h k=>h.trans k) (drew_ext _) ?_
   simp only [zTa]
   repeat (first
       |(apply walk_is rfl rfl rfl;(intro wx hwx;(with_reducible apply gq_ld1 (hm.ext hwx));infer_instance;exact rfl;(focus ((repeat (first|exact .hd|assumption|apply Has.tl|apply Has.app));done));(exact FU.out));(simp only [zPu];rfl))
       |(apply walk_is rfl rfl rfl;(intro wx hwx;(with_reducible apply gq_ld1 (hm.ext hwx));infer_instance;exact rfl;(focus ((repeat (first|exact .hd|assumption|apply Has.tl|apply Has.app));done));(exact FV.out));(simp only [zPu];rfl))
       | (apply walk_some (XorS w.heap.size U2) 76 (XorS.stable _ _) rfl rfl rfl rfl
          · (intro wx hwx;go_simp;with_reducible exact gives_callR (c1 wx hwx)))
       | (apply walk_some (XorS w.heap.size V2) 80 (XorS.stable _ _) rfl rfl rfl rfl
          · (intro wx hwx;go_simp;with_reducible exact gives_callR (c2 wx hwx)))
       | (apply walk_is rfl rfl rfl
          · (intro wx hwx;go_simp;(try go_bits);first|exact gives_same|exact gives_skip)
          · (simp only [zPu];rfl))
       | (apply walk_not rfl rfl rfl
          · (simp only [zPu];rfl)))
   intro wz hwz
   simp only [zZi]
   repeat rw [fin_is]
   rw [fin_cons];intro x76 hx76
   repeat rw [fin_is]
   rw [fin_cons];intro x80 hx80
   repeat rw [fin_is]
   rw [fin_nil];intro hap
   simp only [zPu]at hap⊢
   clear c1 c2 hap
   obtain⟨gU,rfl,bU,rU⟩:=hx76
   obtain⟨gV,rfl,bV,rV⟩:=hx80
   obtain⟨N,hmN,hN⟩:=own_two (hm.ext hwz) rU rV (Nat.le_trans hx0.size bU) (Nat.le_trans hx0.size bV) (fun x hx=>by have:=hlt x hx;omega) (fun x hx=>by have:=hlt x hx;omega)
   have HN:=hid hN
   clear hm hlt hx0 rU rV bU bV hN
   have hm:=hmN
   clear hmN
   obtain⟨w',rfl⟩:∃w',w'=wz:=⟨_,rfl⟩
   go_wp2_with (first|((with_reducible show wpList _ _ _ (Oper.mk _ (Op.store 22 _ _) _ _ _ _::_) _ _);(with_reducible apply wq_stf (v:= .slice (some ⟨gU,0,none⟩) U2.length U2.length) hm);exact rfl;infer_instance;exact rfl;exact rfl;exact rfl;exact rfl;(focus ((repeat (first|exact .hd|apply Swap.tl|apply Swap.app|apply Swap.app));done));exact rfl;(first|omega|(rw [List.length_set];omega));clear hm;intro w hm)|((with_reducible show wpList _ _ _ (Oper.mk _ (Op.store 22 _ _) _ _ _ _::_) _ _);(with_reducible apply wq_stf (v:= .slice (some ⟨gV,0,none⟩) V2.length V2.length) hm);exact rfl;infer_instance;exact rfl;exact rfl;exact rfl;exact rfl;(focus ((repeat (first|exact .hd|apply Swap.tl|apply Swap.app|apply Swap.app));done));exact rfl;(first|omega|(rw [List.length_set];omega));clear hm;intro w hm))
   have e2:(SM.set 1 (.slice (some ⟨gU,0,none⟩) U2.length U2.length)).set 2 (.slice (some ⟨gV,0,none⟩) V2.length V2.length)=msgC (.slice qp n cp) (.slice (some ⟨gU,0,none⟩) U2.length U2.length) (.slice (some ⟨gV,0,none⟩) V2.length V2.length) x y:=by rw [HSM.out];rfl
   rw [e2]at hm
   clear e2 HSM lSM FU FV FX FY TA1 AH1 HS
   have lSM:=msg_length (pp:= .slice qp n cp) (u:= .slice (some ⟨gU,0,none⟩) U2.length U2.length) (v:= .slice (some ⟨gV,0,none⟩) V2.length V2.length) lx ly
   have SX:=hid (msg_setx (pp:= .slice qp n cp) (u:= .slice (some ⟨gU,0,none⟩) U2.length U2.length) (v:= .slice (some ⟨gV,0,none⟩) V2.length V2.length) (y:=Y2) lx lX2)
   have SY:=hid (msg_sety (pp:= .slice qp n cp) (u:= .slice (some ⟨gU,0,none⟩) U2.length U2.length) (v:= .slice (some ⟨gV,0,none⟩) V2.length V2.length) lx ly lY2)
   have FY3:=hid (msg_y (pp:= .slice qp n cp) (u:= .slice (some ⟨gU,0,none⟩) U2.length U2.length) (v:= .slice (some ⟨gV,0,none⟩) V2.length V2.length) (x:=x) lx lY2)
   have lSM3:=msg_length (pp:= .slice qp n cp) (u:= .slice (some ⟨gU,0,none⟩) U2.length U2.length) (v:= .slice (some ⟨gV,0,none⟩) V2.length V2.length) lx lY2
   have lSM4:=msg_length (pp:= .slice qp n cp) (u:= .slice (some ⟨gU,0,none⟩) U2.length U2.length) (v:= .slice (some ⟨gV,0,none⟩) V2.length V2.length) lX2 lY2
   have BH1:=hid fun M R w hm hs=>BH.out M R (.slice qp n cp) wb w hx1 (.slice (some ⟨gU,0,none⟩) U2.length U2.length) (.slice (some ⟨gV,0,none⟩) V2.length V2.length) hm hs
   have TB1:=hid fun w (h:Ext w0 w) (hr:RdB w (some ⟨gU,0,none⟩) U2∧RdB w (some ⟨gV,0,none⟩) V2)=>TB.out (.slice qp n cp) (some ⟨gU,0,none⟩) (some ⟨gV,0,none⟩) U2.length V2.length w h hr.1 hr.2
   have CB1:=hid fun w (hp:RdB w qp P2∧n≤cp) (hr:RdB w (some ⟨gU,0,none⟩) U2∧RdB w (some ⟨gV,0,none⟩) V2)=>CB.out qp cp (some ⟨gU,0,none⟩) (some ⟨gV,0,none⟩) U2.length V2.length w hp.1 hp.2 hr.1 hr.2
   have hm2:=own_sub8 (M:=N++([⟨g3,132,Z.map v8⟩,⟨g16_,132,T.map v8⟩,⟨g15_,132,S.map v8⟩]++(M1++[⟨g2,202,msgC (.slice qp n cp) (.slice (some ⟨gU,0,none⟩) U2.length U2.length) (.slice (some ⟨gV,0,none⟩) V2.length V2.length) x y⟩]))) hm (List.Sublist.append (List.Sublist.refl N) (by repeat (first|exact List.Sublist.refl _|apply List.Sublist.cons_cons|apply List.Sublist.cons)))
   clear hm
   have hm:=hm2.perm (((perm_mid7 _ M1 _).append_left N).trans (perm_mid7 N M1 _))
   clear hm2
   obtain⟨SM2,hSM2⟩:∃V,V=msgC (.slice qp n cp) (.slice (some ⟨gU,0,none⟩) U2.length U2.length) (.slice (some ⟨gV,0,none⟩) V2.length V2.length) x y:=⟨_,rfl⟩
   obtain⟨SM3,hSM3⟩:∃V,V=msgC (.slice qp n cp) (.slice (some ⟨gU,0,none⟩) U2.length U2.length) (.slice (some ⟨gV,0,none⟩) V2.length V2.length) x Y2:=⟨_,rfl⟩
   obtain⟨SM4,hSM4⟩:∃V,V=msgC (.slice qp n cp) (.slice (some ⟨gU,0,none⟩) U2.length U2.length) (.slice (some ⟨gV,0,none⟩) V2.length V2.length) X2 Y2:=⟨_,rfl⟩
   rw [←hSM2]at lSM SY BH1 TB1 hm
   rw [←hSM3]at lSM3 SX SY FY3
   rw [←hSM4]at lSM4 SX
   have CB2:=hid fun w hp hr=>(hSM4 ▸ CB1.out w hp hr:GivesR Tryz.prog 121 #[.agg SM4.toArray] w (BytesS D))
   clear hSM2 hSM3 hSM4 CB1
   obtain⟨w',rfl⟩:∃w',w'=w:=⟨_,rfl⟩
   refine pregion 10 (KV wb (N++[⟨g3,132,Z.map v8⟩,⟨g16_,132,T.map v8⟩,⟨g15_,132,S.map v8⟩,⟨g2,202,SM2⟩]) 223 32 (.slice qp n cp) n (O1.map v8) (P2.map v8) (A8 Y1) 132 ((zer 16).map v8)) [3,9] 113 (by kernel_rfl) (by kernel_rfl) rfl (⟨none,none,rfl,CallV.start (hm.ext (drew_ext _)) HS1.out⟩) ?_
   simp only [zTa]
   repeat (first
       | (apply pwalk_mark (T:=[]) 0 [] rfl rfl rfl (by kernel_rfl) rfl
          · (intro vs_ wx hJ_ hn_ hD_;simp only [pwithS];obtain⟨a_,b_,rfl,hX_⟩:=hJ_;obtain rfl:a_=none:=(by simpa using hn_);obtain⟨M_,hm,hs_⟩:=hX_.call0;refine⟨rfl, ?_⟩;go_wp2_with (go_at_call 120;(with_reducible refine(BH1.out _ _ _ hm hs_).mono ?_);rintro e_ w_ ⟨rfl,M1_,hm1_,hs1_⟩);exact hX_.k0 hm1_ hs1_))
       |(apply pwalk_from_some (T:=[(86,PMk 0)]) (KeysQ [Y1,TL2]) 90 (KeysQ.stable _) rfl rfl rfl rfl;(intro vs_ wx hJ_;simp only [pwithS];intro x_ hx_;obtain⟨a_,b_,rfl,hX_⟩:=hJ_;obtain rfl:a_=some x_:=(by simpa [PMk]using hx_);obtain rfl:=hX_.pa _ rfl;refine⟨rfl, ?_⟩;exact gqk_bs2 k5.out (bs_run2 Y1 TL2 lY1 lTL2 wx) rfl rfl))
       |(apply pwalk_from (T:=[(90,KeysQ [Y1,TL2])]) rfl rfl rfl;(intro vs_ wx hJ_;simp only [pwithS];rintro x_ ⟨_,p,c,rfl,hlc,hk'⟩;refine⟨rfl, ?_⟩;go_simp;exact gives_call (D5.out wx p c hlc hk'));(simp only [zPu];rfl))
       | (apply pwalk_mark (T:=[]) 1 [] rfl rfl rfl (by kernel_rfl) rfl
          · (intro vs_ wx hJ_ hn_ hD_;simp only [pwithS];obtain⟨a_,b_,rfl,hX_⟩:=hJ_;obtain rfl:b_=none:=(by simpa using hn_);obtain⟨M_,hm,hs_⟩:=hX_.new0;refine⟨rfl, ?_⟩;(with_reducible apply wq_newX hm);exact rfl;infer_instance;clear hm;intro g_ w_ hm hxx_ hg_;exact mark_end rfl (hX_.k1 hm hs_ hxx_)))
       | (apply pwalk_is rfl rfl rfl rfl
          · (intro vs_ wx hJ_;obtain⟨a_,b_,rfl,hX_⟩:=hJ_;have hm:=hX_.low;first|((with_reducible show qGl);first|(exact zJ hm)|(exact zK hm)|(exact zL hm))|(go_simp;(try go_bits);first|exact gives_same|exact gives_skip|with_reducible exact gives_call (TB1.out wx (hx1.trans hm.x) (HN.out _ _ _ hm))))
          · (simp only [zPu];rfl)))
   intro vs_ wz hJ_ hl_ hall_
   simp only [zZi]
   repeat rw [pfin_is]
   rw [pfin_cons];intro x86 hx86
   repeat rw [pfin_is]
   rw [pfin_cons];intro y90 hy90
   repeat rw [pfin_is]
   rw [pfin_cons];intro x20 hx20
   repeat rw [pfin_is]
   rw [pfin_nil]
   simp only [zPu]
   obtain⟨a_,b_,rfl,hX_⟩:=hJ_
   obtain⟨p_,q_,rfl,rfl⟩:=some2 hall_
   obtain rfl:=pmk0 hx86
   obtain rfl:=pmk1 hx20
   clear hm
   obtain⟨rfl,g20,M2,rfl,hm,hs2⟩:=hX_.fin
   have HS2:=hid hs2
   clear hX_ hl_ hall_ hx86 hx20 hy90 hs2 HS1
   obtain⟨w,rfl⟩:∃w',w'=wz:=⟨_,rfl⟩
   go_wp2_with (first|((with_reducible show qSt);refine zE hm ?_;clear hm;intro w hm))
   have hx0:=hm.x
   refine rgE 8 113 ?_
   simp only [zTa]
   repeat (first
       |(apply walk_some (KeysS ([S,ET])) 97 (KeysS.stable _) rfl rfl rfl rfl;(intro wx hwx;exact gq_bs2 (k6.out) (bs_run2 S ET lS lET wx) rfl rfl))
       | (apply walk_from (T:=[(97,KeysS [S,ET])]) rfl rfl
          · (intro wx hwx;simp only [withS];(rintro x_ ⟨p,c,rfl,hlc,hk'⟩);refine⟨rfl, ?_⟩;go_simp;exact gives_call (D6.out wx p c hlc hk'))
          · (simp only [zPu];rfl))
       | (apply walk_is rfl rfl rfl
          · (intro wx hwx;first|((with_reducible show qGl);exact zK (hm.ext hwx))|(go_simp;(try go_bits);first|exact gives_same|exact gives_skip|with_reducible exact gives_call (E5.out wx ((hx1.trans hx0).trans hwx))))
          · (simp only [zPu];rfl))
       | (apply walk_not rfl rfl rfl
          · (simp only [zPu];rfl)))
   intro wz hwz
   simp only [zZi]
   repeat (first|rw [fin_is]|(rw [fin_cons];intro _ _))
   rw [fin_nil]
   try (replace hm:=hm.ext hwz)
   simp only [zPu]
   clear hx0
   obtain⟨w,rfl⟩:∃w',w'=wz:=⟨_,rfl⟩
   go_wp2_with (first|((with_reducible apply wq_stA hm);exact rfl;infer_instance;exact rfl;exact rfl;(focus ((repeat (first|exact .hd|assumption|apply Swap.tl|apply Swap.app));done));(exact SY.out);(exact((List.length_map ..).trans lY2));(exact(by rw [lSM];omega));(exact(one_map _));clear hm;intro w hm))
   have hx0:=hm.x
   refine rgE 11 113 ?_
   simp only [zTa]
   repeat (first
       |(apply walk_is rfl rfl rfl;(intro wx hwx;(with_reducible apply gq_ldN (hm.ext hwx));infer_instance;exact rfl;(focus ((repeat (first|exact .hd|assumption|apply Has.tl|apply Has.app));done));(exact FY3.out);(exact((List.length_map ..).trans lY2)));(simp only [zPu];rfl))
       | (apply walk_is rfl rfl rfl
          · (intro wx hwx;(with_reducible apply gq_rdW ((fun wx hwx=>HH.out.ext (hx0.trans hwx)) wx hwx));infer_instance;exact rfl;(focus (first|rfl|omega|(simp;done)|(simp;omega))))
          · (simp only [zPu];rfl))
       |(apply walk_some (KeysS ([T,H,Q,EX])) 108 (KeysS.stable _) rfl rfl rfl rfl;(intro wx hwx;exact gq_bs4 (k7.out) (bs_run4 T H Q EX lT lH lQ lEX wx) rfl rfl rfl rfl))
       | (apply walk_from (T:=[(108,KeysS [T,H,Q,EX])]) rfl rfl
          · (intro wx hwx;simp only [withS];(rintro x_ ⟨p,c,rfl,hlc,hk'⟩);refine⟨rfl, ?_⟩;go_simp;exact gives_call (D7.out wx p c hlc hk'))
          · (simp only [zPu];rfl))
       | (apply walk_is rfl rfl rfl
          · (intro wx hwx;first|((with_reducible show qGl);exact zK (hm.ext hwx))|(go_simp;(try go_bits);first|exact gives_same|exact gives_skip|with_reducible exact gives_call (E6.out wx ((hx1.trans hx0).trans hwx))))
          · (simp only [zPu];rfl))
       | (apply walk_not rfl rfl rfl
          · (simp only [zPu];rfl)))
   intro wz hwz
   simp only [zZi]
   repeat (first|rw [fin_is]|(rw [fin_cons];intro _ _))
   rw [fin_nil]
   try (replace hm:=hm.ext hwz)
   simp only [zPu]
   clear hx0
   obtain⟨w,rfl⟩:∃w',w'=wz:=⟨_,rfl⟩
   go_wp2_with (first|((with_reducible apply wq_stA hm);exact rfl;infer_instance;exact rfl;exact rfl;(focus ((repeat (first|exact .hd|assumption|apply Swap.tl|apply Swap.app));done));(exact SX.out);(exact((List.length_map ..).trans lX2));(exact(by rw [lSM3];omega));(exact(one_map _));clear hm;intro w hm)|((with_reducible show qLd);refine zB hm ?_))
   refine(CB2.out _ (slo_rdNc HS2.out hm.drop) (HN.out _ _ _ hm.drop.dropN)).mono ?_
   rintro e w' ⟨v_,rfl,⟨px,cx,rfl,hcx,hrx⟩,hx_⟩
   have HCX:=hid hcx
   have HRX:=hid hrx
   clear hcx hrx
   go_wp2_with fail
   go_ret2
   exact⟨px,cx,by rw [←HLEN.out];rfl,by rw [←HLEN.out];exact HCX.out,HRX.out,hx1.trans (hm.x.trans hx_)⟩
def aezG(bk:Bool)(key:List Byte)(ls:List (List Byte))(m:List Byte):List Byte:=
 if m.length<32 then tinyL (eZ (keyOf key)) (hashG (eZ (keyOf key)) ls) bk m
 else coreL (eZ (keyOf key)) (hashG (eZ (keyOf key)) ls) (if bk=true then 2 else 1) (if bk=true then 1 else 2) m
theorem aezG_length(bk:Bool)(key:List Byte)(ls:List (List Byte))(m:List Byte):(aezG bk key ls m).length=m.length:=by
 unfold aezG
 split
 · exact tinyL_length _ _ _ _
 · exact coreL_length _ (eZ_length (keyOf key)) _ _ _ m (by omega)
theorem aezG_back(bk:Bool)(key:List Byte)(ls:List (List Byte))(m:List Byte):aezG (!bk) key ls (aezG bk key ls m)=m:=by
 have l:=aezG_length bk key ls m
 rw [aezG,l]
 by_cases h:m.length<32
 · rw [if_pos h,aezG,if_pos h];exact tinyL_back _ _ bk m
 · rw [if_neg h,aezG,if_neg h]
   cases bk
   · exact coreL_back _ (eZ_length (keyOf key)) _ _ _ m (by omega)
   · exact coreL_back _ (eZ_length (keyOf key)) _ _ _ m (by omega)
theorem ezrowG_any(bk:Bool)(g:Nat)(key:List Byte)(ls:List (List Byte))(m:List Byte)(h1:1≤m.length)(h300:m.length≤300)(hn:ls.length≤1000)(ht:∀i,(ls.getD i []).length≤500)(q p:Option Addr)(d c:Nat)(hd:ls.length≤d)(hc:m.length≤c)(w0:World)(hk:KeyR w0 g (keyOf key))(hr:RdR w0 q ls)(hq:RdB w0 p m):
   Calls Tryz.prog 76 #[.agg #[.pointer (some ⟨g,0,none⟩)], .slice q ls.length d, .slice p m.length c, .bool bk] w0 fun e w'=>∃px cx,e= .returned (.tuple #[.slice px m.length cx, .int .i64 0])∧m.length≤cx∧RdB w' px (aezG bk key ls m)∧Ext w0 w':=by
 have hm:=Own.start w0
 by_cases h32:m.length<32
 · have TT:=hid fun (w:World)(hx:Ext w0 w)=>(show Calls Tryz.prog 95 #[.pointer (some ⟨g,0,none⟩), .slice q ls.length d, .slice p m.length c, .bool bk] w fun e w'=>∃px cx,e= .returned (.tuple #[.slice px m.length cx, .int .i64 0])∧m.length≤cx∧RdB w' px (tinyL (eZ (keyOf key)) (hashG (eZ (keyOf key)) ls) bk m)∧Ext w w' from by
     cases bk
     · exact tturn_fwd g (eZ (keyOf key)) (eZ_length (keyOf key)) ls q d m p c w (hr.ext hx) hd (by omega) (fun i=>Nat.le_trans (ht i) (by omega)) (hq.ext hx) hc h1 (by omega) (fun wx hwx j n x e1 e2 e3=>((hk.ext hx).ext hwx).e j n x e1 e2 e3)
     · exact tturn_back g (eZ (keyOf key)) (eZ_length (keyOf key)) ls q d m p c w (hr.ext hx) hd (by omega) (fun i=>Nat.le_trans (ht i) (by omega)) (hq.ext hx) hc h1 (by omega) (fun wx hwx j n x e1 e2 e3=>((hk.ext hx).ext hwx).e j n x e1 e2 e3))
   rw [show(tinyL (eZ (keyOf key)) (hashG (eZ (keyOf key)) ls) bk m)=aezG bk key ls m from by rw [aezG,if_pos h32]]at TT
   have d1:decide ((m.length:Int)<32)=true:=decide_eq_true (by omega)
   have d2:(m.length:Int)<32:=by omega
   obtain⟨X,hX⟩:=exq (aezG bk key ls m)
   rw [←hX]at TT⊢
   obtain⟨n,hn⟩:=exq (m.length)
   rw [←hn]at TT d1 d2⊢
   obtain⟨N,hN⟩:=exq (ls.length)
   rw [←hN]at TT⊢
   clear hX hn hN hq hr hk h1 h300 h32 hc ht hd
   go_enter Tryz.func76,Tryz.ntmps76
   go_wp2_with (first|((with_reducible apply wq_boxN (cs:=[.pointer (some ⟨g,0,none⟩)]) hm);exact rfl;exact rfl;clear hm;intro gz w hm)|((with_reducible show qLd);refine zC hm ?_))
   refine(TT.out w hm.x).mono ?_
   rintro e_ w ⟨px,cx,rfl,hcx,hpx,hx_⟩
   replace hm:=hm.ext hx_
   clear hx_
   go_wp2_with fail
   go_ret2
   exact⟨px,cx,rfl,hcx,hpx,hm.x⟩
 · have TT:=hid fun (w:World)(hx:Ext w0 w)=>(show Calls Tryz.prog 96 #[.pointer (some ⟨g,0,none⟩), .slice q ls.length d, .slice p m.length c, .bool bk] w fun e w'=>∃px cx,e= .returned (.tuple #[.slice px m.length cx, .int .i64 0])∧m.length≤cx∧RdB w' px (coreL (eZ (keyOf key)) (hashG (eZ (keyOf key)) ls) (if bk=true then 2 else 1) (if bk=true then 1 else 2) m)∧Ext w w' from
     cturn_ok g (eZ (keyOf key)) (eZ_length (keyOf key)) ls q d m p c bk _ _ (by cases bk<;>simp) w (hr.ext hx) hd (by omega) (fun i=>Nat.le_trans (ht i) (by omega)) (hq.ext hx) hc (by omega) h300 (fun wx hwx j n x e1 e2 e3=>((hk.ext hx).ext hwx).e j n x e1 e2 e3))
   rw [show(coreL (eZ (keyOf key)) (hashG (eZ (keyOf key)) ls) (if bk=true then 2 else 1) (if bk=true then 1 else 2) m)=aezG bk key ls m from by rw [aezG,if_neg h32]]at TT
   have d1:decide ((m.length:Int)<32)=false:=decide_eq_false (by omega)
   have d2:¬(m.length:Int)<32:=by omega
   obtain⟨X,hX⟩:=exq (aezG bk key ls m)
   rw [←hX]at TT⊢
   obtain⟨n,hn⟩:=exq (m.length)
   rw [←hn]at TT d1 d2⊢
   obtain⟨N,hN⟩:=exq (ls.length)
   rw [←hN]at TT⊢
   clear hX hn hN hq hr hk h1 h300 h32 hc ht hd
   go_enter Tryz.func76,Tryz.ntmps76
   go_wp2_with (first|((with_reducible apply wq_boxN (cs:=[.pointer (some ⟨g,0,none⟩)]) hm);exact rfl;exact rfl;clear hm;intro gz w hm)|((with_reducible show qLd);refine zC hm ?_))
   refine(TT.out w hm.x).mono ?_
   rintro e_ w ⟨px,cx,rfl,hcx,hpx,hx_⟩
   replace hm:=hm.ext hx_
   clear hx_
   go_wp2_with fail
   go_ret2
   exact⟨px,cx,rfl,hcx,hpx,hm.x⟩
theorem ezEncipher(g:Nat)(key t m:List Byte)(h1:1≤m.length)(h300:m.length≤300)(ht:t.length≤500)(q p:Option Addr)(d c:Nat)(hd:t.length≤d)(hc:m.length≤c)(w0:World)(hk:KeyR w0 g (keyOf key))(hr:RdB w0 q t)(hq:RdB w0 p m):
   Calls Tryz.prog 234 #[.agg #[.pointer (some ⟨g,0,none⟩)], .slice q t.length d, .slice p m.length c] w0 fun e w'=>∃px cx,e= .returned (.tuple #[.slice px m.length cx, .int .i64 0])∧m.length≤cx∧RdB w' px (aezG false key [t] m)∧Ext w0 w':=by
 have hm:=Own.start w0
 have lt:t.length≤maxLen:=Nat.le_trans ht (by decide)
 have TT:=hid fun (gr:Nat)(w:World)(hx:Ext w0 w)(hr1:Row w gr 22 [.slice q t.length d])=>ezrowG_any false g key [t] m h1 h300 (by simp) (fun i=>by match i with|0=>exact ht|i+1=>exact Nat.zero_le _) (some ⟨gr,0,none⟩) p 1 c (Nat.le_refl _) hc w (hk.ext hx) (rdR1 hr1 (hr.ext hx) hd lt) (hq.ext hx)
 rw [show([t]:List (List Byte)).length=1 from rfl]at TT
 have BS:=hid (bs_s1 q t.length d)
 obtain⟨X,hX⟩:=exq (aezG false key [t] m)
 rw [←hX]at TT⊢
 obtain⟨n,hn⟩:=exq (m.length)
 rw [←hn]at TT⊢
 obtain⟨k,hk0⟩:=exq (t.length)
 rw [←hk0]at TT BS⊢
 clear hX hn hq hr hk h1 h300 hc ht hd lt hk0
 go_enter Tryz.func234,Tryz.ntmps234
 go_wp2_with (first|((with_reducible apply wq_boxN (cs:=[.pointer (some ⟨g,0,none⟩)]) hm);exact rfl;exact rfl;clear hm;intro gz w hm)|((with_reducible apply wq_bs1g (BS.out) hm);exact rfl;exact rfl;clear hm;intro gb w hm)|((with_reducible show qLd);refine zB hm ?_))
 refine(TT.out gb w hm.x (hm.row .hd)).mono ?_
 rintro e_ w ⟨px,cx,rfl,hcx,hpx,hx_⟩
 replace hm:=hm.ext hx_
 clear hx_
 go_wp2_with fail
 go_ret2
 exact⟨px,cx,rfl,hcx,hpx,hm.x⟩
theorem ezDecipher(g:Nat)(key t m:List Byte)(h1:1≤m.length)(h300:m.length≤300)(ht:t.length≤500)(q p:Option Addr)(d c:Nat)(hd:t.length≤d)(hc:m.length≤c)(w0:World)(hk:KeyR w0 g (keyOf key))(hr:RdB w0 q t)(hq:RdB w0 p m):
   Calls Tryz.prog 233 #[.agg #[.pointer (some ⟨g,0,none⟩)], .slice q t.length d, .slice p m.length c] w0 fun e w'=>∃px cx,e= .returned (.tuple #[.slice px m.length cx, .int .i64 0])∧m.length≤cx∧RdB w' px (aezG true key [t] m)∧Ext w0 w':=by
 have hm:=Own.start w0
 have lt:t.length≤maxLen:=Nat.le_trans ht (by decide)
 have TT:=hid fun (gr:Nat)(w:World)(hx:Ext w0 w)(hr1:Row w gr 22 [.slice q t.length d])=>ezrowG_any true g key [t] m h1 h300 (by simp) (fun i=>by match i with|0=>exact ht|i+1=>exact Nat.zero_le _) (some ⟨gr,0,none⟩) p 1 c (Nat.le_refl _) hc w (hk.ext hx) (rdR1 hr1 (hr.ext hx) hd lt) (hq.ext hx)
 rw [show([t]:List (List Byte)).length=1 from rfl]at TT
 have BS:=hid (bs_s1 q t.length d)
 obtain⟨X,hX⟩:=exq (aezG true key [t] m)
 rw [←hX]at TT⊢
 obtain⟨n,hn⟩:=exq (m.length)
 rw [←hn]at TT⊢
 obtain⟨k,hk0⟩:=exq (t.length)
 rw [←hk0]at TT BS⊢
 clear hX hn hq hr hk h1 h300 hc ht hd lt hk0
 go_enter Tryz.func233,Tryz.ntmps233
 go_wp2_with (first|((with_reducible apply wq_boxN (cs:=[.pointer (some ⟨g,0,none⟩)]) hm);exact rfl;exact rfl;clear hm;intro gz w hm)|((with_reducible apply wq_bs1g (BS.out) hm);exact rfl;exact rfl;clear hm;intro gb w hm)|((with_reducible show qLd);refine zB hm ?_))
 refine(TT.out gb w hm.x (hm.row .hd)).mono ?_
 rintro e_ w ⟨px,cx,rfl,hcx,hpx,hx_⟩
 replace hm:=hm.ext hx_
 clear hx_
 go_wp2_with fail
 go_ret2
 exact⟨px,cx,rfl,hcx,hpx,hm.x⟩
def wideG(bk:Bool)(a:Int)(key t m:List Byte):List Byte:=
 if a=1 then(if bk=true then adDe (adPk key) t m (m.length-16)else adEn (adPk key) t m (m.length-16))else if a=2 then(if bk=true then hcDo (eK0 key) (eKs key) (eKl key) (hcH key) (hcL key) (aesD (eK0 key) (eKs key) (eKl key)) t m else hcDo (eK0 key) (eKs key) (eKl key) (hcH key) (hcL key) (aesE (eK0 key) (eKs key) (eKl key)) t m)else aezG bk key [t] m
theorem wideG_length(bk:Bool)(a:Int)(key t m:List Byte)(h:16≤m.length):(wideG bk a key t m).length=m.length:=by
 unfold wideG
 split
 · split
   · rw [adDe_length _ _ _ _ (by omega)];omega
   · rw [adEn_length _ _ _ _ (by omega)];omega
 · split
   · split<;>(rw [hcDo,List.length_append,bothL_length,hcBulk_length];omega)
   · exact aezG_length _ _ _ _
theorem wideG_back(a:Int)(key t m:List Byte)(h:16≤m.length):wideG true a key t (wideG false a key t m)=m:=by
 have l:=wideG_length false a key t m h
 by_cases h1:a=1
 · have e1:∀x,wideG true a key t x=adDe (adPk key) t x (x.length-16):=fun x=>by rw [wideG,if_pos h1,if_pos rfl]
   have e2:∀x,wideG false a key t x=adEn (adPk key) t x (x.length-16):=fun x=>by rw [wideG,if_pos h1,if_neg (by decide)]
   rw [e1,l,e2]
   exact adDe_adEn _ _ _ _ (by omega)
 · by_cases h2:a=2
   · rw [wideG,if_neg h1,if_pos h2,if_pos rfl,wideG,if_neg h1,if_pos h2,if_neg (by decide)]
     exact hcDo_back _ _ _ _ _ _ _ (fun x=>aesE_length _ _ _ _) (fun x hx=>aesD_aesE _ _ _ _ hx) _ _ h
   · rw [wideG,if_neg h1,if_neg h2,wideG,if_neg h1,if_neg h2]
     exact aezG_back false key [t] m
theorem turnedG_any(bk:Bool)(g n:Nat)(al:Int)(key t m:List Byte)(ht:t.length≤500)(hl:m.length=n+16)(hn:n≤284)(p q:Option Addr)(c d:Nat)(hc:t.length≤c)(hd:n+16≤d)(w0:World)(hh:CipR w0 g al key)(hr:RdB w0 p t)(hq:RdB w0 q m):
   Calls Tryz.prog 27 #[.pointer (some ⟨g,0,none⟩), .slice p t.length c, .slice q (n+16) d, .bool bk] w0 fun e w'=>∃px cx,e= .returned (.tuple #[.slice px (n+16) cx, .int .i64 0])∧n+16≤cx∧RdB w' px (wideG bk al key t m)∧Ext w0 w':=by
 obtain⟨gi,⟨h1,h2,h3⟩|⟨h1,h2,h3⟩|⟨h1,h2,h3⟩⟩:=hh
 · have c1:w0.cell? ⟨g,1,none⟩=some (.iface 97 (.pointer (some ⟨gi,0,none⟩))):=by rw [row_cell h2];rfl
   have LE:=least12 g _ _ 1 (.inl rfl) w0 h2
   cases bk
   · refine turned_gen false g (n+16) _ 16 _ _ _ _ (fun args w=>by kernel_rfl) _ p q c d w0 (by omega) c1 LE (fun n w=>meth_ade n _ w) ?_
     rw [show wideG false al key t m=adEn (adPk key) t m n from by rw [wideG,if_pos h1,if_neg (by decide),hl,Nat.add_sub_cancel]]
     exact slo_post (aenc_any gi n _ t m (by omega) hl (by omega) p q c d hc hd w0 h3 hr hq)
   · refine turned_gen true g (n+16) _ 16 _ _ _ _ (fun args w=>by kernel_rfl) _ p q c d w0 (by omega) c1 LE (fun n w=>meth_add n _ w) ?_
     rw [show wideG true al key t m=adDe (adPk key) t m n from by rw [wideG,if_pos h1,if_pos rfl,hl,Nat.add_sub_cancel]]
     exact slo_post (adec_any gi n _ t m (by omega) hl (by omega) p q c d hc hd w0 h3 hr hq)
 · have c1:w0.cell? ⟨g,1,none⟩=some (.iface 100 (.pointer (some ⟨gi,0,none⟩))):=by rw [row_cell h2];rfl
   have LE:=least12 g _ _ 2 (.inr rfl) w0 h2
   cases bk
   · refine turned_gen false g (n+16) _ 16 _ _ _ _ (fun args w=>by kernel_rfl) _ p q c d w0 (by omega) c1 LE (fun n w=>meth_hce n _ w) ?_
     rw [show wideG false al key t m=hcDo (eK0 key) (eKs key) (eKl key) (hcH key) (hcL key) (aesE (eK0 key) (eKs key) (eKl key)) t m from by rw [wideG,if_neg (by omega),if_pos h1,if_neg (by decide)]]
     exact slo_post (henc_any gi n _ _ _ _ t m _ ht hl (by omega) p q c d hc hd w0 h3 hr hq)
   · refine turned_gen true g (n+16) _ 16 _ _ _ _ (fun args w=>by kernel_rfl) _ p q c d w0 (by omega) c1 LE (fun n w=>meth_hcd n _ w) ?_
     rw [show wideG true al key t m=hcDo (eK0 key) (eKs key) (eKl key) (hcH key) (hcL key) (aesD (eK0 key) (eKs key) (eKl key)) t m from by rw [wideG,if_neg (by omega),if_pos h1,if_pos rfl]]
     exact slo_post (hdec_any gi n _ _ _ _ t m _ ht hl (by omega) p q c d hc hd w0 h3 hr hq)
 · have c1:w0.cell? ⟨g,1,none⟩=some (.iface 107 (.agg #[.pointer (some ⟨gi,0,none⟩)])):=by rw [row_cell h2];rfl
   have LE:=least3 g _ _ w0 h2
   cases bk
   · refine turned_gen false g (n+16) _ 1 _ _ _ _ (fun args w=>by kernel_rfl) _ p q c d w0 (by omega) c1 LE (fun n w=>meth_eze n _ w) ?_
     rw [show wideG false al key t m=aezG false key [t] m from by rw [wideG,if_neg (by omega),if_neg (by omega)],←hl]
     exact ezEncipher gi key t m (by omega) (by omega) ht p q c d hc (by omega) w0 h3 hr hq
   · refine turned_gen true g (n+16) _ 1 _ _ _ _ (fun args w=>by kernel_rfl) _ p q c d w0 (by omega) c1 LE (fun n w=>meth_ezd n _ w) ?_
     rw [show wideG true al key t m=aezG true key [t] m from by rw [wideG,if_neg (by omega),if_neg (by omega)],←hl]
     exact ezDecipher gi key t m (by omega) (by omega) ht p q c d hc (by omega) w0 h3 hr hq
theorem wEncipher(g n:Nat)(al:Int)(key t m:List Byte)(ht:t.length≤500)(hl:m.length=n+16)(hn:n≤284)(p q:Option Addr)(c d:Nat)(hc:t.length≤c)(hd:n+16≤d)(w0:World)(hh:CipR w0 g al key)(hr:RdB w0 p t)(hq:RdB w0 q m):
   Calls Tryz.prog 15 #[.pointer (some ⟨g,0,none⟩), .slice p t.length c, .slice q (n+16) d] w0 fun e w'=>∃px cx,e= .returned (.tuple #[.slice px (n+16) cx, .int .i64 0])∧n+16≤cx∧RdB w' px (wideG false al key t m)∧Ext w0 w':=by
 have EN:=hid (turnedG_any false g n al key t m ht hl hn p q c d hc hd w0 hh hr hq)
 obtain⟨X,hX⟩:=exq (wideG false al key t m)
 rw [←hX]at EN⊢
 obtain⟨TL,hTL⟩:=exq (t.length)
 rw [←hTL]at EN⊢
 obtain⟨K,hK⟩:=exq (n+16)
 rw [←hK]at EN⊢
 clear hX hq hr hh ht hc hTL hK hl hn hd
 go_enter Tryz.func15,Tryz.ntmps15
 go_wp2_with fail
 refine(EN.out).mono ?_
 rintro e_ w ⟨px,cx,rfl,hcx,hpx,hx⟩
 go_wp2_with fail
 go_ret2
 exact⟨px,cx,rfl,hcx,hpx,hx⟩
theorem wDecipher(g n:Nat)(al:Int)(key t m:List Byte)(ht:t.length≤500)(hl:m.length=n+16)(hn:n≤284)(p q:Option Addr)(c d:Nat)(hc:t.length≤c)(hd:n+16≤d)(w0:World)(hh:CipR w0 g al key)(hr:RdB w0 p t)(hq:RdB w0 q m):
   Calls Tryz.prog 13 #[.pointer (some ⟨g,0,none⟩), .slice p t.length c, .slice q (n+16) d] w0 fun e w'=>∃px cx,e= .returned (.tuple #[.slice px (n+16) cx, .int .i64 0])∧n+16≤cx∧RdB w' px (wideG true al key t m)∧Ext w0 w':=by
 have EN:=hid (turnedG_any true g n al key t m ht hl hn p q c d hc hd w0 hh hr hq)
 obtain⟨X,hX⟩:=exq (wideG true al key t m)
 rw [←hX]at EN⊢
 obtain⟨TL,hTL⟩:=exq (t.length)
 rw [←hTL]at EN⊢
 obtain⟨K,hK⟩:=exq (n+16)
 rw [←hK]at EN⊢
 clear hX hq hr hh ht hc hTL hK hl hn hd
 go_enter Tryz.func13,Tryz.ntmps13
 go_wp2_with fail
 refine(EN.out).mono ?_
 rintro e_ w ⟨px,cx,rfl,hcx,hpx,hx⟩
 go_wp2_with fail
 go_ret2
 exact⟨px,cx,rfl,hcx,hpx,hx⟩
theorem ta_ez(gi:Nat)(w:World):(Instr.typeAssert (.iface 107 (.agg #[.pointer (some ⟨gi,0,none⟩)])) 75 107 true).run Tryz.prog w= .ok (.tuple #[.agg #[.pointer (some ⟨gi,0,none⟩)], .bool true]) w:=by kernel_rfl
theorem walg_any(g:Nat)(al:Int)(key:List Byte)(w0:World)(hh:CipR w0 g al key):Calls Tryz.prog 54 #[.pointer (some ⟨g,0,none⟩)] w0 fun e w'=>e= .returned (.int .i64 al)∧w0=w':=by
 have c1:w0.cell? ⟨g,0,none⟩=some (.int .i64 al):=by
   obtain⟨gi,⟨rfl,h2,_⟩|⟨rfl,h2,_⟩|⟨rfl,h2,_⟩⟩:=hh<;>(rw [row_cell h2];rfl)
 clear hh
 go_enter Tryz.func54,Tryz.ntmps54
 go_wp2
 go_ret
 exact⟨rfl,rfl⟩
theorem wrows_any(g gi:Nat)(w0:World)(h:Row w0 g 79 [.int .i64 3, .iface 107 (.agg #[.pointer (some ⟨gi,0,none⟩)])]):Calls Tryz.prog 75 #[.pointer (some ⟨g,0,none⟩)] w0 fun e w'=>e= .returned (.tuple #[.agg #[.pointer (some ⟨gi,0,none⟩)], .int .i64 0])∧Ext w0 w':=by
 have hm:=Own.start w0
 have RW:=hid fun wx (hx:Ext w0 wx)=>(row_ext h hx:Row wx g 79 [.int .i64 3, .iface 107 (.agg #[.pointer (some ⟨gi,0,none⟩)])])
 have ta:=ta_ez gi
 clear h
 go_enter Tryz.func75,Tryz.ntmps75
 go_wp2_with (first|((with_reducible apply wq_row1 (RW.out _ hm.x));exact rfl;infer_instance;exact rfl;exact rfl)|((with_reducible apply wq_stW (cs':=[.pointer (some ⟨gi,0,none⟩)]) hm);exact rfl;infer_instance;exact rfl;exact rfl;(exact(by repeat (first|exact Swap.hd|assumption|apply Swap.tl|apply Swap.app)));exact rfl;exact rfl;(intro v_ hv_;simp at hv_;subst hv_;rfl);clear hm;intro w hm)|((with_reducible show qLd);refine zB hm ?_)|(((with_reducible show qAl);refine zG hm ?_);clear hm;intro gx_;intro w hm))
 exact ret_own2 hm rfl rfl rfl (by infer_instance) (by repeat (first|exact Has.hd|assumption|apply Has.tl|apply Has.app)) rfl rfl ⟨rfl,hm.x⟩
theorem wRow_any(bk:Bool)(g:Nat)(key:List Byte)(ls:List (List Byte))(m:List Byte)(h1:1≤m.length)(h300:m.length≤300)(hn:ls.length≤1000)(ht:∀i,(ls.getD i []).length≤500)(q p:Option Addr)(d c:Nat)(hd:ls.length≤d)(hc:m.length≤c)(w0:World)(hh:CipR w0 g 3 key)(hr:RdR w0 q ls)(hq:RdB w0 p m):
   Calls Tryz.prog 56 #[.pointer (some ⟨g,0,none⟩), .slice q ls.length d, .slice p m.length c, .bool bk] w0 fun e w'=>∃px cx,e= .returned (.tuple #[.slice px m.length cx, .int .i64 0])∧m.length≤cx∧RdB w' px (aezG bk key ls m)∧Ext w0 w':=by
 obtain⟨gi,⟨h,_⟩|⟨h,_⟩|⟨_,hrow,hk⟩⟩:=hh
 · exact absurd h (by decide)
 · exact absurd h (by decide)
 have hm:=Own.start w0
 have WR:=hid fun (w:World)(hx:Ext w0 w)=>wrows_any g gi w (row_ext hrow hx)
 have TT:=hid fun (w:World)(hx:Ext w0 w)=>ezrowG_any bk gi key ls m h1 h300 hn ht q p d c hd hc w (hk.ext hx) (hr.ext hx) (hq.ext hx)
 obtain⟨X,hX⟩:=exq (aezG bk key ls m)
 rw [←hX]at TT⊢
 obtain⟨n,hn'⟩:∃x,x=m.length:=⟨_,rfl⟩
 rw [←hn']at TT⊢
 obtain⟨k,hk'⟩:∃x,x=ls.length:=⟨_,rfl⟩
 rw [←hk']at TT⊢
 clear hX hn' hk' hq hr hk hrow h1 h300 hn ht hd hc
 go_enter Tryz.func56,Tryz.ntmps56
 go_wp2_with (first|(go_at_call 75;(with_reducible refine(WR.out _ hm.x).mono ?_);rintro e_ w ⟨rfl,hx_⟩;replace hm:=hm.ext hx_;clear hx_)|((with_reducible apply wq_stW (cs':=[.pointer (some ⟨gi,0,none⟩)]) hm);exact rfl;infer_instance;exact rfl;exact rfl;(exact(by repeat (first|exact Swap.hd|assumption|apply Swap.tl|apply Swap.app)));exact rfl;exact rfl;(intro v_ hv_;simp at hv_;subst hv_;rfl);clear hm;intro w hm)|((with_reducible show qLd);refine zB hm ?_)|(((with_reducible show qAl);refine zG hm ?_);clear hm;intro gx_;intro w hm))
 refine(TT.out w hm.x).mono ?_
 rintro e_ w ⟨px,cx,rfl,hcx,hpx,hx_⟩
 replace hm:=hm.ext hx_
 clear hx_
 go_wp2_with fail
 go_ret2
 exact⟨px,cx,rfl,hcx,hpx,hm.x⟩
end Go.Proofs.YtneacgpmjlocjaaGreatDoor
