/-
  Texts of the program, walked, and plain ones. Conditions: those written in each theorem.
-/
import Derived.Test.YtneacgpmjlocjaaGreatDoorZTopWrapped0
import Derived.Test.YtneacgpmjlocjaaGreatDoorZTopWrapped21
import Derived.Test.YtneacgpmjlocjaaGreatDoorZTopWrapped24
import Derived.Test.YtneacgpmjlocjaaGreatDoorZTopWrapped16
import Derived.Test.YtneacgpmjlocjaaGreatDoorZTopWrapped9
import Derived.Test.YtneacgpmjlocjaaGreatDoorZTopWrapped2
import Derived.Test.YtneacgpmjlocjaaGreatDoorZTopWrapped4
import Derived.Test.YtneacgpmjlocjaaGreatDoorZTopWrapped8
import Derived.Test.YtneacgpmjlocjaaGreatDoorZTopWrapped14
import Derived.Lib.BufferWrite
import Derived.Laws.Externs
import Derived.Test.YtneacgpmjlocjaaGreatDoorZTopWrapped12
import Derived.Test.YtneacgpmjlocjaaGreatDoorZTopWrapped22
import Derived.Test.YtneacgpmjlocjaaGreatDoorZTopWrapped5
import Derived.Test.YtneacgpmjlocjaaGreatDoorZTopWrapped11
set_option linter.unusedSimpArgs false
set_option linter.unusedVariables false
set_option maxHeartbeats 16000000
open Go.Lib (hid)
namespace Go.Proofs.YtneacgpmjlocjaaGreatDoor
open Go Go.RowKit
set_option maxRecDepth 100000
def bndG(bk:Bool)(al:Int)(key:List Byte)(t:Int)(nn:List Byte)(ad:List (List Byte))(m:List Byte):List Byte:=
 if al=3 then aezG bk key (strS t nn ad) m else wideG bk al key (vecE t nn ad) m
def mnB(al:Int):Nat:=if al=3 then 1 else 16
theorem bndG_length(bk:Bool)(al:Int)(key:List Byte)(t:Int)(nn:List Byte)(ad:List (List Byte))(m:List Byte)(h:mnB al≤m.length):(bndG bk al key t nn ad m).length=m.length:=by
 unfold bndG
 by_cases h3:al=3
 · rw [if_pos h3];exact aezG_length _ _ _ _
 · rw [if_neg h3];exact wideG_length _ _ _ _ _ (by rw [mnB,if_neg h3]at h;exact h)
theorem bndG_back(al:Int)(key:List Byte)(t:Int)(nn:List Byte)(ad:List (List Byte))(m:List Byte)(h:mnB al≤m.length):bndG true al key t nn ad (bndG false al key t nn ad m)=m:=by
 unfold bndG
 by_cases h3:al=3
 · rw [if_pos h3,if_pos h3];exact aezG_back false _ _ _
 · rw [if_neg h3,if_neg h3];exact wideG_back _ _ _ _ (by rw [mnB,if_neg h3]at h;exact h)
theorem strS_length(t:Int)(nn:List Byte)(ad:List (List Byte)):(strS t nn ad).length=ad.length+2:=by simp [strS]
theorem strS_le(t:Int)(nn:List Byte)(ad:List (List Byte))(h1:nn.length≤60)(h3:∀i,(ad.getD i []).length≤60)(i:Nat):((strS t nn ad).getD i []).length≤500:=by
 match i with
 |0=>show(setN (zeros 16) 15 _).length≤500;rw [setN_length];simp [zeros]
 |1=>exact Nat.le_trans h1 (by omega)
 |i+2=>exact Nat.le_trans (h3 i) (by omega)
def FunC(F:FuncId)(cs:Array Value)(mn:Nat)(G:List Byte→List Byte)(w:World):Prop:=
 ∀ (w':World),Ext w w'→∀(m:List Byte)(px:Option Addr)(cx:Nat),mn≤m.length→m.length≤300→m.length≤cx→RdB w' px m→
   Calls Tryz.prog F (#[.slice px m.length cx]++cs) w' fun e w''=>∃r d,e= .returned (.tuple #[.slice r m.length d, .int .i64 0])∧m.length≤d∧RdB w'' r (G m)∧Ext w' w''
theorem FunC.ext {F:FuncId}{cs:Array Value}{mn:Nat}{G:List Byte→List Byte}{w w':World}(h:FunC F cs mn G w)(hx:Ext w w'):FunC F cs mn G w':=fun u hu=>h u (hx.trans hu)
theorem sb1_any(g g4 g10:Nat)(key:List Byte)(ls:List (List Byte))(q:Option Addr)(d:Nat)(hd:ls.length≤d)(hn:ls.length≤1000)(ht:∀i,(ls.getD i []).length≤500)(w0:World)(hh:CipR w0 g 3 key)(hr:RdR w0 q ls)(r1:Row w0 g4 31 [.pointer (some ⟨g,0,none⟩)])(r2:Row w0 g10 48 [.slice q ls.length d]):
   FunC 55 #[.pointer (some ⟨g4,0,none⟩), .pointer (some ⟨g10,0,none⟩)] 1 (aezG false key ls) w0:=by
 intro w hx m px cx h1 h300 hcx hm0
 have c1:w.cell? ⟨g4,0,none⟩=some (.pointer (some ⟨g,0,none⟩)):=by rw [row_cell (row_ext r1 hx)];rfl
 have c2:w.cell? ⟨g10,0,none⟩=some (.slice q ls.length d):=by rw [row_cell (row_ext r2 hx)];rfl
 have TT:=hid (wRow_any false g key ls m h1 h300 hn ht q px d cx hd hcx w (hh.ext hx) (hr.ext hx) hm0)
 obtain⟨X,hX⟩:=exq (aezG false key ls m)
 rw [←hX]at TT⊢
 obtain⟨n,hn'⟩:∃x,x=m.length:=⟨_,rfl⟩
 rw [←hn']at TT⊢
 obtain⟨k,hk'⟩:∃x,x=ls.length:=⟨_,rfl⟩
 rw [←hk']at TT c2
 clear hX hn' hk' hm0 hr hh h1 h300 hn ht hd hcx r1 r2
 show Calls Tryz.prog 55 #[.slice px n cx, .pointer (some ⟨g4,0,none⟩), .pointer (some ⟨g10,0,none⟩)] w _
 go_enter Tryz.func55,Tryz.ntmps55
 go_wp2_with fail
 refine TT.out.mono ?_
 rintro e_ w2 ⟨r,e2,rfl,h4,h5,h6⟩
 go_wp2_with fail
 go_ret2
 exact⟨r,e2,rfl,h4,h5,h6⟩
theorem sb2_any(g g4 g10:Nat)(key:List Byte)(ls:List (List Byte))(q:Option Addr)(d:Nat)(hd:ls.length≤d)(hn:ls.length≤1000)(ht:∀i,(ls.getD i []).length≤500)(w0:World)(hh:CipR w0 g 3 key)(hr:RdR w0 q ls)(r1:Row w0 g4 31 [.pointer (some ⟨g,0,none⟩)])(r2:Row w0 g10 48 [.slice q ls.length d]):
   FunC 57 #[.pointer (some ⟨g4,0,none⟩), .pointer (some ⟨g10,0,none⟩)] 1 (aezG true key ls) w0:=by
 intro w hx m px cx h1 h300 hcx hm0
 have c1:w.cell? ⟨g4,0,none⟩=some (.pointer (some ⟨g,0,none⟩)):=by rw [row_cell (row_ext r1 hx)];rfl
 have c2:w.cell? ⟨g10,0,none⟩=some (.slice q ls.length d):=by rw [row_cell (row_ext r2 hx)];rfl
 have TT:=hid (wRow_any true g key ls m h1 h300 hn ht q px d cx hd hcx w (hh.ext hx) (hr.ext hx) hm0)
 obtain⟨X,hX⟩:=exq (aezG true key ls m)
 rw [←hX]at TT⊢
 obtain⟨n,hn'⟩:∃x,x=m.length:=⟨_,rfl⟩
 rw [←hn']at TT⊢
 obtain⟨k,hk'⟩:∃x,x=ls.length:=⟨_,rfl⟩
 rw [←hk']at TT c2
 clear hX hn' hk' hm0 hr hh h1 h300 hn ht hd hcx r1 r2
 show Calls Tryz.prog 57 #[.slice px n cx, .pointer (some ⟨g4,0,none⟩), .pointer (some ⟨g10,0,none⟩)] w _
 go_enter Tryz.func57,Tryz.ntmps57
 go_wp2_with fail
 refine TT.out.mono ?_
 rintro e_ w2 ⟨r,e2,rfl,h4,h5,h6⟩
 go_wp2_with fail
 go_ret2
 exact⟨r,e2,rfl,h4,h5,h6⟩
theorem sb4_any(g g4 g12:Nat)(al:Int)(key T:List Byte)(q:Option Addr)(d:Nat)(hd:T.length≤d)(ht:T.length≤500)(w0:World)(hh:CipR w0 g al key)(hr:RdB w0 q T)(r1:Row w0 g4 31 [.pointer (some ⟨g,0,none⟩)])(r2:Row w0 g12 22 [.slice q T.length d]):
   FunC 61 #[.pointer (some ⟨g4,0,none⟩), .pointer (some ⟨g12,0,none⟩)] 16 (wideG false al key T) w0:=by
 intro w hx m px cx h1 h300 hcx hm0
 have c1:w.cell? ⟨g4,0,none⟩=some (.pointer (some ⟨g,0,none⟩)):=by rw [row_cell (row_ext r1 hx)];rfl
 have c2:w.cell? ⟨g12,0,none⟩=some (.slice q T.length d):=by rw [row_cell (row_ext r2 hx)];rfl
 have TT:=hid (wEncipher g (m.length-16) al key T m ht (by omega) (by omega) q px d cx hd (by omega) w (hh.ext hx) (hr.ext hx) hm0)
 rw [show m.length-16+16=m.length from by omega]at TT
 obtain⟨X,hX⟩:=exq (wideG false al key T m)
 rw [←hX]at TT⊢
 obtain⟨n,hn'⟩:∃x,x=m.length:=⟨_,rfl⟩
 rw [←hn']at TT⊢
 obtain⟨k,hk'⟩:∃x,x=T.length:=⟨_,rfl⟩
 rw [←hk']at TT c2
 clear hX hn' hk' hm0 hr hh h1 h300 ht hd hcx r1 r2
 show Calls Tryz.prog 61 #[.slice px n cx, .pointer (some ⟨g4,0,none⟩), .pointer (some ⟨g12,0,none⟩)] w _
 go_enter Tryz.func61,Tryz.ntmps61
 go_wp2_with fail
 refine TT.out.mono ?_
 rintro e_ w2 ⟨r,e2,rfl,h4,h5,h6⟩
 go_wp2_with fail
 go_ret2
 exact⟨r,e2,rfl,h4,h5,h6⟩
theorem sb5_any(g g4 g12:Nat)(al:Int)(key T:List Byte)(q:Option Addr)(d:Nat)(hd:T.length≤d)(ht:T.length≤500)(w0:World)(hh:CipR w0 g al key)(hr:RdB w0 q T)(r1:Row w0 g4 31 [.pointer (some ⟨g,0,none⟩)])(r2:Row w0 g12 22 [.slice q T.length d]):
   FunC 62 #[.pointer (some ⟨g4,0,none⟩), .pointer (some ⟨g12,0,none⟩)] 16 (wideG true al key T) w0:=by
 intro w hx m px cx h1 h300 hcx hm0
 have c1:w.cell? ⟨g4,0,none⟩=some (.pointer (some ⟨g,0,none⟩)):=by rw [row_cell (row_ext r1 hx)];rfl
 have c2:w.cell? ⟨g12,0,none⟩=some (.slice q T.length d):=by rw [row_cell (row_ext r2 hx)];rfl
 have TT:=hid (wDecipher g (m.length-16) al key T m ht (by omega) (by omega) q px d cx hd (by omega) w (hh.ext hx) (hr.ext hx) hm0)
 rw [show m.length-16+16=m.length from by omega]at TT
 obtain⟨X,hX⟩:=exq (wideG true al key T m)
 rw [←hX]at TT⊢
 obtain⟨n,hn'⟩:∃x,x=m.length:=⟨_,rfl⟩
 rw [←hn']at TT⊢
 obtain⟨k,hk'⟩:∃x,x=T.length:=⟨_,rfl⟩
 rw [←hk']at TT c2
 clear hX hn' hk' hm0 hr hh h1 h300 ht hd hcx r1 r2
 show Calls Tryz.prog 62 #[.slice px n cx, .pointer (some ⟨g4,0,none⟩), .pointer (some ⟨g12,0,none⟩)] w _
 go_enter Tryz.func62,Tryz.ntmps62
 go_wp2_with fail
 refine TT.out.mono ?_
 rintro e_ w2 ⟨r,e2,rfl,h4,h5,h6⟩
 go_wp2_with fail
 go_ret2
 exact⟨r,e2,rfl,h4,h5,h6⟩
def BindP(al:Int)(key:List Byte)(t:Int)(nn:List Byte)(ad:List (List Byte))(w0:World):Ending→World→Prop:=fun e w'=>∃(F1 F2:FuncId)(cs1 cs2:Array Value)(b3:Value),e= .returned (.tuple #[.agg #[.func (.func F1) #[] cs1, .func (.func F2) #[] cs2,b3], .int .i64 0])∧b3.oneCell'=true
 ∧(∀args w,(callFunc F1 args).run Tryz.prog w= .ok (.enter F1 args) w)∧(∀args w,(callFunc F2 args).run Tryz.prog w= .ok (.enter F2 args) w)
 ∧FunC F1 cs1 (mnB al) (bndG false al key t nn ad) w'∧FunC F2 cs2 (mnB al) (bndG true al key t nn ad) w'∧Ext w0 w'
theorem bind3_any(g:Nat)(key:List Byte)(t:Int)(ht:0≤t∧t≤16)(nn:List Byte)(ad:List (List Byte))(h1:nn.length≤60)(h2:ad.length≤5)(h3:∀i,(ad.getD i []).length≤60)(p:Option Addr)(c:Nat)(q:Option Addr)(d:Nat)(w0:World)(hr:RdB w0 p nn)(hs:RdR w0 q ad)(hh:CipR w0 g 3 key):
   Calls Tryz.prog 42 #[.pointer (some ⟨g,0,none⟩), .int .i64 t, .slice p nn.length c, .slice q ad.length d] w0 (BindP 3 key t nn ad w0):=by
 have hm:=Own.start w0
 have VS:=hid fun w (hx:Ext w0 w)=>vstr_any t ht nn ad h1 h2 h3 p c q d w (hr.ext hx) (hs.ext hx)
 have AL:=hid fun w (hx:Ext w0 w)=>walg_any g 3 key w (hh.ext hx)
 have SL:=hid (strS_le t nn ad h1 h3)
 have SN:=hid (show(strS t nn ad).length≤1000 from by rw [strS_length];omega)
 have E1:Hid (bndG false 3 key t nn ad=aezG false key (strS t nn ad)):=hid (by funext m;rw [bndG,if_pos rfl])
 have E2:Hid (bndG true 3 key t nn ad=aezG true key (strS t nn ad)):=hid (by funext m;rw [bndG,if_pos rfl])
 have B1:=hid fun (w:World)(hx:Ext w0 w)(g4 g10:Nat)(q:Option Addr)(d:Nat)=>fun hd hr r1 r2=>sb1_any g g4 g10 key (strS t nn ad) q d hd SN.out SL.out w (hh.ext hx) hr r1 r2
 have B2:=hid fun (w:World)(hx:Ext w0 w)(g4 g10:Nat)(q:Option Addr)(d:Nat)=>fun hd hr r1 r2=>sb2_any g g4 g10 key (strS t nn ad) q d hd SN.out SL.out w (hh.ext hx) hr r1 r2
 rw [←E1.out]at B1
 rw [←E2.out]at B2
 obtain⟨NL,hNL⟩:=exq (nn.length)
 obtain⟨AL_,hAL⟩:=exq (ad.length)
 rw [←hNL]at VS⊢
 rw [←hAL]at VS⊢
 obtain⟨S,hS⟩:=exq (strS t nn ad)
 rw [←hS]at VS B1 B2
 obtain⟨K,hK⟩:=exq (S.length)
 rw [←hK]at VS B1 B2
 clear hNL hAL hS hK h1 h2 h3 hr hs hh ht SL SN E1 E2
 go_enter Tryz.func42,Tryz.ntmps42
 go_wp2_with (first|((with_reducible apply wq_box1 (v:= .pointer (some ⟨g,0,none⟩)) hm);exact rfl;exact rfl;exact rfl;clear hm;intro g1 w hm)|((with_reducible apply wq_box1 (v:= .int .i64 t) hm);exact rfl;exact rfl;exact rfl;clear hm;intro g2 w hm)|((with_reducible show qLd);refine zC hm ?_)|(((with_reducible show qAl);refine zG hm ?_);clear hm;(first|(have hx_:=g1;clear hx_;(first|(have hx_:=g2;clear hx_;(first|(have hx_:=g3;clear hx_;(first|(have hx_:=g4;clear hx_;(first|(have hx_:=g5;clear hx_;(first|(have hx_:=g6;clear hx_;(first|(have hx_:=g7;clear hx_;(first|(have hx_:=g8;clear hx_;(first|(have hx_:=g9;clear hx_;intro gx_)|intro g9))|intro g8))|intro g7))|intro g6))|intro g5))|intro g4))|intro g3))|intro g2))|intro g1);intro w hm))
 refine(VS.out w hm.x).mono ?_
 rintro e_ w ⟨r,e2,L1,rfl,he2,hm1,hr2⟩
 replace hm:=hm.join hm1
 have HR:=hid hr2
 clear hr2 hm1 VS
 go_wp2_with (first|(go_at_call 54;(with_reducible refine(AL.out _ hm.x).mono ?_);rintro e_ w_ ⟨rfl,rfl⟩)|((with_reducible apply wq_st1 (v:= .slice r K e2) hm);exact rfl;infer_instance;exact rfl;exact rfl;exact rfl;exact rfl;(exact .hd);exact(show 0<1 from by omega);clear hm;intro w hm)|((with_reducible apply wq_stW (cs':=[.func (.func 55) #[] #[.pointer (some ⟨g1,0,none⟩), .pointer (some ⟨g4,0,none⟩)], .func (.func 57) #[] #[.pointer (some ⟨g1,0,none⟩), .pointer (some ⟨g4,0,none⟩)], .func (.func 58) #[] #[.pointer (some ⟨g1,0,none⟩), .pointer (some ⟨g4,0,none⟩), .pointer (some ⟨g2,0,none⟩)]]) hm);exact rfl;infer_instance;exact rfl;exact rfl;(exact(by repeat (first|exact Swap.hd|assumption|apply Swap.tl|apply Swap.app)));exact rfl;exact rfl;(intro v_ hv_;simp at hv_;rcases hv_ with rfl|rfl|rfl<;>rfl);clear hm;intro w hm)|((with_reducible show qLd);refine zC hm ?_)|(((with_reducible show qAl);refine zG hm ?_);clear hm;(first|(have hx_:=g1;clear hx_;(first|(have hx_:=g2;clear hx_;(first|(have hx_:=g3;clear hx_;(first|(have hx_:=g4;clear hx_;(first|(have hx_:=g5;clear hx_;(first|(have hx_:=g6;clear hx_;(first|(have hx_:=g7;clear hx_;(first|(have hx_:=g8;clear hx_;(first|(have hx_:=g9;clear hx_;intro gx_)|intro g9))|intro g8))|intro g7))|intro g6))|intro g5))|intro g4))|intro g3))|intro g2))|intro g1);intro w hm))
 have r1:=hm.row (g:=g1) (t:=31) (cs:=[.pointer (some ⟨g,0,none⟩)]) (by repeat (first|exact Has.hd|assumption|apply Has.tl|apply Has.app|apply Has.app))
 have r2:=hm.row (g:=g4) (t:=48) (cs:=[.slice r K e2]) (by repeat (first|exact Has.hd|assumption|apply Has.tl|apply Has.app))
 have r3:=HR.out w (fun b hb=>hm.rows b (by simp [hb]))
 have X:=hm.x
 have C1:=B1.out w X g1 g4 r e2 he2 r3 r1 r2
 have C2:=B2.out w X g1 g4 r e2 he2 r3 r1 r2
 exact ret_own2 hm rfl rfl rfl (by infer_instance) (by repeat (first|exact Has.hd|assumption|apply Has.tl|apply Has.app)) rfl rfl ⟨_,_,_,_,_,rfl,rfl,fun args w=>by kernel_rfl,fun args w=>by kernel_rfl,C1,C2,X⟩
section
variable {P:Program} {ops:Array Oper} {Q:Exit→Act→World→Prop} {rest:List Oper} {dst:Option Tmp} {ty:TypeId} {pos:String} {aft:Array Edge} {gd:Option (Nat×Bool)} {a:Act} {w0 w:World} {L L':List Blk} {T t:TypeId} {x y:Operand} {g n:Nat} {cs cs':List Value}
theorem rdB_row {w:World}{g:Nat}{t:TypeId}{cs:List Value}(hrow:Row w g t cs)(hn:∀(i:Nat)(x:Byte),cs[i]? ≠some (v8 x))(ds:Array Value){p:Option Addr}{l:List Byte}(h:RdB w p l):RdB (w.setRow g ds) p l:=by
 refine⟨h.1,fun i hi=> ?_⟩
 have h2:=h.2 i hi
 obtain⟨⟨k,o,sb⟩,ha⟩:∃b,b=(p.getD default).add i:=⟨_,rfl⟩
 rw [←ha]at h2⊢
 by_cases hk:k=g
 · subst hk
   exfalso
   unfold World.cell? at h2
   rw [hrow]at h2
   simp only []at h2
   split at h2
   · cases h2
   · exact hn o (l.getD i 0) (by rw [←h2];simp)
 · unfold World.cell? at h2⊢
   rw [setRow_other w g k ds hk]
   exact h2
theorem wq_stWB(hm:Own w0 w L)(hgd:Region.wanted (Oper.mk dst (.store T x y) ty pos aft gd) (yielded ops a.tmps)=true)(hT:Many P T n)(hx:a.eval x= .pointer (some ⟨g,0,none⟩))(hy:a.eval y= .agg cs'.toArray)(hs:Swap L ⟨g,t,cs⟩ ⟨g,t,cs'⟩ L')(hl:cs'.length=n)(hl2:cs.length=n)(h1:∀v∈cs',v.oneCell'=true)
   (hn:∀(i:Nat)(x:Byte),cs[i]? ≠some (v8 x)) (hr:∀w',Own w0 w' L'→(∀(p:Option Addr)(l:List Byte),RdB w p l→RdB w' p l)→wpList P ops Q rest (a.put dst undef) w'):wpList P ops Q ((Oper.mk dst (.store T x y) ty pos aft gd)::rest) a w:=
 wpList_want hgd fun K hK=>by
   have hrow:=hm.row hs.has
   have hrun:=run_storeAt_row (P:=P) (T:=T) hrow (by rw [hl,hl2]) (by rw [hl];exact hT.size) h1
   unfold Oper.wp execOp
   simp only [hx,hy,Sem.run_bind,hrun,Result.andThen_ok]
   exact hK _ _ (hr _ (hm.turn hs) fun p l h=>rdB_row hrow hn _ h)
end
theorem bindE_any(g:Nat)(al:Int)(ha:al≠3)(key:List Byte)(t:Int)(ht:0≤t∧t≤16)(nn:List Byte)(ad:List (List Byte))(h1:nn.length≤60)(h2:ad.length≤5)(h3:∀i,(ad.getD i []).length≤60)(p:Option Addr)(c:Nat)(hc:nn.length≤c)(q:Option Addr)(d:Nat)(hd:ad.length≤d)(w0:World)(hr:RdB w0 p nn)(hs:RdR w0 q ad)(hh:CipR w0 g al key):
   Calls Tryz.prog 42 #[.pointer (some ⟨g,0,none⟩), .int .i64 t, .slice p nn.length c, .slice q ad.length d] w0 (BindP al key t nn ad w0):=by
 have hm:=Own.start w0
 have VS:=hid fun w (hx:Ext w0 w)=>vstr_any t ht nn ad h1 h2 h3 p c q d w (hr.ext hx) (hs.ext hx)
 have VE:=hid fun w (hx:Ext w0 w)=>vecenc_any t ht nn ad h1 h2 h3 p c q d w (hr.ext hx) hc (hs.ext hx) hd
 have AL:=hid fun w (hx:Ext w0 w)=>walg_any g al key w (hh.ext hx)
 have LE:=hid (vecE_length t nn ad h1 h2 h3)
 have E0:mnB al=16:=if_neg ha
 have E1:Hid (bndG false al key t nn ad=wideG false al key (vecE t nn ad)):=hid (by funext m;rw [bndG,if_neg ha])
 have E2:Hid (bndG true al key t nn ad=wideG true al key (vecE t nn ad)):=hid (by funext m;rw [bndG,if_neg ha])
 have B1:=hid fun (w:World)(hx:Ext w0 w)(g4 g10:Nat)(q:Option Addr)(d:Nat)=>fun hd hr r1 r2=>sb4_any g g4 g10 al key (vecE t nn ad) q d hd LE.out w (hh.ext hx) hr r1 r2
 have B2:=hid fun (w:World)(hx:Ext w0 w)(g4 g10:Nat)(q:Option Addr)(d:Nat)=>fun hd hr r1 r2=>sb5_any g g4 g10 al key (vecE t nn ad) q d hd LE.out w (hh.ext hx) hr r1 r2
 rw [←E1.out]at B1
 rw [←E2.out]at B2
 unfold BindP
 rw [E0]
 obtain⟨NL,hNL⟩:=exq (nn.length)
 obtain⟨AL_,hAL⟩:=exq (ad.length)
 rw [←hNL]at VS VE⊢
 rw [←hAL]at VS VE⊢
 obtain⟨S,hS⟩:=exq (strS t nn ad)
 rw [←hS]at VS
 obtain⟨K,hK⟩:=exq (S.length)
 rw [←hK]at VS
 obtain⟨Y,hY⟩:=exq (vecE t nn ad)
 rw [←hY]at VE B1 B2
 obtain⟨YL,hYL⟩:=exq (Y.length)
 rw [←hYL]at VE B1 B2
 have a1:¬al=3:=ha
 have a2:decide (al=3)=false:=decide_eq_false ha
 have a3:(al==3)=false:=by rw [beq_eq_false_iff_ne];exact ha
 clear hNL hAL hS hK hY hYL h1 h2 h3 hr hs hh ht hc hd LE E0 E1 E2 ha
 go_enter Tryz.func42,Tryz.ntmps42
 go_wp2_with (first|((with_reducible apply wq_box1 (v:= .pointer (some ⟨g,0,none⟩)) hm);exact rfl;exact rfl;exact rfl;clear hm;intro g1 w hm)|((with_reducible apply wq_box1 (v:= .int .i64 t) hm);exact rfl;exact rfl;exact rfl;clear hm;intro g2 w hm)|((with_reducible show qLd);refine zC hm ?_)|(((with_reducible show qAl);refine zG hm ?_);clear hm;(first|(have hx_:=g1;clear hx_;(first|(have hx_:=g2;clear hx_;(first|(have hx_:=g3;clear hx_;(first|(have hx_:=g4;clear hx_;(first|(have hx_:=g5;clear hx_;(first|(have hx_:=g6;clear hx_;(first|(have hx_:=g7;clear hx_;(first|(have hx_:=g8;clear hx_;(first|(have hx_:=g9;clear hx_;intro gx_)|intro g9))|intro g8))|intro g7))|intro g6))|intro g5))|intro g4))|intro g3))|intro g2))|intro g1);intro w hm))
 refine(VS.out w hm.x).mono ?_
 rintro e_ w ⟨r,e2,L1,rfl,he2,hm1,hr2⟩
 replace hm:=(hm.join hm1).dropN
 clear hr2 hm1 VS he2
 go_wp2_with (first|(go_at_call 54;(with_reducible refine(AL.out _ hm.x).mono ?_);rintro e_ w_ ⟨rfl,rfl⟩)|((with_reducible apply wq_st1 (v:= .slice r K e2) hm);exact rfl;infer_instance;exact rfl;exact rfl;exact rfl;exact rfl;(exact .hd);exact(show 0<1 from by omega);clear hm;intro w hm)|((with_reducible show qLd);refine zC hm ?_)|(((with_reducible show qAl);refine zG hm ?_);clear hm;(first|(have hx_:=g1;clear hx_;(first|(have hx_:=g2;clear hx_;(first|(have hx_:=g3;clear hx_;(first|(have hx_:=g4;clear hx_;(first|(have hx_:=g5;clear hx_;(first|(have hx_:=g6;clear hx_;(first|(have hx_:=g7;clear hx_;(first|(have hx_:=g8;clear hx_;(first|(have hx_:=g9;clear hx_;intro gx_)|intro g9))|intro g8))|intro g7))|intro g6))|intro g5))|intro g4))|intro g3))|intro g2))|intro g1);intro w hm))
 refine(VE.out w hm.x).mono ?_
 rintro e_ w ⟨rv,ev,rfl,hev,hrv,hx_⟩
 replace hm:=hm.ext hx_
 have H0:=hid hm
 have HY:=hid fun wx (hx:Ext w wx)=>hrv.ext hx
 have hm1:=Own.start w
 clear hm hrv hx_ VE
 have hm:=hm1
 clear hm1
 go_wp2_with (first|((with_reducible apply wq_st1 (v:= .slice rv YL ev) hm);exact rfl;infer_instance;exact rfl;exact rfl;exact rfl;exact rfl;(exact .hd);exact(show 0<1 from by omega);clear hm;intro w hm)|(have hy:=HY.out _ hm.x;have hj:=H0.out.join hm;(with_reducible apply wq_stWB (cs':=[.func (.func 61) #[] #[.pointer (some ⟨g1,0,none⟩), .pointer (some ⟨g5,0,none⟩)], .func (.func 62) #[] #[.pointer (some ⟨g1,0,none⟩), .pointer (some ⟨g5,0,none⟩)], .nilFunc]) hj);exact rfl;infer_instance;exact rfl;exact rfl;(exact(by repeat (first|exact Swap.hd|assumption|apply Swap.tl|apply Swap.app)));exact rfl;exact rfl;(intro v_ hv_;simp at hv_;rcases hv_ with rfl|rfl|rfl<;>rfl);(intro i x;match i with|0=>simp [v8]|1=>simp [v8]|2=>simp [v8]|i+3=>simp);clear hm hj;intro w hm hky;replace hy:=hky _ _ hy;clear hky)|(((with_reducible show qAl);refine zG hm ?_);clear hm;(first|(have hx_:=g1;clear hx_;(first|(have hx_:=g2;clear hx_;(first|(have hx_:=g3;clear hx_;(first|(have hx_:=g4;clear hx_;(first|(have hx_:=g5;clear hx_;(first|(have hx_:=g6;clear hx_;(first|(have hx_:=g7;clear hx_;(first|(have hx_:=g8;clear hx_;(first|(have hx_:=g9;clear hx_;intro gx_)|intro g9))|intro g8))|intro g7))|intro g6))|intro g5))|intro g4))|intro g3))|intro g2))|intro g1);intro w hm))
 have r1:=hm.row (g:=g1) (t:=31) (cs:=[.pointer (some ⟨g,0,none⟩)]) (by repeat (first|exact Has.hd|assumption|apply Has.tl|apply Has.app))
 have r2:=hm.row (g:=g5) (t:=22) (cs:=[.slice rv YL ev]) (by repeat (first|exact Has.hd|assumption|apply Has.tl|apply Has.app))
 have X:=hm.x
 have C1:=B1.out w X g1 g5 rv ev hev hy r1 r2
 have C2:=B2.out w X g1 g5 rv ev hev hy r1 r2
 exact ret_own2 hm rfl rfl rfl (by infer_instance) (by repeat (first|exact Has.hd|assumption|apply Has.tl|apply Has.app)) rfl rfl ⟨_,_,_,_,_,rfl,rfl,fun args w=>by kernel_rfl,fun args w=>by kernel_rfl,C1,C2,X⟩
theorem bind_any(g:Nat)(al:Int)(key:List Byte)(t:Int)(ht:0≤t∧t≤16)(nn:List Byte)(ad:List (List Byte))(h1:nn.length≤60)(h2:ad.length≤5)(h3:∀i,(ad.getD i []).length≤60)(p:Option Addr)(c:Nat)(hc:nn.length≤c)(q:Option Addr)(d:Nat)(hd:ad.length≤d)(w0:World)(hr:RdB w0 p nn)(hs:RdR w0 q ad)(hh:CipR w0 g al key):
   Calls Tryz.prog 42 #[.pointer (some ⟨g,0,none⟩), .int .i64 t, .slice p nn.length c, .slice q ad.length d] w0 (BindP al key t nn ad w0):=by
 by_cases ha:al=3
 · subst ha;exact bind3_any g key t ht nn ad h1 h2 h3 p c q d w0 hr hs hh
 · exact bindE_any g al ha key t ht nn ad h1 h2 h3 p c hc q d hd w0 hr hs hh
def sealL(al:Int)(key:List Byte)(t:Nat)(nn:List Byte)(ad:List (List Byte))(m:List Byte):List Byte:=bndG false al key t nn ad (m++zeros t)
theorem sealL_length(al:Int)(key:List Byte)(t:Nat)(nn:List Byte)(ad:List (List Byte))(m:List Byte)(h:mnB al≤m.length+t):(sealL al key t nn ad m).length=m.length+t:=by
 have e:(m++zeros t).length=m.length+t:=by rw [List.length_append,zeros_length]
 rw [sealL,bndG_length _ _ _ _ _ _ _ (by rw [e];exact h),e]
theorem sealL_back(al:Int)(key:List Byte)(t:Nat)(nn:List Byte)(ad:List (List Byte))(m:List Byte)(h:mnB al≤m.length+t):bndG true al key t nn ad (sealL al key t nn ad m)=m++zeros t:=by
 rw [sealL,bndG_back]
 rw [List.length_append,zeros_length];exact h
def RowS(n:Nat)(ls:List (List Byte)):Slot:=fun v w=>∃p c,v= .slice p n c∧RdR w p ls
theorem RowS.stable(n:Nat)(ls:List (List Byte)):Stable (RowS n ls):=fun _ _ _ ⟨p,c,h1,h2⟩ hx=>⟨p,c,h1,h2.ext hx⟩
def TupN(n:Nat)(l:List Byte):Slot:=fun v w=>∃p c,v= .tuple #[.slice p n c, .int .i64 0]∧n≤c∧RdB w p l
theorem TupN.stable(n:Nat)(l:List Byte):Stable (TupN n l):=fun _ _ _ ⟨p,c,h1,h2,h3⟩ hx=>⟨p,c,h1,h2,h3.ext hx⟩
def BytN(n:Nat)(l:List Byte):Slot:=fun v w=>∃p c,v= .slice p n c∧n≤c∧RdB w p l
theorem BytN.stable(n:Nat)(l:List Byte):Stable (BytN n l):=fun _ _ _ ⟨p,c,h1,h2,h3⟩ hx=>⟨p,c,h1,h2,h3.ext hx⟩
theorem gq_bs2S {dst:Option Tmp}{ty:TypeId}{pos:String}{aft:Array Edge}{gd:Option (Nat×Bool)}{a:Act}{w:World}{x0 x1:Operand}{p q:Option Addr}{u v:List Byte}{c d:Nat}(hu:RdB w p u)(hv:RdB w q v)(hc:u.length≤c)(hd:v.length≤d)(lu:u.length≤maxLen)(lv:v.length≤maxLen)(hx0:a.eval x0= .slice p u.length c)(hx1:a.eval x1= .slice q v.length d):gives Tryz.prog w (RowS 2 [u,v]) ((execOp a.eval (Oper.mk dst (.buildSlice 48 2 #[(0,x0),(1,x1)]) ty pos aft gd)).run Tryz.prog w):=by
 have hb:=bs_s2 p q u.length c v.length d w
 unfold execOp
 simp [hx0,hx1,hb]
 have hx:Ext w (w.alloc (.cells [.slice p u.length c, .slice q v.length d].toArray 22)):=Ext.alloc (Ext.refl _) _
 refine gives_val hx ⟨_,_,rfl, ?_⟩
 exact(RdC.rdR (M:=[⟨w.heap.size,22,[.slice p u.length c, .slice q v.length d]⟩]) (SlO.whole w.heap.size 22 1 2 _ rfl (by decide)) (fun b hb=>by rw [List.mem_singleton.1 hb];exact row_new w 22 _) (RdC.two (hu.ext hx) (hv.ext hx) hc hd lu lv)).1
theorem seal_any(g:Nat)(al:Int)(key:List Byte)(t:Nat)(ht:t≤16)(nn:List Byte)(ad:List (List Byte))(h1:nn.length≤60)(h2:ad.length≤5)(h3:∀i,(ad.getD i []).length≤60)(p:Option Addr)(c:Nat)(hc:nn.length≤c)(q:Option Addr)(d:Nat)(hd:ad.length≤d)(m:List Byte)(m0:0<m.length)(m1:mnB al≤m.length+t)(m2:m.length+t≤300)(pm:Option Addr)(cm:Nat)(hcm:m.length≤cm)(w0:World)(hr:RdB w0 p nn)(hs:RdR w0 q ad)(hh:CipR w0 g al key)(hm0:RdB w0 pm m):
   Calls Tryz.prog 32 #[.pointer (some ⟨g,0,none⟩), .int .i64 (t:Int), .slice p nn.length c, .slice q ad.length d, .slice pm m.length cm] w0 fun e w'=>∃r e2,e= .returned (.tuple #[.slice r (m.length+t) e2, .int .i64 0])∧m.length+t≤e2∧RdB w' r (sealL al key t nn ad m)∧Ext w0 w':=by
 have hm:=Own.start w0
 have BD:=hid (bind_any g al key t (by omega) nn ad h1 h2 h3 p c hc q d hd w0 hr hs hh)
 have eN:(m++zeros t).length=m.length+t:=by rw [List.length_append,zeros_length]
 have HM:=hid fun (w:World)(hx:Ext w0 w)=>hm0.ext hx
 have EF:[m,zeros t].flatten=m++zeros t:=by simp
 have CO:=hid fun (w:World)(px:Option Addr)(cx:Nat)(hrr:RdR w px [m,zeros t])=>(show GivesR Tryz.prog 43 #[.slice px 2 cx] w (BytN (m.length+t) (m++zeros t))from by
   refine(concat_any [m,zeros t] px cx w hrr (by simp) (by rw [EF,eN];omega)).mono ?_
   rintro e w' ⟨v,M,rfl,hm1,hs1⟩
   rw [EF,eN]at hs1
   obtain⟨pv,cv,rfl⟩:=hs1.form
   have:=slo_rdR (l:=m++zeros t) hs1 (fun b hb=>hm1.rows b (List.mem_append_left _ hb))
   exact⟨_,rfl,⟨_,_,rfl,this.2,this.1⟩,hm1.x⟩)
 have FC:=hid fun (F:FuncId)(cs:Array Value)(w:World)(hF:FunC F cs (mnB al) (bndG false al key t nn ad) w)(wx:World)(hx:Ext w wx)(px:Option Addr)(cx:Nat)(hcx:m.length+t≤cx)(hpx:RdB wx px (m++zeros t))=>(show GivesR Tryz.prog F (#[.slice px (m.length+t) cx]++cs) wx (TupN (m.length+t) (sealL al key t nn ad m))from by
   have h:=hF wx hx (m++zeros t) px cx (by rw [eN];exact m1) (by rw [eN];exact m2) (by rw [eN];exact hcx) hpx
   rw [eN]at h
   refine h.mono ?_
   rintro e w' ⟨r,e2,rfl,h4,h5,h6⟩
   exact⟨_,rfl,⟨_,_,rfl,h4,h5⟩,h6⟩)
 have ZL:=zeros_length t
 have LM:=hid (show m.length≤maxLen∧(zeros t).length≤maxLen∧m.length≤cm from⟨by unfold maxLen;omega,by rw [ZL];unfold maxLen;omega,hcm⟩)
 have d1:decide ((m.length:Int)=0)=false:=decide_eq_false (by omega)
 have d2:((m.length:Int)==0)=false:=by rw [beq_eq_false_iff_ne];omega
 have d3:¬(m.length:Int)=0:=by omega
 have T8:=hid (show t≤281474976710656 from by omega)
 obtain⟨NL,hNL⟩:=exq (nn.length)
 obtain⟨AL_,hAL⟩:=exq (ad.length)
 rw [←hNL]at BD⊢
 rw [←hAL]at BD⊢
 obtain⟨S,hS⟩:=exq (sealL al key t nn ad m)
 rw [←hS]at FC⊢
 clear hNL hAL hS h1 h2 h3 hr hs hh ht hc hd m0 m1 m2 hm0 hcm EF eN
 go_enter Tryz.func32,Tryz.ntmps32
 go_wp2_with fail
 refine(BD.out).mono ?_
 rintro e_ w ⟨F1,F2,cs1,cs2,b3,rfl,ho,hf1,hf2,k1,k2,hx_⟩
 have X0:=hid hx_
 have K1:=hid (FC.out F1 cs1 w k1)
 have HM:=hid fun (wx:World)(hx:Ext w wx)=>HM.out wx (hx_.trans hx)
 have hm1:=Own.start w
 clear k1 k2 hf2 FC BD hm hx_
 have hm:=hm1
 clear hm1
 go_wp2_with (first|((with_reducible apply wq_stW (cs':=[.func (.func F1) #[] cs1, .func (.func F2) #[] cs2,b3]) hm);exact rfl;infer_instance;exact rfl;exact rfl;(exact .hd);exact rfl;exact rfl;(intro v_ hv_;simp at hv_;rcases hv_ with rfl|rfl|rfl;exact rfl;exact rfl;exact ho);clear hm;intro w hm)|(((with_reducible show qAl);refine zG hm ?_);clear hm;intro gx_;intro w hm))
 have hx0:=hm.x
 have MB:=hid (show∀wx,Ext w wx→RdB wx pm m from fun wx hx=>HM.out wx (hx0.trans hx))
 have KB:=hid fun (wx:World)(hx:Ext w wx)=>K1.out wx (hx0.trans hx)
 obtain⟨LM1,LM2,LM3⟩:=LM.out
 refine region_new 12 (fun w'=>Ext _ w') 48 (by kernel_rfl) (by kernel_rfl) rfl (fun _ _ h k=>h.trans k) (drew_ext _) ?_
 simp only [zTa]
 repeat (first
     |(apply walk_some (BytesS (zeros t)) 42 (BytesS.stable _) rfl rfl rfl rfl;(intro wx hwx;exact gq_mkZ t T8.out rfl rfl))
     |(apply walk_from_some (T:=[(42,BytesS (zeros t))]) (RowS 2 [m,zeros t]) 43 (RowS.stable _ _) rfl rfl rfl;(intro wx hwx;simp only [withS];rintro x_ ⟨p_,c_,rfl,h1_,h2_⟩;refine⟨rfl, ?_⟩;exact gq_bs2S (MB.out wx hwx) h2_ LM3 h1_ LM1 LM2 rfl rfl))
     | (apply walk_from_some (T:=[(43,RowS 2 [m,zeros t])]) (BytN (m.length+t) (m++zeros t)) 44 (BytN.stable _ _) rfl rfl rfl
        · (intro wx hwx;simp only [withS];(rintro x_ ⟨p_,c_,rfl,h1_⟩);refine⟨rfl, ?_⟩;go_simp;with_reducible exact gives_callR (CO.out wx p_ c_ h1_)))
     | (apply walk_from_some (T:=[(44,BytN (m.length+t) (m++zeros t))]) (TupN (m.length+t) S) 45 (TupN.stable _ _) rfl rfl rfl
        · (intro wx hwx;simp only [withS];(rintro x_ ⟨p_,c_,rfl,h1_,h2_⟩);refine⟨rfl, ?_⟩;go_simp;with_reducible exact gives_callR (KB.out wx hwx p_ c_ h1_ h2_)))
     | (apply walk_from_some (T:=[(45,TupN (m.length+t) S)]) (BytN (m.length+t) S) 46 (BytN.stable _ _) rfl rfl rfl
        · (intro wx hwx;simp only [withS];(rintro x_ ⟨p_,c_,rfl,h1_,h2_⟩);refine⟨rfl, ?_⟩;go_simp;exact gives_val (Ext.refl _) ⟨p_,c_,rfl,h1_,h2_⟩))
     | (apply walk_from (T:=[(45,TupN (m.length+t) S)]) rfl rfl
        · (intro wx hwx;simp only [withS];(rintro x_ ⟨p_,c_,rfl,h1_,h2_⟩);refine⟨rfl, ?_⟩;go_simp;exact gives_same)
        · (simp only [zPu];rfl))
     | (apply walk_from_some (T:=[(46,BytN (m.length+t) S)]) (BytN (m.length+t) S) 10 (BytN.stable _ _) rfl rfl rfl
        · (intro wx hwx;simp only [withS];(rintro x_ ⟨p_,c_,rfl,h1_,h2_⟩);refine⟨rfl, ?_⟩;go_simp;exact gives_val (Ext.refl _) ⟨p_,c_,rfl,h1_,h2_⟩))
     | (apply walk_is rfl rfl rfl
        · (intro wx hwx;first|((with_reducible show qGl);exact zL (hm.ext hwx))|(go_simp;(try go_bits);first|exact gives_same|exact gives_skip))
        · (simp only [zPu];rfl))
     | (apply walk_not rfl rfl rfl
        · (simp only [zPu];rfl)))
 intro wz hwz
 simp only [zZi]
 repeat rw [fin_is]
 rw [fin_cons];intro y42 hy42
 repeat rw [fin_is]
 rw [fin_cons];intro y43 hy43
 repeat rw [fin_is]
 rw [fin_cons];intro y44 hy44
 repeat rw [fin_is]
 rw [fin_cons];intro y45 hy45
 repeat rw [fin_is]
 rw [fin_cons];intro y46 hy46
 repeat rw [fin_is]
 rw [fin_cons];intro x10 hx10
 repeat rw [fin_is]
 rw [fin_nil];intro hap
 simp only [zPu]at hap⊢
 obtain⟨r,e2,rfl,g1_,g2_⟩:=hx10
 have xf:=X0.out.trans (hx0.trans hwz)
 clear hy42 hy43 hy44 hy45 hy46 hap hm MB KB K1 HM LM
 go_wp2_with fail
 go_ret2
 exact⟨r,e2,rfl,g1_,g2_,xf⟩
section
variable {P:Program} {ops:Array Oper} {Q:Exit→Act→World→Prop} {rest:List Oper} {dst:Option Tmp} {ty:TypeId} {pos:String} {aft:Array Edge} {gd:Option (Nat×Bool)} {a:Act} {w:World} {T e:TypeId} {x y z:Operand}
theorem run_slHM(hT:P.underlying T=some (.slice e))[hE:One1 P e](p:Option Addr)(n c h:Nat)(hh:h≤c)(w:World):(Instr.sliceAt T (.slice p n c) none (some (.int .i64 (h:Int))) (some (.int .i64 (h:Int)))).run P w= .ok (.slice p h h) w:=by
 obtain⟨i,hi1,hi2⟩:=Option.map_eq_some_iff.1 hE.size
 simp [Instr.sliceAt,Instr.slice,Instr.sliceBounds,Instr.sliceBound,asIntOf,Sem.run_bind,run_underlying hT,sizeOf,typeInfo,hi1,hi2,hh]
 intro _
 cases p<;>simp [addr_zero]
theorem wq_slHM {p:Option Addr}{n c h:Nat}(hT:P.underlying T=some (.slice e))(hE:One1 P e)(hgd:Region.wanted (Oper.mk dst (.slice T x none (some y) (some z)) ty pos aft gd) (yielded ops a.tmps)=true)(hx:a.eval x= .slice p n c)(hy:a.eval y= .int .i64 (h:Int))(hz:a.eval z= .int .i64 (h:Int))(hh:h≤c)(hk:wpList P ops Q rest (a.put dst (.slice p h h)) w):wpList P ops Q ((Oper.mk dst (.slice T x none (some y) (some z)) ty pos aft gd)::rest) a w:=
 wpList_want hgd fun K hK=>by
   unfold Oper.wp execOp
   simp only [hx,hy,hz,Sem.run_bind,run_slHM hT p n c h hh w,Result.andThen_ok,Sem.run_pure,Option.map_some,Option.map_none]
   exact hK _ _ hk
end
theorem wrapN(N:Nat)(h:N≤300):wrap64 (N:Int)=(N:Int):=by unfold wrap64;omega
theorem open_any(g:Nat)(al:Int)(key:List Byte)(t:Nat)(ht:t≤16)(nn:List Byte)(ad:List (List Byte))(h1:nn.length≤60)(h2:ad.length≤5)(h3:∀i,(ad.getD i []).length≤60)(p:Option Addr)(c:Nat)(hc:nn.length≤c)(q:Option Addr)(d:Nat)(hd:ad.length≤d)(m B:List Byte)(m0:0<m.length)(m1:mnB al≤m.length+t)(m2:m.length+t≤300)(hB:B.length=m.length+t)(hG:bndG true al key t nn ad B=m++zeros t)(pm:Option Addr)(cm:Nat)(hcm:m.length+t≤cm)(w0:World)(hr:RdB w0 p nn)(hs:RdR w0 q ad)(hh:CipR w0 g al key)(hm0:RdB w0 pm B):
   Calls Tryz.prog 33 #[.pointer (some ⟨g,0,none⟩), .int .i64 (t:Int), .slice p nn.length c, .slice q ad.length d, .slice pm (m.length+t) cm] w0 fun e w'=>∃r,e= .returned (.tuple #[.slice r m.length m.length, .int .i64 0])∧RdB w' r m∧Ext w0 w':=by
 have hm:=Own.start w0
 have BD:=hid (bind_any g al key t (by omega) nn ad h1 h2 h3 p c hc q d hd w0 hr hs hh)
 have HM:=hid fun (w:World)(hx:Ext w0 w)=>hm0.ext hx
 have eN:(m++zeros t).length=m.length+t:=by rw [List.length_append,zeros_length]
 have FC:=hid fun (F:FuncId)(cs:Array Value)(w:World)(hF:FunC F cs (mnB al) (bndG true al key t nn ad) w)(wx:World)(hx:Ext w wx)(hpx:RdB wx pm B)=>(show Calls Tryz.prog F (#[.slice pm (m.length+t) cm]++cs) wx fun e w'=>∃r d,e= .returned (.tuple #[.slice r (m.length+t) d, .int .i64 0])∧m.length+t≤d∧RdB w' r (m++zeros t)∧Ext wx w' from by
   have h:=hF wx hx B pm cm (by rw [hB];exact m1) (by rw [hB];exact m2) (by rw [hB];exact hcm) hpx
   rw [hB,hG]at h
   exact h)
 have SM:=hid fun (w:World)(r:Option Addr)(e2:Nat)(he:m.length+t≤e2)(hrd:RdB w r (m++zeros t))(px:Option Addr)(cx:Nat)(hz:RdB w px (zeros t))=>(show Gives Tryz.prog 44 #[.slice (slP r e2 m.length) t (e2-m.length), .slice px t cx] w (.bool true)from by
   have hx:=hrd.slL e2 m.length (by rw [eN];exact he)
   rw [List.drop_left' rfl]at hx
   have h:=same_any (zeros t) (zeros t) _ px (e2-m.length) cx w hx hz (by rw [zeros_length];omega) (by rw [zeros_length];omega)
   rw [beq_self_eq_true]at h
   rw [zeros_length]at h
   exact h)
 have TK:=hid fun (w:World)(r:Option Addr)(hrd:RdB w r (m++zeros t))=>(show RdB w r m from by
   have:=hrd.take m.length
   rwa [List.take_left' rfl]at this)
 have T8:=hid (show t≤281474976710656 from by omega)
 obtain⟨NL,hNL⟩:=exq (nn.length)
 obtain⟨AL_,hAL⟩:=exq (ad.length)
 rw [←hNL]at BD⊢
 rw [←hAL]at BD⊢
 obtain⟨N,hN⟩:=exq (m.length)
 rw [←hN]at FC SM m0 m1 m2 hcm hB⊢
 obtain⟨K,hK⟩:=exq (N+t)
 rw [←hK]at FC SM hcm⊢
 have k1:(K:Int)-(t:Int)=(N:Int):=by omega
 have k2:decide ((N:Int)<0)=false:=decide_eq_false (by omega)
 have k3:decide ((N:Int)=0)=false:=decide_eq_false (by omega)
 have k4:((N:Int)==0)=false:=by rw [beq_eq_false_iff_ne];omega
 have k5:¬(N:Int)=0:=by omega
 have k6:¬(N:Int)<0:=by omega
 have k7:wrap64 (N:Int)=(N:Int):=wrapN N (by omega)
 have KN:=hid (show N≤K∧K-N=t from⟨by rw [hK];exact Nat.le_add_right _ _,by rw [hK];exact Nat.add_sub_cancel_left _ _⟩)
 clear hNL hAL hN hK h1 h2 h3 hr hs hh ht hc hd m0 m1 m2 hm0 hcm eN hB hG
 go_enter Tryz.func33,Tryz.ntmps33
 go_wp2_with fail
 refine wp_scope_goto 0 (fun _ _=>False) (fun _ _=>0) rfl (fun _ _ h=>h.elim) ?_
 intro _
 go_wp2_with fail
 refine(BD.out).mono ?_
 rintro e_ w ⟨F1,F2,cs1,cs2,b3,rfl,ho,hf1,hf2,k1_,k2_,hx_⟩
 have X0:=hid hx_
 have K2:=hid (FC.out F2 cs2 w k2_)
 have HM:=hid fun (wx:World)(hx:Ext w wx)=>HM.out wx (hx_.trans hx)
 have hm1:=Own.start w
 clear k1_ k2_ hf1 FC BD hm hx_
 have hm:=hm1
 clear hm1
 go_wp2_with (first|((with_reducible apply wq_stW (cs':=[.func (.func F1) #[] cs1, .func (.func F2) #[] cs2,b3]) hm);exact rfl;infer_instance;exact rfl;exact rfl;(exact .hd);exact rfl;exact rfl;(intro v_ hv_;simp at hv_;rcases hv_ with rfl|rfl|rfl;exact rfl;exact rfl;exact ho);clear hm;intro w hm)|((with_reducible show qLd);refine zC hm ?_)|(((with_reducible show qAl);refine zG hm ?_);clear hm;intro gx_;intro w hm))
 refine(K2.out w hm.x (HM.out w hm.x)).mono ?_
 rintro e_ w ⟨r,e2,rfl,h4,h5,hx_⟩
 replace hm:=hm.ext hx_
 have hx0:=hm.x
 have SB:=hid fun (wx:World)(hx:Ext w wx)=>SM.out wx r e2 h4 (h5.ext hx)
 have RM:=hid fun (wx:World)(hx:Ext w wx)=>TK.out wx r (h5.ext hx)
 have hNe:N≤e2:=Nat.le_trans KN.out.1 h4
 clear hx_ K2 HM SM TK h4 h5
 go_wp2_with fail
 refine region_new 11 (fun w'=>Ext _ w') 68 (by kernel_rfl) (by kernel_rfl) rfl (fun _ _ h k=>h.trans k) (drew_ext _) ?_
 simp only [zTa]
 repeat (first
     |(apply walk_is rfl rfl rfl;(intro wx hwx;(with_reducible apply gq_slL (l:=N) (r:=t) Tryz.underlying22);infer_instance;exact rfl;exact rfl;exact KN.out.1;exact KN.out.2);(simp only [zPu];rfl))
     |(apply walk_some (BytesS (zeros t)) 60 (BytesS.stable _) rfl rfl rfl rfl;(intro wx hwx;exact gq_mkZ t T8.out rfl rfl))
     | (apply walk_from (T:=[(60,BytesS (zeros t))]) rfl rfl
        · (intro wx hwx;simp only [withS];(rintro x_ ⟨p_,c_,rfl,h1_,h2_⟩);refine⟨rfl, ?_⟩;go_simp;with_reducible exact gives_call (SB.out wx hwx p_ c_ h2_))
        · (simp only [zPu];rfl))
     | (apply walk_is rfl rfl rfl
        · (intro wx hwx;go_simp;(try go_bits);first|exact gives_same|exact gives_skip)
        · (simp only [zPu];rfl))
     | (apply walk_not rfl rfl rfl
        · (simp only [zPu];rfl)))
 intro wz hwz
 simp only [zZi]
 repeat rw [fin_is]
 rw [fin_cons];intro y60 hy60
 repeat rw [fin_is]
 rw [fin_nil];intro hap
 simp only [zPu]at hap⊢
 clear hy60 hap SB
 go_wp2_with (first|((with_reducible apply wq_slHM (h:=N) Tryz.underlying22);infer_instance;exact rfl;exact rfl;exact rfl;exact rfl;exact hNe))
 have xf:=X0.out.trans (hx0.trans hwz)
 have HR:=RM.out _ hwz
 simp only [Exit.jump]
 go_ret2
 exact⟨r,rfl,HR,xf⟩
def MayE(X:Prop)(w0:World):Ending→World→Prop:=fun e w'=>∃b:Bool,e= .returned (.bool b)∧(b=true→X)∧Ext w0 w'
theorem right22_any(t:Int)(w:World):Calls Tryz.prog 31 #[.int .i64 t] w (MayE (0≤t∧t≤16) w):=by
 by_cases h1:0≤t
 · have a1:decide (0≤t)=true:=decide_eq_true h1
   have a2:decide (t≥0)=true:=decide_eq_true h1
   by_cases h2:t≤16
   · have a3:decide (t≤16)=true:=decide_eq_true h2
     have HT:=hid (show 0≤t∧t≤16 from⟨h1,h2⟩)
     go_enter Tryz.func31,Tryz.ntmps31
     go_wp2
     go_ret
     exact⟨true,rfl,fun _=>HT.out,Ext.refl _⟩
   · have a3:decide (t≤16)=false:=decide_eq_false h2
     go_enter Tryz.func31,Tryz.ntmps31
     go_wp2
     go_ret
     exact⟨false,rfl,(fun h=>by cases h),Ext.refl _⟩
 · have a1:decide (0≤t)=false:=decide_eq_false h1
   have a2:decide (t≥0)=false:=decide_eq_false h1
   go_enter Tryz.func31,Tryz.ntmps31
   go_wp2
   go_ret
   exact⟨false,rfl,(fun h=>by cases h),Ext.refl _⟩
def CtxOk(T:Int)(nn:List Byte)(ad:List (List Byte)):Prop:=(0≤T∧T≤16)∧nn.length≤60∧ad.length≤5∧∀i,(ad.getD i []).length≤60
theorem cmay_any(T:Int)(nn:List Byte)(ad:List (List Byte))(p:Option Addr)(c:Nat)(q:Option Addr)(d:Nat)(hlen:ad.length≤maxLen)(w0:World)(hs:RdR w0 q ad):
   Calls Tryz.prog 18 #[.agg #[.int .i64 T, .slice p nn.length c, .slice q ad.length d]] w0 (MayE (CtxOk T nn ad) w0):=by
 have hm:=Own.start w0
 have RT:=hid (right22_any T)
 have HS:=hid fun (w:World)(hx:Ext w0 w)=>hs.ext hx
 have FIN:Hid ((0≤T∧T≤16)→nn.length≤60→ad.length≤5→(∀i,i<ad.length→(ad.getD i []).length≤60)→CtxOk T nn ad):=hid fun a1 a2 a3 a4=>⟨a1,a2,a3,fun i=>by
   by_cases hi:i<ad.length
   · exact a4 i hi
   · rw [List.getD_eq_getElem?_getD,List.getElem?_eq_none (by omega)];exact Nat.zero_le _⟩
 obtain⟨OK_,hOK⟩:=exq (CtxOk T nn ad)
 rw [←hOK]at FIN⊢
 obtain⟨NL,hNL⟩:=exq (nn.length)
 obtain⟨N,hN⟩:=exq (ad.length)
 rw [←hNL,←hN]at FIN
 rw [←hNL,←hN]
 have HN:=hid hN
 rw [←hN]at hlen
 have hNM:N≤9223372036854775807:=by unfold maxLen at hlen;omega
 clear hN hNL hs hOK hlen
 go_enter Tryz.func18,Tryz.ntmps18
 go_wp2_with (first|((with_reducible apply wq_boxN (cs:=[.int .i64 T, .slice p NL c, .slice q N d]) hm);exact rfl;exact rfl;clear hm;intro gl w hm))
 go_loopw [3] (fun i wr=>∃k:Nat,k≤N∧i= .int .i64 (k:Int)∧Own w0 wr [⟨gl,50,[.int .i64 T, .slice p NL c, .slice q N d]⟩]∧Hid (∀i,i<k→(ad.getD i []).length≤60)) (fun i _=>N-(intOf i).toNat)
 case atStart=>exact⟨0,by omega,rfl,hm,hid fun i hi=>absurd hi (Nat.not_lt_zero _)⟩
 case round=>
   clear hm
   obtain⟨k,hk,rfl,hm,HR⟩:=hrel
   by_cases hlt:k<N
   · have hd1:decide ((k:Int)<(N:Int))=true:=decide_eq_true (by omega)
     have hd2:(k:Int)<(N:Int):=by omega
     have hd3:0≤(k:Int)∧(k:Int)<(N:Int):=by omega
     obtain⟨A,rfl,kq,kc,hcell,_,_,_⟩:=(HS.out _ hm.x).row k (by rw [←HN.out];exact hlt)
     obtain⟨BL,hBL⟩:=exq ((ad.getD k []).length)
     rw [←hBL]at hcell
     have HB:=hid hBL
     clear hBL
     by_cases h60:BL≤60
     · have e1:decide ((BL:Int)>60)=false:=decide_eq_false (by omega)
       have e2:decide (60<(BL:Int))=false:=decide_eq_false (by omega)
       have e3:¬60<(BL:Int):=by omega
       have HR2:Hid (∀i,i<k+1→(ad.getD i []).length≤60):=hid fun i hi=>by
         by_cases e:i=k
         · subst e;rw [←HB.out];exact h60
         · exact HR.out i (by omega)
       clear h60
       go_wp2_with (first|((with_reducible show qLd);refine zC hm ?_))
       go_roundw
       case rel=>exact⟨k+1,by omega,by go_num,hm,HR2⟩
       case measure=>simp [intOf]<;>omega
     · have e1:decide ((BL:Int)>60)=true:=decide_eq_true (by omega)
       have e2:decide (60<(BL:Int))=true:=decide_eq_true (by omega)
       have e3:60<(BL:Int):=by omega
       clear h60
       go_wp2_with (first|((with_reducible show qLd);refine zC hm ?_))
       go_ret
       exact⟨false,rfl,(fun h=>by cases h),hm.x⟩
   · obtain rfl:k=N:=by omega
     have hd1:decide ((k:Int)<(k:Int))=false:=decide_eq_false (by omega)
     have FN:=hid fun a1 a2 a3=>FIN.out a1 a2 a3 fun i hi=>HR.out i hi
     clear HR FIN HS HN
     go_wp2_with (first|((with_reducible show qLd);refine zC hm ?_))
     refine(RT.out _).mono ?_
     rintro e_ w ⟨b,rfl,hb,hx_⟩
     replace hm:=hm.ext hx_
     clear hx_
     cases b with
     | false=>
       go_wp2_with fail
       go_ret
       exact⟨false,rfl,(fun h=>by cases h),hm.x⟩
     | true=>
       have HB:=hid (hb rfl)
       clear hb RT
       by_cases h60:NL≤60
       · have e1:decide ((NL:Int)≤60)=true:=decide_eq_true (by omega)
         by_cases h5:k≤5
         · have e2:decide ((k:Int)≤5)=true:=decide_eq_true (by omega)
           have F:=hid (FN.out HB.out h60 h5)
           clear FN HB
           go_wp2_with (first|((with_reducible show qLd);refine zC hm ?_))
           go_ret
           exact⟨true,rfl,fun _=>F.out,hm.x⟩
         · have e2:decide ((k:Int)≤5)=false:=decide_eq_false (by omega)
           clear FN HB
           go_wp2_with (first|((with_reducible show qLd);refine zC hm ?_))
           go_ret
           exact⟨false,rfl,(fun h=>by cases h),hm.x⟩
       · have e1:decide ((NL:Int)≤60)=false:=decide_eq_false (by omega)
         clear FN HB
         go_wp2_with (first|((with_reducible show qLd);refine zC hm ?_))
         go_ret
         exact⟨false,rfl,(fun h=>by cases h),hm.x⟩
theorem cseals_any(g:Nat)(al:Int)(key:List Byte)(t:Nat)(nn:List Byte)(ad:List (List Byte))(hk:CtxOk t nn ad)(p:Option Addr)(c:Nat)(hc:nn.length≤c)(q:Option Addr)(d:Nat)(hd:ad.length≤d)(m:List Byte)(m0:0<m.length)(m1:mnB al≤m.length+t)(m2:m.length+t≤300)(pm:Option Addr)(cm:Nat)(hcm:m.length≤cm)(w0:World)(hr:RdB w0 p nn)(hs:RdR w0 q ad)(hh:CipR w0 g al key)(hm0:RdB w0 pm m):
   Calls Tryz.prog 19 #[.agg #[.int .i64 (t:Int), .slice p nn.length c, .slice q ad.length d], .pointer (some ⟨g,0,none⟩), .slice pm m.length cm] w0 fun e w'=>∃r e2,e= .returned (.tuple #[.slice r (m.length+t) e2, .int .i64 0])∧m.length+t≤e2∧RdB w' r (sealL al key t nn ad m)∧Ext w0 w':=by
 have hm:=Own.start w0
 obtain⟨ht,h1,h2,h3⟩:=hk
 have SE:=hid fun w (hx:Ext w0 w)=>seal_any g al key t (by omega) nn ad h1 h2 h3 p c hc q d hd m m0 m1 m2 pm cm hcm w (hr.ext hx) (hs.ext hx) (hh.ext hx) (hm0.ext hx)
 obtain⟨NL,hNL⟩:=exq (nn.length)
 obtain⟨AL_,hAL⟩:=exq (ad.length)
 rw [←hNL,←hAL]at SE
 rw [←hNL,←hAL]
 obtain⟨N,hN⟩:=exq (m.length)
 rw [←hN]at SE
 rw [←hN]
 obtain⟨S,hS⟩:=exq (sealL al key t nn ad m)
 rw [←hS]at SE
 rw [←hS]
 obtain⟨T,hT⟩:∃x,x=(t:Int):=⟨_,rfl⟩
 rw [←hT]at SE
 rw [←hT]
 clear hNL hAL hS hN hT h1 h2 h3 hr hs hh ht hc hd m0 m1 m2 hm0 hcm
 go_enter Tryz.func19,Tryz.ntmps19
 go_wp2_with (first|((with_reducible apply wq_boxN (cs:=[.int .i64 T, .slice p NL c, .slice q AL_ d]) hm);exact rfl;exact rfl;clear hm;intro gl w hm)|((with_reducible show qLd);refine zC hm ?_))
 refine(SE.out w hm.x).mono ?_
 rintro e_ w ⟨r,e2,rfl,h4,h5,hx_⟩
 have xf:=hm.x.trans hx_
 clear hm hx_ SE
 go_wp2_with fail
 go_ret2
 exact⟨r,e2,rfl,h4,h5,xf⟩
theorem copens_any(g:Nat)(al:Int)(key:List Byte)(t:Nat)(nn:List Byte)(ad:List (List Byte))(hk:CtxOk t nn ad)(p:Option Addr)(c:Nat)(hc:nn.length≤c)(q:Option Addr)(d:Nat)(hd:ad.length≤d)(m:List Byte)(m0:0<m.length)(m1:mnB al≤m.length+t)(m2:m.length+t≤300)(pm:Option Addr)(cm:Nat)(hcm:m.length+t≤cm)(w0:World)(hr:RdB w0 p nn)(hs:RdR w0 q ad)(hh:CipR w0 g al key)(hm0:RdB w0 pm (sealL al key t nn ad m)):
   Calls Tryz.prog 20 #[.agg #[.int .i64 (t:Int), .slice p nn.length c, .slice q ad.length d], .pointer (some ⟨g,0,none⟩), .slice pm (m.length+t) cm] w0 fun e w'=>∃r,e= .returned (.tuple #[.slice r m.length m.length, .int .i64 0])∧RdB w' r m∧Ext w0 w':=by
 have hm:=Own.start w0
 obtain⟨ht,h1,h2,h3⟩:=hk
 have SE:=hid fun w (hx:Ext w0 w)=>open_any g al key t (by omega) nn ad h1 h2 h3 p c hc q d hd m _ m0 m1 m2 (sealL_length al key t nn ad m m1) (sealL_back al key t nn ad m m1) pm cm hcm w (hr.ext hx) (hs.ext hx) (hh.ext hx) (hm0.ext hx)
 obtain⟨NL,hNL⟩:=exq (nn.length)
 obtain⟨AL_,hAL⟩:=exq (ad.length)
 rw [←hNL,←hAL]at SE
 rw [←hNL,←hAL]
 obtain⟨N,hN⟩:=exq (m.length)
 rw [←hN]at SE
 rw [←hN]
 obtain⟨K,hK⟩:=exq (N+t)
 rw [←hK]at SE
 rw [←hK]
 obtain⟨T,hT⟩:∃x,x=(t:Int):=⟨_,rfl⟩
 rw [←hT]at SE
 rw [←hT]
 clear hNL hAL hN hT hK h1 h2 h3 hr hs hh ht hc hd m0 m1 m2 hm0 hcm
 go_enter Tryz.func20,Tryz.ntmps20
 go_wp2_with (first|((with_reducible apply wq_boxN (cs:=[.int .i64 T, .slice p NL c, .slice q AL_ d]) hm);exact rfl;exact rfl;clear hm;intro gl w hm)|((with_reducible show qLd);refine zC hm ?_))
 refine(SE.out w hm.x).mono ?_
 rintro e_ w ⟨r,rfl,h5,hx_⟩
 have xf:=hm.x.trans hx_
 clear hm hx_ SE
 go_wp2_with fail
 go_ret2
 exact⟨r,rfl,h5,xf⟩
open Go
def sgnB(d:Nat):Byte:=BitVec.ofNat 8 (if d<26 then 65+d else if d<52 then 71+d else if d<62 then d-4 else if d=62 then 45 else 95)
def n24(a b c:Byte):BitVec 32:=a.setWidth 32<<<16|||b.setWidth 32<<<8|||c.setWidth 32
def six(b:List Byte)(j:Nat):BitVec 32:=n24 (nth b (3*(j/4))) (nth b (3*(j/4)+1)) (nth b (3*(j/4)+2))>>>(18-6*(j%4))&&&63#32
def sxN(n:Nat):Nat:=n/3*4+(if n%3=0 then 0 else n%3+1)
def sxF(b:List Byte)(m:Nat):List Byte:=tab m fun j=>sgnB (six b j).toNat
def sxE(b:List Byte):List Byte:=sxF b (sxN b.length)
def sixB(b:List Byte)(j:Nat):Byte:=(six b j).setWidth 8
def PadOk(pad:Int):Prop:=pad=16∨pad=32∨pad=64
def nroomN(n:Nat)(pad:Int):Nat:=min ((n+pad.toNat-1)/pad.toNat*pad.toNat) 255
def NoZ(l:List Byte):Prop:=∀b∈l,b≠0#8
def padL(l:List Byte)(pad:Int):List Byte:=l++zeros (nroomN l.length pad-l.length)
def sgnL:List Byte:=tab 64 sgnB
structure VolK (VC:List Value) (gs:Nat):Prop where
 e2:VC[2]? =some (.int .i64 20)
 e3:VC[3]? =some (.int .i64 4)
 e7:VC[7]? =some (.slice (some ⟨gs,0,none⟩) 80 80)
def stP(st:List Byte)(o:Nat)(x:List Byte):List Byte:=st.take o++x++st.drop (o+x.length)
theorem rdB_at {w:World}{g o n:Nat}{l:List Byte}(h:RdB w (some ⟨g,0,none⟩) l):RdB w (some ⟨g,o,none⟩) ((l.drop o).take n):=by
 have h1:=(h.drop o).take n
 rwa [show(⟨g,0,none⟩:Addr).add o=⟨g,o,none⟩from by by_cases hz:o=0;(subst hz;rfl);(simp [Addr.add];omega)]at h1
def stX(bk:Bool)(al:Int)(key st:List Byte)(n:Nat):List Byte:=stP st (n*20) (wideX bk al key (twL n) ((st.drop (n*20)).take 20))
def volC(gt:Nat)(al:Int)(gc gs:Nat)(ld:Value):List Value:=[.pointer (some ⟨gt,0,none⟩), .int .i64 al, .int .i64 20, .int .i64 4, .pointer (some ⟨gc,0,none⟩), .pointer none, .int .i64 0, .slice (some ⟨gs,0,none⟩) 80 80,ld]
def volN(gt:Nat)(al:Int)(gc:Nat)(nx:Option Addr)(mv:Int)(gs:Nat)(ld:Value):List Value:=[.pointer (some ⟨gt,0,none⟩), .int .i64 al, .int .i64 20, .int .i64 4, .pointer (some ⟨gc,0,none⟩), .pointer nx, .int .i64 mv, .slice (some ⟨gs,0,none⟩) 80 80,ld]
def stT(al:Int)(key st:List Byte)(n:Nat):List Byte:=stP st (n*20) (wideE al key (twL n) ((st.drop (n*20)).take 20))
instance:One1 Tryz.prog 221:=⟨by kernel_rfl,by kernel_rfl⟩
def ldB:Nat→Nat
 |0=>0
 |k+1=>((FloatKind.format .f64).add (ldB k) 4607182418800017408).getD 0
def ldW(r k:Nat):Value:= .complex .f64 (ldB r) (ldB k)
def ldV(k:Nat):Value:= .complex .f64 0 (ldB k)
def stW(al:Int)(key st:List Byte)(n:Nat)(b:List Byte):List Byte:=stT al key (stP st (n*20) b) n
def stF(al:Int)(key:List Byte):Nat→List Byte
 |0=>zeros 80
 |k+1=>stT al key (stF al key k) k
def right4(n:Nat):Bool:=(decide (n=16)||decide (n=24))||decide (n=32)
theorem right04_any(n:Nat)(w:World):Calls Tryz.prog 34 #[.int .i64 (n:Int)] w fun e w'=>e= .returned (.bool (right4 n))∧w=w':=by
 unfold right4
 have E1:((n:Int)==16)=decide (n=16):=by rw [Bool.eq_iff_iff];simp;omega
 have E2:((n:Int)==24)=decide (n=24):=by rw [Bool.eq_iff_iff];simp;omega
 have E3:((n:Int)==32)=decide (n=32):=by rw [Bool.eq_iff_iff];simp;omega
 by_cases h1:n=16
 · have e1:((n:Int)==16)=true:=by rw [E1];exact decide_eq_true h1
   rw [decide_eq_true h1]
   clear E1 E2 E3 h1
   go_enter Tryz.func34,Tryz.ntmps34
   go_wp2
   go_ret
   exact⟨rfl,rfl⟩
 · have e1:((n:Int)==16)=false:=by rw [E1];exact decide_eq_false h1
   rw [decide_eq_false h1]
   by_cases h2:n=24
   · have e2:((n:Int)==24)=true:=by rw [E2];exact decide_eq_true h2
     rw [decide_eq_true h2]
     clear E1 E2 E3 h1 h2
     go_enter Tryz.func34,Tryz.ntmps34
     go_wp2
     go_ret
     exact⟨rfl,rfl⟩
   · have e2:((n:Int)==24)=false:=by rw [E2];exact decide_eq_false h2
     rw [decide_eq_false h2]
     by_cases h3:n=32
     · have e3:((n:Int)==32)=true:=by rw [E3];exact decide_eq_true h3
       rw [decide_eq_true h3]
       clear E1 E2 E3 h1 h2 h3
       go_enter Tryz.func34,Tryz.ntmps34
       go_wp2
       go_ret
       exact⟨rfl,rfl⟩
     · have e3:((n:Int)==32)=false:=by rw [E3];exact decide_eq_false h3
       rw [decide_eq_false h3]
       clear E1 E2 E3 h1 h2 h3
       go_enter Tryz.func34,Tryz.ntmps34
       go_wp2
       go_ret
       exact⟨rfl,rfl⟩
theorem right4_iff(n:Nat):right4 n=true↔(n=16∨n=24∨n=32):=by simp [right4,or_assoc]
theorem wrong_any(al:Int)(key:List Byte)(p:Option Addr)(c:Nat)(w:World):Calls Tryz.prog 21 #[.int .i64 al, .slice p key.length c] w fun e w'=>∃n:Int,e= .returned (.int .i64 n)∧(n=0→SchOk al key)∧w=w':=by
 have R4:=hid (right04_any key.length w)
 have R5:=hid (right15_any key p c w)
 by_cases h1:al<1
 · have d1:decide (al<1)=true:=decide_eq_true h1
   go_enter Tryz.func21,Tryz.ntmps21
   go_wp2
   go_ret
   exact⟨8,rfl,(fun h=>by cases h),rfl⟩
 · have d1:decide (al<1)=false:=decide_eq_false h1
   by_cases h2:al>3
   · have d2:decide (al>3)=true:=decide_eq_true h2
     have d2':decide (3<al)=true:=decide_eq_true h2
     have d2'':3<al:=h2
     go_enter Tryz.func21,Tryz.ntmps21
     go_wp2
     go_ret
     exact⟨8,rfl,(fun h=>by cases h),rfl⟩
   · have h3:al=1∨al=2∨al=3:=by omega
     clear h1 h2 d1
     rcases h3 with rfl|rfl|rfl
     · by_cases h:key.length=32
       · have d3:((key.length:Int) !=32)=false:=by rw [h];rfl
         have HS:=hid (show SchOk 1 key from .inl ⟨rfl,h⟩)
         clear h
         go_enter Tryz.func21,Tryz.ntmps21
         go_wp2
         go_ret
         exact⟨0,rfl,fun _=>HS.out,rfl⟩
       · have d3:((key.length:Int) !=32)=true:=by simp;omega
         clear h
         go_enter Tryz.func21,Tryz.ntmps21
         go_wp2
         go_ret
         exact⟨2,rfl,(fun h=>by cases h),rfl⟩
     · have HS:=hid (fun h=>(show SchOk 2 key from .inr (.inl ⟨rfl,(right4_iff _).1 h⟩)))
       generalize right4 key.length=r at R4 HS
       cases r
       · go_enter Tryz.func21,Tryz.ntmps21
         go_wp2_with (go_at_call 34;(with_reducible refine(R4.out).mono ?_);rintro e_ w_ ⟨rfl,rfl⟩)
         go_ret
         exact⟨2,rfl,(fun h=>by cases h),rfl⟩
       · go_enter Tryz.func21,Tryz.ntmps21
         go_wp2_with (go_at_call 34;(with_reducible refine(R4.out).mono ?_);rintro e_ w_ ⟨rfl,rfl⟩)
         go_ret
         exact⟨0,rfl,(fun _=>by first|exact HS.out rfl|exact HS.out trivial|exact HS.out),rfl⟩
     · have HS:=hid (fun (h:rightL key=true)=>(show SchOk 3 key from .inr (.inr ⟨rfl,by simpa [rightL]using h⟩)))
       generalize rightL key=r at R5 HS
       cases r
       · go_enter Tryz.func21,Tryz.ntmps21
         go_wp2_with (go_at_call 35;(with_reducible refine(R5.out).mono ?_);rintro e_ w_ ⟨rfl,rfl⟩)
         go_ret
         exact⟨2,rfl,(fun h=>by cases h),rfl⟩
       · go_enter Tryz.func21,Tryz.ntmps21
         go_wp2_with (go_at_call 35;(with_reducible refine(R5.out).mono ?_);rintro e_ w_ ⟨rfl,rfl⟩)
         go_ret
         exact⟨0,rfl,(fun _=>by first|exact HS.out rfl|exact HS.out trivial|exact HS.out),rfl⟩
theorem lmay_any(al:Int)(key:List Byte)(p:Option Addr)(c:Nat)(w0:World):Calls Tryz.prog 5 #[.agg #[.int .i64 al, .slice p key.length c]] w0 fun e w'=>∃b:Bool,e= .returned (.bool b)∧(b=true→SchOk al key)∧Ext w0 w':=by
 have hm:=Own.start w0
 have WR:=hid fun w=>wrong_any al key p c w
 by_cases h:key.length≤200
 · have d1:decide ((key.length:Int)≤200)=true:=decide_eq_true (by omega)
   have d2:(key.length:Int)≤200:=by omega
   clear h
   go_enter Tryz.func5,Tryz.ntmps5
   go_wp2_with (first|((with_reducible apply wq_boxN (cs:=[.int .i64 al, .slice p key.length c]) hm);exact rfl;exact rfl;clear hm;intro gl w hm)|((with_reducible show qLd);refine zC hm ?_))
   refine(WR.out _).mono ?_
   rintro e_ w_ ⟨n,rfl,hn,rfl⟩
   by_cases h0:n=0
   · have d3:(n==0)=true:=by rw [h0];rfl
     have HN:=hid (hn h0)
     clear h0 hn
     go_wp2_with fail
     go_ret
     exact⟨true,rfl,fun _=>HN.out,hm.x⟩
   · have d3:(n==0)=false:=by rw [beq_eq_false_iff_ne];exact h0
     clear h0 hn
     go_wp2_with fail
     go_ret
     exact⟨false,rfl,(fun h=>by cases h),hm.x⟩
 · have d1:decide ((key.length:Int)≤200)=false:=decide_eq_false (by omega)
   have d2:¬(key.length:Int)≤200:=by omega
   clear h
   go_enter Tryz.func5,Tryz.ntmps5
   go_wp2_with (first|((with_reducible apply wq_boxN (cs:=[.int .i64 al, .slice p key.length c]) hm);exact rfl;exact rfl;clear hm;intro gl w hm)|((with_reducible show qLd);refine zC hm ?_))
   go_ret
   first|exact⟨false,rfl,(fun h=>by cases h),hm.x⟩|exact .inl ⟨rfl,hm.x⟩
theorem toptab_new(w0:World)(hc:Coef w0):Calls Tryz.prog 23 #[] w0 fun e w'=>∃g gb,e= .returned (.pointer (some ⟨g,0,none⟩))∧TabR g gb w'∧Ext w0 w':=by
 have HC:=hid hc
 clear hc
 go_enter Tryz.func23,Tryz.ntmps23
 go_wp2_with fail
 refine(make_new _).mono ?_
 rintro e w1 ⟨gb,rfl,hgb,hr,hx⟩
 go_wp2_with fail
 refine(tnew_new gb w1 hr (HC.out.ext hx)).mono ?_
 rintro e w2 ⟨g,rfl,hg,hr2,hx2⟩
 go_wp2
 go_ret
 exact⟨g,gb,rfl,⟨hr2,row_ext hr hx2⟩,hx.trans hx2⟩
theorem tbox_0(g gb:Nat)(w:World)(h:TabR g gb w):Calls Tryz.prog 30 #[.pointer (some ⟨g,0,none⟩), .int .u8 0] w fun e w'=>e= .returned (.int .u8 99)∧w=w':=by
 have:=tbox_any g gb 0#8 w h.1 h.2
 rwa [show v8 (bxTo 0#8)= .int .u8 99 from by kernel_rfl]at this
theorem tbox_1(g gb:Nat)(w:World)(h:TabR g gb w):Calls Tryz.prog 30 #[.pointer (some ⟨g,0,none⟩), .int .u8 1] w fun e w'=>e= .returned (.int .u8 124)∧w=w':=by
 have:=tbox_any g gb 1#8 w h.1 h.2
 rwa [show v8 (bxTo 1#8)= .int .u8 124 from by kernel_rfl]at this
theorem awakeT(w0:World)(hc:Coef w0):Gives Tryz.prog 17 #[] w0 (.bool true):=by
 unfold Gives
 have TT:=hid (toptab_new w0 hc)
 clear hc
 go_enter Tryz.func17,Tryz.ntmps17
 go_wp2_with fail
 refine(TT.out).mono ?_
 rintro e w ⟨g,gb,rfl,ht,hx⟩
 have T0:=hid (tbox_0 g gb w ht)
 have T1:=hid (tbox_1 g gb w ht)
 clear ht
 go_wp2_with fail
 refine(T0.out).mono ?_
 rintro e_ w_ ⟨rfl,rfl⟩
 go_wp2_with fail
 refine(T1.out).mono ?_
 rintro e_ w_ ⟨rfl,rfl⟩
 go_wp2_with fail
 go_ret
 exact⟨rfl,hx⟩
def CipT(al:Int)(key:List Byte):Slot:=fun v w=>∃g,v= .tuple #[.pointer (some ⟨g,0,none⟩), .int .i64 0]∧CipR w g al key
theorem CipT.stable(al:Int)(key:List Byte):Stable (CipT al key):=fun _ _ _ ⟨g,h1,h2⟩ hx=>⟨g,h1,h2.ext hx⟩
def CipV(al:Int)(key:List Byte):Slot:=fun v w=>∃g,v= .pointer (some ⟨g,0,none⟩)∧CipR w g al key
theorem CipV.stable(al:Int)(key:List Byte):Stable (CipV al key):=fun _ _ _ ⟨g,h1,h2⟩ hx=>⟨g,h1,h2.ext hx⟩
def TabU:Slot:=fun v w=>∃g gb,v= .pointer (some ⟨g,0,none⟩)∧TabR g gb w
theorem TabU.stable:Stable TabU:=fun _ _ _ ⟨g,gb,h1,h2⟩ hx=>⟨g,gb,h1,h2.ext hx⟩
theorem topcipher_any(al:Int)(key:List Byte)(hk:SchOk al key)(p:Option Addr)(c:Nat)(hc:key.length≤c)(w0:World)(hcf:Coef w0)(hcb:CoefB w0)(hr:RdB w0 p key):
   Calls Tryz.prog 8 #[.agg #[.int .i64 al, .slice p key.length c]] w0 fun e w'=>∃g,e= .returned (.tuple #[.pointer (some ⟨g,0,none⟩), .bool true])∧CipR w' g al key∧Ext w0 w':=by
 have hm:=Own.start w0
 have TT:=hid fun w (hx:Ext w0 w)=>(show GivesR Tryz.prog 23 #[] w TabU from(toptab_new w (hcf.ext hx)).mono fun _ _ ⟨g,gb,h1,h2,h3⟩=>⟨_,h1,⟨g,gb,rfl,h2⟩,h3⟩)
 have NW:=hid fun (gt gb:Nat)(w:World)(hx:Ext w0 w)(ht:TabR gt gb w)=>(show GivesR Tryz.prog 22 #[.pointer (some ⟨gt,0,none⟩), .int .i64 al, .slice p key.length c] w (CipT al key)from
   (wnew_any al gt gb key hk p c hc w (hr.ext hx) ht (hcb.ext hx)).mono fun e w' ⟨g1,L,h1,h2,h3,h4⟩=>⟨_,h1,⟨g1,rfl,h4 w' (fun b hb=>h3.rows b hb) (ht.ext h3.x)⟩,h3.x⟩)
 obtain⟨TL,hTL⟩:=exq (key.length)
 rw [←hTL]at NW⊢
 clear hcf hcb hr hc hk hTL
 go_enter Tryz.func8,Tryz.ntmps8
 go_wp2_with (first|((with_reducible apply wq_boxN (cs:=[.int .i64 al, .slice p TL c]) hm);exact rfl;exact rfl;clear hm;intro gl w hm))
 have hx0:=hm.x
 refine region_new 10 (fun w'=>Ext _ w') 22 (by kernel_rfl) (by kernel_rfl) rfl (fun _ _ h k=>h.trans k) (drew_ext _) ?_
 simp only [zTa]
 repeat (first
     |(apply walk_some TabU 7 TabU.stable rfl rfl rfl rfl;(intro wx hwx;go_simp;with_reducible exact gives_callR (TT.out wx (hx0.trans hwx))))
     | (apply walk_from_some (T:=[(7,TabU)]) (CipT al key) 12 (CipT.stable _ _) rfl rfl rfl
        · (intro wx hwx;simp only [withS];(rintro x_ ⟨gt_,gb_,rfl,ht_⟩);refine⟨rfl, ?_⟩;go_simp;with_reducible exact gives_callR (NW.out _ _ wx (hx0.trans hwx) ht_)))
     | (apply walk_from_some (T:=[(12,CipT al key)]) (CipT al key) 6 (CipT.stable _ _) rfl rfl rfl
        · (intro wx hwx;simp only [withS];(rintro x_ ⟨g_,rfl,h_⟩);refine⟨rfl, ?_⟩;go_simp;exact gives_val (Ext.refl _) ⟨g_,rfl,h_⟩))
     | (apply walk_from_some (T:=[(6,CipT al key)]) (CipV al key) 13 (CipV.stable _ _) rfl rfl rfl
        · (intro wx hwx;simp only [withS];(rintro x_ ⟨g_,rfl,h_⟩);refine⟨rfl, ?_⟩;go_simp;exact gives_val (V:=CipV al key) (Ext.refl _) ⟨g_,rfl,h_⟩))
     | (apply walk_from (T:=[(6,CipT al key)]) rfl rfl
        · (intro wx hwx;simp only [withS];(rintro x_ ⟨g_,rfl,h_⟩);refine⟨rfl, ?_⟩;go_simp;exact gives_same)
        · (simp only [zPu];rfl))
     | (apply walk_from_some (T:=[(13,CipV al key)]) (CipV al key) 4 (CipV.stable _ _) rfl rfl rfl
        · (intro wx hwx;simp only [withS];(rintro x_ ⟨g_,rfl,h_⟩);refine⟨rfl, ?_⟩;go_simp;exact gives_val (V:=CipV al key) (Ext.refl _) ⟨g_,rfl,h_⟩))
     | (apply walk_is rfl rfl rfl
        · (intro wx hwx;first|((with_reducible show qGl);exact zL (hm.ext hwx))|(go_simp;(try go_bits);first|exact gives_same|exact gives_skip))
        · (simp only [zPu];rfl))
     | (apply walk_not rfl rfl rfl
        · (simp only [zPu];rfl)))
 intro wz hwz
 simp only [zZi]
 repeat rw [fin_is]
 rw [fin_cons];intro x7 hx7
 repeat rw [fin_is]
 rw [fin_cons];intro x12 hx12
 repeat rw [fin_is]
 rw [fin_cons];intro x6 hx6
 repeat rw [fin_is]
 rw [fin_cons];intro x13 hx13
 repeat rw [fin_is]
 rw [fin_cons];intro x4 hx4
 repeat rw [fin_is]
 rw [fin_nil];intro hap
 simp only [zPu]at hap⊢
 obtain⟨g,rfl,hC⟩:=hx4
 have HC:=hid hC
 have hx1:=hx0.trans hwz
 clear hm hx0 hap hx7 hx12 hx6 hx13 hC TT NW
 go_wp2_with fail
 go_ret2
 exact⟨g,rfl,HC.out,hx1⟩
def okV(a d:Option Value):Prop:=(∀v,a=some v→∃g,v= .pointer (some ⟨g,0,none⟩))∧(a=none→d=none)
def ThreeV(w0:World)(L:List Blk)(T1:TypeId)(z1 x1:List Value)(T2:TypeId)(z2 x2:List Value)(T3:TypeId)(z3 x3:List Value)(s:List (Option Value))(w:World):Prop:=
 ∃a b c d e f,s=[a,b,c,d,e,f]∧okV a d∧okV b e∧okV c f∧Own w0 w (blkO a d T1 z1 x1++(blkO b e T2 z2 x2++(blkO c f T3 z3 x3++L)))
section
variable {w0 w:World} {L:List Blk} {T1 T2 T3:TypeId} {z1 x1 z2 x2 z3 x3:List Value} {s:List (Option Value)}
theorem ThreeV.ext(s:List (Option Value))(w w':World)(h:ThreeV w0 L T1 z1 x1 T2 z2 x2 T3 z3 x3 s w)(hx:Ext w w'):ThreeV w0 L T1 z1 x1 T2 z2 x2 T3 z3 x3 s w':=by
 obtain⟨a,b,c,d,e,f,rfl,h1,h2,h3,h⟩:=h
 exact⟨a,b,c,d,e,f,rfl,h1,h2,h3,h.ext hx⟩
theorem okV_none:okV none none:=⟨fun v h=>(by cases h),fun _=>rfl⟩
theorem okV_new(g:Nat)(d:Option Value):okV (some (.pointer (some ⟨g,0,none⟩))) d:=⟨fun v h=>⟨g,(Option.some.inj h).symm⟩,fun h=>by cases h⟩
theorem ThreeV.start(h:Own w0 w L):ThreeV w0 L T1 z1 x1 T2 z2 x2 T3 z3 x3 (List.replicate 6 none) w:=⟨none,none,none,none,none,none,rfl,okV_none,okV_none,okV_none,h⟩
theorem ThreeV.low(h:ThreeV w0 L T1 z1 x1 T2 z2 x2 T3 z3 x3 s w):Own w0 w L:=by
 obtain⟨a,b,c,d,e,f,rfl,_,_,_,h⟩:=h
 exact h.dropN.dropN.dropN
theorem perm3b(A B C:List Blk):(A++(B++C)).Perm (B++(A++C)):=by
 rw [←List.append_assoc,←List.append_assoc];exact List.perm_append_comm.append_right C
theorem perm3c(A B C D:List Blk):(A++(B++(C++D))).Perm (C++(A++(B++D))):=by
 refine List.Perm.trans ((perm3b B C D).append_left A) ?_
 exact perm3b A C (B++D)
theorem ThreeV.n0(h:ThreeV w0 L T1 z1 x1 T2 z2 x2 T3 z3 x3 s w)(hn:s[0]? =some none):∃R,Own w0 w R∧∀g w',Own w0 w' (⟨g,T1,z1⟩::R)→ThreeV w0 L T1 z1 x1 T2 z2 x2 T3 z3 x3 (s.set 0 (some (.pointer (some ⟨g,0,none⟩)))) w':=by
 obtain⟨a,b,c,d,e,f,rfl,h1,h2,h3,h⟩:=h
 obtain rfl:a=none:=by simpa using hn
 obtain rfl:=h1.2 rfl
 exact⟨_,h,fun g w' hm=>⟨_,b,c,none,e,f,rfl,okV_new g _,h2,h3,hm⟩⟩
theorem ThreeV.n1(h:ThreeV w0 L T1 z1 x1 T2 z2 x2 T3 z3 x3 s w)(hn:s[1]? =some none):∃R,Own w0 w R∧∀g w',Own w0 w' (⟨g,T2,z2⟩::R)→ThreeV w0 L T1 z1 x1 T2 z2 x2 T3 z3 x3 (s.set 1 (some (.pointer (some ⟨g,0,none⟩)))) w':=by
 obtain⟨a,b,c,d,e,f,rfl,h1,h2,h3,h⟩:=h
 obtain rfl:b=none:=by simpa using hn
 obtain rfl:=h2.2 rfl
 exact⟨_,h,fun g w' hm=>⟨a,_,c,d,none,f,rfl,h1,okV_new g _,h3,hm.perm (perm3b [_] _ _)⟩⟩
theorem ThreeV.n2(h:ThreeV w0 L T1 z1 x1 T2 z2 x2 T3 z3 x3 s w)(hn:s[2]? =some none):∃R,Own w0 w R∧∀g w',Own w0 w' (⟨g,T3,z3⟩::R)→ThreeV w0 L T1 z1 x1 T2 z2 x2 T3 z3 x3 (s.set 2 (some (.pointer (some ⟨g,0,none⟩)))) w':=by
 obtain⟨a,b,c,d,e,f,rfl,h1,h2,h3,h⟩:=h
 obtain rfl:c=none:=by simpa using hn
 obtain rfl:=h3.2 rfl
 exact⟨_,h,fun g w' hm=>⟨a,b,_,d,e,none,rfl,h1,h2,okV_new g _,hm.perm (perm3c _ _ [_] _).symm⟩⟩
theorem ThreeV.s0 {v:Value}(h:ThreeV w0 L T1 z1 x1 T2 z2 x2 T3 z3 x3 s w)(hn:s[3]? =some none)(hv:s[0]? =some (some v)):∃g R,v= .pointer (some ⟨g,0,none⟩)∧Own w0 w (⟨g,T1,z1⟩::R)∧∀u w',Own w0 w' (⟨g,T1,x1⟩::R)→ThreeV w0 L T1 z1 x1 T2 z2 x2 T3 z3 x3 (s.set 3 (some u)) w':=by
 obtain⟨a,b,c,d,e,f,rfl,h1,h2,h3,h⟩:=h
 obtain rfl:d=none:=by simpa using hn
 obtain rfl:a=some v:=by simpa using hv
 obtain⟨g,rfl⟩:=h1.1 _ rfl
 exact⟨g,_,rfl,h,fun u w' hm=>⟨_,b,c,some u,e,f,rfl,okV_new g _,h2,h3,hm⟩⟩
theorem ThreeV.s1 {v:Value}(h:ThreeV w0 L T1 z1 x1 T2 z2 x2 T3 z3 x3 s w)(hn:s[4]? =some none)(hv:s[1]? =some (some v)):∃g R,v= .pointer (some ⟨g,0,none⟩)∧Own w0 w (⟨g,T2,z2⟩::R)∧∀u w',Own w0 w' (⟨g,T2,x2⟩::R)→ThreeV w0 L T1 z1 x1 T2 z2 x2 T3 z3 x3 (s.set 4 (some u)) w':=by
 obtain⟨a,b,c,d,e,f,rfl,h1,h2,h3,h⟩:=h
 obtain rfl:e=none:=by simpa using hn
 obtain rfl:b=some v:=by simpa using hv
 obtain⟨g,rfl⟩:=h2.1 _ rfl
 exact⟨g,_,rfl,h.perm (perm3b _ [_] _),fun u w' hm=>⟨a,_,c,d,some u,f,rfl,h1,okV_new g _,h3,hm.perm (perm3b [_] _ _)⟩⟩
theorem ThreeV.s2 {v:Value}(h:ThreeV w0 L T1 z1 x1 T2 z2 x2 T3 z3 x3 s w)(hn:s[5]? =some none)(hv:s[2]? =some (some v)):∃g R,v= .pointer (some ⟨g,0,none⟩)∧Own w0 w (⟨g,T3,z3⟩::R)∧∀u w',Own w0 w' (⟨g,T3,x3⟩::R)→ThreeV w0 L T1 z1 x1 T2 z2 x2 T3 z3 x3 (s.set 5 (some u)) w':=by
 obtain⟨a,b,c,d,e,f,rfl,h1,h2,h3,h⟩:=h
 obtain rfl:f=none:=by simpa using hn
 obtain rfl:c=some v:=by simpa using hv
 obtain⟨g,rfl⟩:=h3.1 _ rfl
 exact⟨g,_,rfl,h.perm (perm3c _ _ [_] _),fun u w' hm=>⟨a,b,_,d,e,some u,rfl,h1,h2,okV_new g _,hm.perm (perm3c _ _ [_] _).symm⟩⟩
theorem ThreeV.fin {v1 v2 v3:Value}(h:ThreeV w0 L T1 z1 x1 T2 z2 x2 T3 z3 x3 s w)(e1:s[0]? =some (some v1))(e2:s[1]? =some (some v2))(e3:s[2]? =some (some v3))(hl:∀i,i<6→∃x,s[i]? =some (some x)):∃g1 g2 g3,v1= .pointer (some ⟨g1,0,none⟩)∧v2= .pointer (some ⟨g2,0,none⟩)∧v3= .pointer (some ⟨g3,0,none⟩)∧Own w0 w (⟨g1,T1,x1⟩::⟨g2,T2,x2⟩::⟨g3,T3,x3⟩::L):=by
 obtain⟨a,b,c,d,e,f,rfl,h1,h2,h3,h⟩:=h
 obtain rfl:a=some v1:=by simpa using e1
 obtain rfl:b=some v2:=by simpa using e2
 obtain rfl:c=some v3:=by simpa using e3
 obtain⟨u1,k1⟩:=hl 3 (by omega)
 obtain⟨u2,k2⟩:=hl 4 (by omega)
 obtain⟨u3,k3⟩:=hl 5 (by omega)
 simp at k1 k2 k3
 subst k1;subst k2;subst k3
 obtain⟨g1,rfl⟩:=h1.1 _ rfl
 obtain⟨g2,rfl⟩:=h2.1 _ rfl
 obtain⟨g3,rfl⟩:=h3.1 _ rfl
 exact⟨g1,g2,g3,rfl,rfl,rfl,h⟩
end
end Go.Proofs.YtneacgpmjlocjaaGreatDoor
