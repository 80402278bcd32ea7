/-
  Texts of the program, walked, and plain ones. Conditions: those written in each theorem.
-/
import Derived.Test.YtneacgpmjlocjaaGreatDoorZTopWrapped0
import Derived.Test.YtneacgpmjlocjaaGreatDoorZTopWrapped21
import Derived.Test.YtneacgpmjlocjaaGreatDoorZTopWrapped8
import Derived.Test.YtneacgpmjlocjaaGreatDoorZTopWrapped18
import Derived.Test.YtneacgpmjlocjaaGreatDoorZTopWrapped9
import Derived.Test.YtneacgpmjlocjaaGreatDoorZTopWrapped6
import Derived.Test.YtneacgpmjlocjaaGreatDoorZTopWrapped11
set_option linter.unusedSimpArgs false
set_option linter.unusedVariables false
set_option maxHeartbeats 16000000
open Go.Lib (hid)
namespace Go.Proofs.YtneacgpmjlocjaaGreatDoor
open Go Go.RowKit
set_option maxRecDepth 100000
def methN (bk : Bool) : String := if bk = true then "Decipher" else "Encipher"
theorem turned_gen(bk:Bool)(g K TL:Nat)(lst:Int)(T:TypeId)(x r:Value)(f:FuncId)(hFV:∀args w,(callFunc f args).run Tryz.prog w= .ok (.enter f args) w)(X:List Byte)(p q:Option Addr)(c d:Nat)(w0:World)(hl:¬(K:Int)<lst)
   (c1:w0.cell? ⟨g,1,none⟩=some (.iface T x))
   (LE:Calls Tryz.prog 39 #[.pointer (some ⟨g,0,none⟩)] w0 fun e w'=>e= .returned (.int .i64 lst)∧w0=w')
   (me:∀n w,(method (n+1) T x (methN bk)).run Tryz.prog w= .ok (f,r) w)
   (EN:Calls Tryz.prog f #[r, .slice p TL c, .slice q K d] w0 fun e w'=>∃px cx,e= .returned (.tuple #[.slice px K cx, .int .i64 0])∧K≤cx∧RdB w' px X∧Ext w0 w'):
   Calls Tryz.prog 27 #[.pointer (some ⟨g,0,none⟩), .slice p TL c, .slice q K d, .bool bk] w0 fun e w'=>∃px cx,e= .returned (.tuple #[.slice px K cx, .int .i64 0])∧K≤cx∧RdB w' px X∧Ext w0 w':=by
 have HE:=hid EN
 have HL:=hid LE
 have d3:decide ((K:Int)<lst)=false:=decide_eq_false hl
 clear EN LE
 cases bk
 · have me : ∀ n w, (method (n + 1) T x "Encipher").run Tryz.prog w = .ok (f, r) w := me
   go_enter Tryz.func27,Tryz.ntmps27
   go_wp2_with (go_at_call 39;(with_reducible refine(HL.out).mono ?_);rintro e_ w ⟨rfl,rfl⟩)
   refine(HE.out).mono ?_
   rintro e_ w ⟨px,cx,rfl,hcx,hpx,hx⟩
   go_wp2_with fail
   go_ret2
   exact⟨px,cx,rfl,hcx,hpx,hx⟩
 · have me : ∀ n w, (method (n + 1) T x "Decipher").run Tryz.prog w = .ok (f, r) w := me
   go_enter Tryz.func27,Tryz.ntmps27
   go_wp2_with (go_at_call 39;(with_reducible refine(HL.out).mono ?_);rintro e_ w ⟨rfl,rfl⟩)
   refine(HE.out).mono ?_
   rintro e_ w ⟨px,cx,rfl,hcx,hpx,hx⟩
   go_wp2_with fail
   go_ret2
   exact⟨px,cx,rfl,hcx,hpx,hx⟩
theorem meth_ade (n : Nat) (p : Addr) (w : World) : (method (n + 1) 97 (.pointer (some p)) "Encipher").run Tryz.prog w = .ok (174, .pointer (some p)) w := by kernel_rfl
theorem meth_hce (n : Nat) (p : Addr) (w : World) : (method (n + 1) 100 (.pointer (some p)) "Encipher").run Tryz.prog w = .ok (211, .pointer (some p)) w := by kernel_rfl
theorem meth_eze (n : Nat) (v : Value) (w : World) : (method (n + 1) 107 (.agg #[v]) "Encipher").run Tryz.prog w = .ok (234, .agg #[v]) w := by kernel_rfl
theorem meth_add (n : Nat) (p : Addr) (w : World) : (method (n + 1) 97 (.pointer (some p)) "Decipher").run Tryz.prog w = .ok (173, .pointer (some p)) w := by kernel_rfl
theorem meth_hcd (n : Nat) (p : Addr) (w : World) : (method (n + 1) 100 (.pointer (some p)) "Decipher").run Tryz.prog w = .ok (210, .pointer (some p)) w := by kernel_rfl
theorem meth_ezd (n : Nat) (v : Value) (w : World) : (method (n + 1) 107 (.agg #[v]) "Decipher").run Tryz.prog w = .ok (233, .agg #[v]) w := by kernel_rfl
theorem slo_post {P:Program}{f:FuncId}{xs:Array Value}{w:World}{K:Nat}{X:List Byte}(h:Calls P f xs w fun e w'=>∃v M R,e= .returned (.tuple #[v, .int .i64 0])∧Own w w' (M++R)∧SlO M 5 1 v K (X.map v8)):Calls P f xs w fun e w'=>∃px cx,e= .returned (.tuple #[.slice px K cx, .int .i64 0])∧K≤cx∧RdB w' px X∧Ext w w':=
 h.mono fun e w' ⟨v,M,R,h1,h2,h3⟩=>by
   obtain⟨px,cx,rfl,h4,h5⟩:=slo_read h2 h3
   exact⟨px,cx,h1,h5,h4,h2.x⟩
def SchOk(al:Int)(key:List Byte):Prop:=(al=1∧key.length=32)∨(al=2∧(key.length=16∨key.length=24∨key.length=32))∨(al=3∧0<key.length∧key.length≤128)
def SchR(al:Int)(key:List Byte)(v:Value)(w:World):Prop:=∃gi,
 (al=1∧v= .iface 97 (.pointer (some ⟨gi,0,none⟩))∧AdiP w gi (adPk key))
 ∨(al=2∧v= .iface 100 (.pointer (some ⟨gi,0,none⟩))∧HcR w gi (eK0 key) (eKs key) (eKl key) (hcH key) (hcL key))
 ∨(al=3∧v= .iface 107 (.agg #[.pointer (some ⟨gi,0,none⟩)])∧KeyR w gi (keyOf key))
theorem SchR.cip {al:Int}{key:List Byte}{v:Value}{w:World}{g:Nat}(h:SchR al key v w)(hr:Row w g 79 [.int .i64 al,v]):CipR w g al key:=by
 obtain⟨gi,⟨h1,h2,h3⟩|⟨h1,h2,h3⟩|⟨h1,h2,h3⟩⟩:=h
 · exact⟨gi, .inl ⟨h1,by subst h1;subst h2;exact hr,h3⟩⟩
 · exact⟨gi, .inr (.inl ⟨h1,by subst h1;subst h2;exact hr,h3⟩)⟩
 · exact⟨gi, .inr (.inr ⟨h1,by subst h1;subst h2;exact hr,h3⟩)⟩
theorem adPk_of {w:World}{g:Nat}{key:List Byte}(h:AdiK w g key):AdiP w g (adPk key):=by unfold adPk;exact h
theorem schemed1_any(gt gb:Nat)(key:List Byte)(hk:key.length=32)(p:Option Addr)(c:Nat)(hc:key.length≤c)(w0:World)(hr:RdB w0 p key)(ht:TabR gt gb w0)(hcb:CoefB w0):
   Calls Tryz.prog 36 #[.pointer (some ⟨gt,0,none⟩), .int .i64 1, .slice p key.length c] w0 fun e w'=>∃v L,e= .returned (.tuple #[v, .int .i64 0])∧Own w0 w' L∧Keeps L (TabR gt gb) (SchR 1 key v)∧∃T x,v= .iface T x:=by
 have hm:=Own.start w0
 have EN:=hid (adinew_any gt gb key hk p c (by omega) w0 hr ht)
 have KE:=hid fun (gi:Nat)(L:List Blk)(h:Keeps L (TabR gt gb) (fun wx=>AdiK wx gi key))=>(show Keeps L (TabR gt gb) (SchR 1 key (.iface 97 (.pointer (some ⟨gi,0,none⟩))))from(fun wx h1 h2=>⟨gi, .inl ⟨rfl,rfl,adPk_of (h wx h1 h2)⟩⟩))
 obtain⟨TL,hTL⟩:=exq (key.length)
 rw [hk]at hTL
 rw [hk];subst hTL
 clear hr ht hcb hc
 go_enter Tryz.func36,Tryz.ntmps36
 go_wp2_with fail
 refine(EN.out).mono ?_
 rintro e_ w ⟨gi,L,rfl,_,hm,hk1⟩
 go_wp2_with fail
 go_ret2
 exact⟨_,L,rfl,hm,KE.out gi L hk1,_,_,rfl⟩
theorem schemed2_any(gt gb:Nat)(key:List Byte)(hk:key.length=16∨key.length=24∨key.length=32)(p:Option Addr)(c:Nat)(hc:key.length≤c)(w0:World)(hr:RdB w0 p key)(ht:TabR gt gb w0)(hcb:CoefB w0):
   Calls Tryz.prog 36 #[.pointer (some ⟨gt,0,none⟩), .int .i64 2, .slice p key.length c] w0 fun e w'=>∃v L,e= .returned (.tuple #[v, .int .i64 0])∧Own w0 w' L∧Keeps L (TabR gt gb) (SchR 2 key v)∧∃T x,v= .iface T x:=by
 have hm:=Own.start w0
 have EN:=hid (hnew_any gt gb key hk p c hc w0 hr ht)
 have KE:=hid fun (gi:Nat)(L:List Blk)(h:Keeps L (TabR gt gb) (fun wx=>HcR wx gi (eK0 key) (eKs key) (eKl key) (hcH key) (hcL key)))=>(show Keeps L (TabR gt gb) (SchR 2 key (.iface 100 (.pointer (some ⟨gi,0,none⟩))))from(fun wx h1 h2=>⟨gi, .inr (.inl ⟨rfl,rfl,h wx h1 h2⟩)⟩))
 obtain⟨TL,hTL⟩:=exq (key.length)
 skip
 rw [←hTL]at EN⊢
 clear hr ht hcb hc hTL
 go_enter Tryz.func36,Tryz.ntmps36
 go_wp2_with fail
 refine(EN.out).mono ?_
 rintro e_ w ⟨gi,L,rfl,_,hm,hk1⟩
 go_wp2_with fail
 go_ret2
 exact⟨_,L,rfl,hm,KE.out gi L hk1,_,_,rfl⟩
theorem schemed3_any(gt gb:Nat)(key:List Byte)(h0:0<key.length)(h1:key.length≤128)(p:Option Addr)(c:Nat)(hc:key.length≤c)(w0:World)(hr:RdB w0 p key)(ht:TabR gt gb w0)(hcb:CoefB w0):
   Calls Tryz.prog 36 #[.pointer (some ⟨gt,0,none⟩), .int .i64 3, .slice p key.length c] w0 fun e w'=>∃v L,e= .returned (.tuple #[v, .int .i64 0])∧Own w0 w' L∧Keeps L (TabR gt gb) (SchR 3 key v)∧∃T x,v= .iface T x:=by
 have hm:=Own.start w0
 have EN:=hid (ext_ok gt gb key p c w0 h0 h1 hc hr hcb ht.1)
 have KE:=hid fun (gi:Nat)(L:List Blk)(h:Has L ⟨gi,139,kcells gt (keyOf key)⟩)=>(show Keeps L (TabR gt gb) (SchR 3 key (.iface 107 (.agg #[.pointer (some ⟨gi,0,none⟩)])))from(fun wx h1 h2=>⟨gi, .inr (.inr ⟨rfl,rfl,keyOf_ok key,gt,gb,h1 _ h.mem,h2.1⟩)⟩))
 obtain⟨TL,hTL⟩:=exq (key.length)
 skip
 rw [←hTL]at EN⊢
 clear hr ht hcb hc hTL
 go_enter Tryz.func36,Tryz.ntmps36
 go_wp2_with fail
 refine(EN.out).mono ?_
 rintro e_ w ⟨gi,rfl,hg,hrow,hx⟩
 replace hm:=hm.push hx hg hrow
 clear hx hg hrow
 go_wp2_with fail
 go_ret2
 exact⟨_,_,rfl,hm,KE.out gi _ .hd,_,_,rfl⟩
theorem schemed_any(al:Int)(gt gb:Nat)(key:List Byte)(hk:SchOk al key)(p:Option Addr)(c:Nat)(hc:key.length≤c)(w0:World)(hr:RdB w0 p key)(ht:TabR gt gb w0)(hcb:CoefB w0):
   Calls Tryz.prog 36 #[.pointer (some ⟨gt,0,none⟩), .int .i64 al, .slice p key.length c] w0 fun e w'=>∃T x L,e= .returned (.tuple #[.iface T x, .int .i64 0])∧Own w0 w' L∧Keeps L (TabR gt gb) (SchR al key (.iface T x)):=by
 have F:∀{e:Ending} {w':World},(∃v L,e= .returned (.tuple #[v, .int .i64 0])∧Own w0 w' L∧Keeps L (TabR gt gb) (SchR al key v)∧∃T x,v= .iface T x)→∃T x L,e= .returned (.tuple #[.iface T x, .int .i64 0])∧Own w0 w' L∧Keeps L (TabR gt gb) (SchR al key (.iface T x)):=by
   rintro e w' ⟨v,L,h1,h2,h3,T,x,rfl⟩;exact⟨T,x,L,h1,h2,h3⟩
 obtain⟨rfl,h1⟩|⟨rfl,h1⟩|⟨rfl,h1,h2⟩:=hk
 · exact(schemed1_any gt gb key h1 p c hc w0 hr ht hcb).mono fun e w' ⟨v,L,h1,h2,h3,h4⟩=>F ⟨v,L,h1,h2,h3,h4⟩
 · exact(schemed2_any gt gb key h1 p c hc w0 hr ht hcb).mono fun e w' ⟨v,L,h1,h2,h3,h4⟩=>F ⟨v,L,h1,h2,h3,h4⟩
 · exact(schemed3_any gt gb key h1 h2 p c hc w0 hr ht hcb).mono fun e w' ⟨v,L,h1,h2,h3,h4⟩=>F ⟨v,L,h1,h2,h3,h4⟩
theorem build_wc(al:Int)(T:TypeId)(x:Value)(w:World):(Instr.build 79 #[(0, .int .i64 al),(1, .iface T x)]).run Tryz.prog w= .ok (.agg ([.int .i64 al, .iface T x]:List Value).toArray) w:=by kernel_rfl
theorem wnew_any(al:Int)(gt gb:Nat)(key:List Byte)(hk:SchOk al key)(p:Option Addr)(c:Nat)(hc:key.length≤c)(w0:World)(hr:RdB w0 p key)(ht:TabR gt gb w0)(hcb:CoefB w0):
   Calls Tryz.prog 22 #[.pointer (some ⟨gt,0,none⟩), .int .i64 al, .slice p key.length c] w0 fun e w'=>∃g L,e= .returned (.tuple #[.pointer (some ⟨g,0,none⟩), .int .i64 0])∧w0.heap.size≤g∧Own w0 w' L∧Keeps L (TabR gt gb) (fun wx=>CipR wx g al key):=by
 have EN:=hid (schemed_any al gt gb key hk p c hc w0 hr ht hcb)
 have BB:=hid (build_wc al)
 have KE:=hid fun (g:Nat)(L:List Blk)(T:TypeId)(x:Value)(h:Keeps L (TabR gt gb) (SchR al key (.iface T x)))=>(show Keeps (⟨g,79,[.int .i64 al, .iface T x]⟩::L) (TabR gt gb) (fun wx=>CipR wx g al key)from fun wx h1 h2=>(h wx (fun b hb=>h1 b (List.mem_cons_of_mem _ hb)) h2).cip (h1 _ List.mem_cons_self))
 obtain⟨TL,hTL⟩:=exq (key.length)
 rw [←hTL]at EN⊢
 clear hr ht hcb hc hTL hk
 go_enter Tryz.func22,Tryz.ntmps22
 go_wp2_with fail
 refine(EN.out).mono ?_
 rintro e_ w ⟨T,x,L,rfl,hm,hk1⟩
 go_wp2_with (first|((with_reducible apply wq_build2 (BB.out T x));exact rfl;exact rfl;exact rfl)|((with_reducible apply wq_boxN (cs:=[.int .i64 al, .iface T x]) hm);exact rfl;exact rfl;clear hm;intro gw w hm))
 go_ret2
 have:=hm.base .hd
 exact⟨_,_,rfl,this,hm,KE.out _ _ _ _ hk1⟩
theorem cplus_any(ks:List (List Byte))(p:Option Addr)(c:Nat)(w0:World)(hk:RdK w0 p 16 ks)(hc:ks.length≤c)(hcm:ks.length≤70368744177664):Gives Tryz.prog 117 #[.slice p ks.length c] w0 (A8 (plusL (zer 16) ks)):=by
 unfold Gives
 have hm:=Own.start w0
 have HK:=hid hk
 have HZ:=hid (show(zer (n:=8) 16).length=16 from zer_length)
 clear hk
 go_enter Tryz.func117,Tryz.ntmps117
 go_wp2_with (first|(((with_reducible show qAl);refine zG hm ?_);clear hm;(first|(have hx_:=g1;clear hx_;(first|(have hx_:=g2;clear hx_;(first|(have hx_:=g3;clear hx_;intro gx_)|intro g3))|intro g2))|intro g1);intro w hm))
 go_loopw [9] (fun i wr=>∃k:Nat,k≤ks.length∧i= .int .i64 k∧Own w0 wr [⟨g2,132,(plusL (zer 16) (ks.take k)).map v8⟩,⟨g1,132,(zer 16).map v8⟩]) (fun i _=>ks.length-(intOf i).toNat)
 case atStart=>exact⟨0,by omega,rfl,hm⟩
 case round =>
   obtain⟨k,hk,rfl,hm⟩:=hrel
   have hB:=plusL_length (ks.take k) (zer 16) HZ.out
   by_cases hlt:k<ks.length
   · have hd : decide ((k:Int)<(ks.length:Int))=true:=decide_eq_true (by omega)
     have hd2:(k:Int)<(ks.length:Int):=by omega
     obtain⟨a,rfl⟩:=HK.out.addr (by omega) (by omega)
     obtain⟨hK,hKl⟩:=HK.out.at (by omega) k hlt
     have hS:=plusL_take (zer 16) ks k hlt
     simp only [Option.getD_some]at hK
     generalize plusL (zer 16) (ks.take k)=B at*
     generalize ks.getD k []=K at*
     have HS:=hid hS
     have HK2:=hid hK
     have ES:Hid (B=part 16 0 (fun i=>nth B i^^^nth K i) (nth B)):=hid (part_start hB)
     have EE:Hid (part 16 16 (fun i=>nth B i^^^nth K i) (nth B)=bothL B K):=hid part_all
     have hK1:=Nat.le_of_eq hKl
     have hK2':=Nat.le_of_eq hKl.symm
     clear hK hS
     go_wp2_with (first|((with_reducible apply wq_rdW (HK2.out.ext hm.x));exact rfl;infer_instance;exact rfl;exact hKl)|((with_reducible show qSt);refine zE hm ?_;clear hm;intro w hm)|(((with_reducible show qAl);refine zG hm ?_);clear hm;(first|(have hx_:=g1;clear hx_;(first|(have hx_:=g2;clear hx_;(first|(have hx_:=g3;clear hx_;intro gx_)|intro g3))|intro g2))|intro g1);intro w hm))
     rw [ES.out]at hm
     go_loopw [13] (fun i wr=>∃j:Nat,j≤16∧i= .int .i64 j∧Own w0 wr [⟨g3,132,K.map v8⟩,⟨g2,132,(part 16 j (fun i=>nth B i^^^nth K i) (nth B)).map v8⟩,⟨g1,132,(zer 16).map v8⟩]) (fun i _=>16-(intOf i).toNat)
     case atStart=>exact⟨0,by omega,rfl,hm⟩
     case round =>
       obtain⟨j,hj,rfl,hm⟩:=hrel
       by_cases hjl:j<16
       · have hj1:decide ((j:Int)<16)=true:=decide_eq_true (by omega)
         have hj2:(j:Int)<16:=by omega
         have EJ:Hid (setN (part 16 j (fun i=>nth B i^^^nth K i) (nth B)) j (nth (part 16 j (fun i=>nth B i^^^nth K i) (nth B)) j^^^nth K j)=part 16 (j+1) (fun i=>nth B i^^^nth K i) (nth B)):=hid (by
           rw [nth_part_ge hjl (Nat.le_refl _)];exact part_set (f:=fun i=>nth B i^^^nth K i) hjl)
         have lJ:(part 16 j (fun i=>nth B i^^^nth K i) (nth B)).length=16:=part_length
         generalize part 16 j (fun i=>nth B i^^^nth K i) (nth B)=C at*
         go_wp2_with fail
         refine rgE 8 27 ?_
         simp only [zTa]
         repeat (first
             | (apply walk_is rfl rfl rfl
                · (intro wx hwx;first|((with_reducible show qGl);exact zJ (hm.ext hwx))|(go_simp;(try go_bits);first|exact gives_same|exact gives_skip))
                · (simp only [zPu];rfl))
             | (apply walk_not rfl rfl rfl
                · (simp only [zPu];rfl)))
         intro wz hwz
         simp only [zZi]
         repeat (first|rw [fin_is]|(rw [fin_cons];intro _ _))
         rw [fin_nil]
         try (replace hm:=hm.ext hwz)
         simp only [zPu]
         go_wp2_with (first|((with_reducible show qSt);refine zD hm ?_;clear hm;intro w hm))
         go_roundw
         case rel=>
           rw [EJ.out]at hm
           exact⟨j+1,by omega,by go_num,hm⟩
         case measure=>simp [intOf]<;>omega
       · obtain rfl:j=16:=by omega
         have hj1:decide (((16:Nat):Int)<16)=false:=decide_eq_false (by omega)
         rw [EE.out]at hm
         go_wp2_with fail
         go_roundw
         case rel=>exact⟨k+1,by omega,by go_num,by rw [HS.out];exact hm.drop⟩
         case measure=>simp [intOf]<;>omega
   · obtain rfl:k=ks.length:=by omega
     have hd:decide ((ks.length:Int)<(ks.length:Int))=false:=decide_eq_false (by omega)
     rw [List.take_length]at hm hB
     go_wp2_with (first|((with_reducible show qLd);refine zB hm ?_)|((with_reducible show qSt);refine zE hm ?_;clear hm;intro w hm))
     refine rtO hm rfl rfl ⟨rfl,hm.x⟩
theorem cplus_two(a b:List Byte)(ha:a.length=16)(hb:b.length=16)(p:Option Addr)(c:Nat)(w0:World)(hk:RdK w0 p 16 [a,b])(hc:2≤c):Gives Tryz.prog 117 #[.slice p 2 c] w0 (A8 (bothL a b)):=by
 have:=cplus_any [a,b] p c w0 hk hc (by simp)
 rwa [show plusL (zer 16) [a,b]=bothL a b from by show bothL (bothL (zer 16) a) b=_;rw [zer_bothL _ ha]]at this
theorem cplus_four(a b d e:List Byte)(ha:a.length=16)(p:Option Addr)(c:Nat)(w0:World)(hk:RdK w0 p 16 [a,b,d,e])(hc:4≤c):Gives Tryz.prog 117 #[.slice p 4 c] w0 (A8 (bothL (bothL (bothL a b) d) e)):=by
 have:=cplus_any [a,b,d,e] p c w0 hk hc (by simp)
 rwa [show plusL (zer 16) [a,b,d,e]=bothL (bothL (bothL a b) d) e from by show bothL (bothL (bothL (bothL (zer 16) a) b) d) e=_;rw [zer_bothL _ ha]]at this
def msgC(pp u v:Value)(x y:List Byte):List Value:=[pp,u,v]++(x.map v8++y.map v8)
section
variable {pp u v:Value} {x y:List Byte}
theorem msg_pp:(msgC pp u v x y)[0]? =some pp:=rfl
theorem msg_u:(msgC pp u v x y)[1]? =some u:=rfl
theorem msg_v:(msgC pp u v x y)[2]? =some v:=rfl
theorem msg_x(hx:x.length=16):((msgC pp u v x y).drop 3).take 16=x.map v8:=by
 show(x.map v8++y.map v8).take 16=_
 rw [List.take_append_of_le_length (by simp [hx]),List.take_of_length_le (by simp [hx])]
theorem msg_y(hx:x.length=16)(hy:y.length=16):((msgC pp u v x y).drop 19).take 16=y.map v8:=by
 show((x.map v8++y.map v8).drop 16).take 16=_
 rw [List.drop_append_of_le_length (by simp [hx]),List.drop_eq_nil_of_le (by simp [hx]),List.nil_append,List.take_of_length_le (by simp [hy])]
theorem msg_length(hx:x.length=16)(hy:y.length=16):(msgC pp u v x y).length=35:=by simp [msgC,hx,hy]
theorem msg_one(h1:pp.oneCell'=true)(h2:u.oneCell'=true)(h3:v.oneCell'=true):∀w∈msgC pp u v x y,w.oneCell'=true:=by
 intro w hw
 rcases List.mem_append.1 hw with hw|hw
 · simp only [List.mem_cons,List.not_mem_nil,or_false]at hw
   rcases hw with rfl|rfl|rfl<;>assumption
 · rcases List.mem_append.1 hw with hw|hw
   · exact one_map _ w hw
   · exact one_map _ w hw
theorem msg_set1(a:Value):(msgC pp u v x y).set 1 a=msgC pp a v x y:=rfl
theorem msg_set2(a:Value):(msgC pp u v x y).set 2 a=msgC pp u a x y:=rfl
end
theorem fl16:flv 16=4625196817309499392:=by decide+kernel
theorem clast_any(l:List Byte)(p:Option Addr)(c k:Nat)(kI:Int)(hk:16≤k)(hkI:kI=(k:Int))(hkl:k≤l.length)(hF:FlIn (flv (l.length-k)) (l.length-k) (flv l.length) l.length)(hG:FlIn (flv 16) 16 (flv l.length) l.length)(hlc:l.length≤c)(hb:l.length≤70368744177000)(w0:World)(hl:RdB w0 p l):
   Gives Tryz.prog 137 #[.slice p l.length c, .int .i64 kI] w0 (A8 ((l.drop (l.length-k)).take 16)):=by
 unfold Gives
 have hm:=Own.start w0
 subst hkI
 have O1:=hid fun w hx=>of_any l p c (flv (l.length-k)) (l.length-k) (flv 16) 16 (flv l.length) hF hG (by omega) (by omega) hlc hb w (hl.ext hx)
 rw [fl16]at O1
 have h1:∀w,(convert 3 218 (.int .i64 ((l.length:Int)-(k:Int)))).run Tryz.prog w= .ok (.float .f64 (flv (l.length-k))) w:=fun w=>by
   have:=conv_if hF.of w
   rwa [show((l.length-k:Nat):Int)=(l.length:Int)-(k:Int)by omega]at this
 have lT:((l.drop (l.length-k)).take 16).length=16:=by rw [List.length_take,List.length_drop];omega
 have B1:=hid fun (w:World)(q:Option Addr)(d:Nat)(h:RdB w q ((l.drop (l.length-k)).take 16))=>show Gives Tryz.prog 69 #[.slice q ((l.drop (l.length-k)).take 16).length d] w (A8 ((l.drop (l.length-k)).take 16))from by
   have:=oblock_any _ q d w h
   rwa [blk_self _ lT]at this
 rw [lT]at B1
 generalize (l.drop (l.length-k)).take 16=T at*
 generalize flv (l.length-k)=b at*
 have a1:(l.length:Int)-(k:Int)≤9223372036854775807:=by omega
 have a2: -9223372036854775808≤(l.length:Int)-(k:Int):=by omega
 clear hF hG hl
 go_enter Tryz.func137,Tryz.ntmps137
 go_wp2_with (first|(go_at_call 149;(with_reducible refine(O1.out _ hm.x).mono ?_);rintro e_ w ⟨v_,rfl,⟨q_,d_,rfl,hqd_,hv_⟩,hx_⟩;replace hm:=hm.ext hx_;clear hx_)|(go_at_call 69;(with_reducible refine(B1.out _ q_ d_ (hv_.ext (Ext.refl _))).mono ?_);rintro e_ w ⟨rfl,hx_⟩;replace hm:=hm.ext hx_;clear hx_)|((with_reducible show qSt);refine zE hm ?_;clear hm;intro w hm)|(((with_reducible show qAl);refine zG hm ?_);clear hm;intro gx_;intro w hm))
 refine rtO hm rfl rfl ⟨rfl,hm.x⟩
theorem ctail1_any(l:List Byte)(p:Option Addr)(c:Nat)(h16:l.length<16)(w0:World)(hl:RdB w0 p l):Gives Tryz.prog 138 #[.slice p l.length c] w0 (A8 (blk (l++[128#8]))):=by
 unfold Gives
 have hm:=Own.start w0
 have M1:=hid fun (w:World)(hx:Ext w0 w)=>show GivesR Tryz.prog 139 #[.slice p l.length c, .int .u8 128, .int .i64 16] w (BytesS (marked l 128#8 16))from marked_any l p c 128#8 16 w (hl.ext hx) (by omega) (by omega) (by omega)
 have B1:=hid fun (w:World)(q:Option Addr)(d:Nat)(h:RdB w q (marked l 128#8 16))=>show Gives Tryz.prog 69 #[.slice q (marked l 128#8 16).length d] w (A8 (blk (l++[128#8])))from by
   have:=oblock_any _ q d w h
   rwa [blk_marked l h16]at this
 have lB:=blk_length (l++[128#8])
 generalize blk (l++[128#8])=B at*
 generalize marked l 128#8 16=M at*
 clear hl
 go_enter Tryz.func138,Tryz.ntmps138
 go_wp2_with (first|(go_at_call 139;(with_reducible refine(M1.out _ hm.x).mono ?_);rintro e_ w ⟨v_,rfl,⟨q_,d_,rfl,hqd_,hv_⟩,hx_⟩;replace hm:=hm.ext hx_;clear hx_)|(go_at_call 69;(with_reducible refine(B1.out _ q_ d_ hv_).mono ?_);rintro e_ w ⟨rfl,hx_⟩;replace hm:=hm.ext hx_;clear hx_)|((with_reducible show qSt);refine zE hm ?_;clear hm;intro w hm)|(((with_reducible show qAl);refine zG hm ?_);clear hm;intro gx_;intro w hm))
 refine rtO hm rfl rfl ⟨rfl,hm.x⟩
theorem ctail_any(pp:Value)(u v:List Byte)(pu pv:Option Addr)(cu cv:Nat)(x y:List Byte)(hx:x.length=16)(hy:y.length=16)(kv:Value)(F:Int→Int→List Byte→List Byte)(hF:∀j m x,(F j m x).length=16)(hu16:u.length≤16)(hv16:v.length<16)(w0:World)(hu:RdB w0 pu u)(hv:RdB w0 pv v)
   (CE:∀wx,Ext w0 wx→∀(j m:Int)(x:List Byte),x.length=16→j≤9223372036854775807→m≤9223372036854775807→Gives Tryz.prog 98 #[kv, .int .i64 j, .int .i64 m,A8 x] wx (A8 (F j m x))):
   Gives Tryz.prog 119 #[.agg (msgC pp (.slice pu u.length cu) (.slice pv v.length cv) x y).toArray,kv] w0 (A8 (tailL F u v)):=by
 unfold Gives
 have hm:=Own.start w0
 have FU:=hid (msg_u (pp:=pp) (u:= .slice pu u.length cu) (v:= .slice pv v.length cv) (x:=x) (y:=y))
 have FV:=hid (msg_v (pp:=pp) (u:= .slice pu u.length cu) (v:= .slice pv v.length cv) (x:=x) (y:=y))
 have lS:=msg_length (pp:=pp) (u:= .slice pu u.length cu) (v:= .slice pv v.length cv) hx hy
 generalize msgC pp (.slice pu u.length cu) (.slice pv v.length cv) x y=S at*
 have HU:=hid hu
 have HV:=hid hv
 have T1:=hid fun (w:World)(h:Ext w0 w)=>ctail1_any v pv cv hv16 w (hv.ext h)
 by_cases h0:u.length=0
 · have eT:tailL F u v=zer 16:=if_pos h0
   rw [eT]
   rw [h0]at FU
   clear hu hv CE h0 hu16 hv16 eT
   have lz:(zer (n:=8) 16).length=16:=zer_length
   go_enter Tryz.func119,Tryz.ntmps119
   go_wp2_with (first|((with_reducible apply wq_ld1 hm);exact rfl;infer_instance;exact rfl;(focus ((repeat (first|exact .hd|assumption|apply Has.tl|apply Has.app));done));(exact FU.out))|((with_reducible apply wq_build0 build_z16);exact rfl)|((with_reducible show qSt);refine zE hm ?_;clear hm;intro w hm)|((first|((with_reducible show qAl);refine zG hm ?_)|((with_reducible show qBx);refine zH hm ?_));clear hm;intro gx_;intro w hm))
   refine rtO hm rfl rfl ⟨rfl,hm.x⟩
 by_cases h1:u.length=16
 · have eT:tailL F u v=bothL (F 0 4 u) (F 0 5 (blk (v++[128#8]))):=by rw [tailL,if_neg h0,if_pos h1]
   have lA:=hF 0 4 u
   have lB:=hF 0 5 (blk (v++[128#8]))
   have lV:=blk_length (v++[128#8])
   have D1:=hid fun (w:World)(h:Ext w0 w)=>show Gives Tryz.prog 69 #[.slice pu u.length cu] w (A8 u)from by
     have:=oblock_any u pu cu w (hu.ext h)
     rwa [blk_self u h1]at this
   have D2:=hid fun (w:World)(h:Ext w0 w)=>CE w h 0 4 u h1 (by omega) (by omega)
   have D3:=hid fun (w:World)(h:Ext w0 w)=>CE w h 0 5 (blk (v++[128#8])) lV (by omega) (by omega)
   have D4:=hid fun (w:World)(p:Option Addr)(c:Nat)(hc:2≤c)(hk:RdK w p 16 [F 0 4 u,F 0 5 (blk (v++[128#8]))])=>cplus_two (F 0 4 u) (F 0 5 (blk (v++[128#8]))) lA lB p c w hk hc
   rw [←eT]at D4
   have hk2:=hid (show∀k∈[F 0 4 u,F 0 5 (blk (v++[128#8]))],k.length=16 from by simp [lA,lB])
   have lT:(tailL F u v).length=16:=tailL_length F hF u v
   rw [h1]at FU D1
   generalize tailL F u v=T at*
   generalize F 0 4 u=A at*
   generalize F 0 5 (blk (v++[128#8]))=B at*
   generalize blk (v++[128#8])=V at*
   clear hu hv CE h0 hu16 hv16 eT
   go_enter Tryz.func119,Tryz.ntmps119
   go_wp2_with (first|((with_reducible apply wq_ld1 hm);exact rfl;infer_instance;exact rfl;(focus ((repeat (first|exact .hd|assumption|apply Has.tl|apply Has.app));done));(exact FU.out))|((first|((with_reducible show qAl);refine zG hm ?_)|((with_reducible show qBx);refine zH hm ?_));clear hm;intro gx_;intro w hm))
   have hx0:=hm.x
   refine rgE 13 33 ?_
   simp only [zTa]
   repeat (first
       |(apply walk_is rfl rfl rfl;(intro wx hwx;(with_reducible apply gq_ld1 (hm.ext hwx));infer_instance;exact rfl;(focus ((repeat (first|exact .hd|assumption|apply Has.tl|apply Has.app));done));(exact FU.out));(simp only [zPu];rfl))
       |(apply walk_is rfl rfl rfl;(intro wx hwx;(with_reducible apply gq_ld1 (hm.ext hwx));infer_instance;exact rfl;(focus ((repeat (first|exact .hd|assumption|apply Has.tl|apply Has.app));done));(exact FV.out));(simp only [zPu];rfl))
       |(apply walk_some (KeysS ([A,B])) 25 (KeysS.stable _) rfl rfl rfl rfl;(intro wx hwx;exact gq_bs2 (hk2.out) (bs_run2 A B lA lB wx) rfl rfl))
       | (apply walk_from (T:=[(25,KeysS [A,B])]) rfl rfl
          · (intro wx hwx;simp only [withS];(rintro x_ ⟨p,c,rfl,hlc,hk'⟩);refine⟨rfl, ?_⟩;go_simp;exact gives_call (D4.out wx p c hlc hk'))
          · (simp only [zPu];rfl))
       | (apply walk_is rfl rfl rfl
          · (intro wx hwx;go_simp;(try go_bits);first|exact gives_same|exact gives_skip|with_reducible exact gives_call (D1.out wx (hx0.trans hwx))|with_reducible exact gives_call (D2.out wx (hx0.trans hwx))|with_reducible exact gives_call (D3.out wx (hx0.trans hwx))|with_reducible exact gives_call (T1.out wx (hx0.trans hwx)))
          · (simp only [zPu];rfl))
       | (apply walk_not rfl rfl rfl
          · (simp only [zPu];rfl)))
   intro wz hwz
   simp only [zZi]
   repeat (first|rw [fin_is]|(rw [fin_cons];intro _ _))
   rw [fin_nil]
   try (replace hm:=hm.ext hwz)
   simp only [zPu]
   clear hx0
   go_wp2_with (first|((with_reducible show qSt);refine zE hm ?_;clear hm;intro w hm))
   refine rtO hm rfl rfl ⟨rfl,hm.x⟩
 · have eT:tailL F u v=F 0 4 (blk (u++[128#8])):=by rw [tailL,if_neg h0,if_neg h1]
   have e0:((u.length:Int)==0)=false:=by rw [beq_eq_false_iff_ne];omega
   have e1:((u.length:Int)==16)=false:=by rw [beq_eq_false_iff_ne];omega
   have lU:=blk_length (u++[128#8])
   have D1:=hid fun (w:World)(h:Ext w0 w)=>ctail1_any u pu cu (by omega) w (hu.ext h)
   have D2:=hid fun (w:World)(h:Ext w0 w)=>CE w h 0 4 (blk (u++[128#8])) lU (by omega) (by omega)
   have lT:(tailL F u v).length=16:=tailL_length F hF u v
   rw [←eT]at D2
   generalize tailL F u v=T at*
   generalize blk (u++[128#8])=U at*
   have H0:=hid h0
   have H1:=hid h1
   clear hu hv CE h0 h1 hu16 hv16 eT
   go_enter Tryz.func119,Tryz.ntmps119
   go_wp2_with (first|((with_reducible apply wq_ld1 hm);exact rfl;infer_instance;exact rfl;(focus ((repeat (first|exact .hd|assumption|apply Has.tl|apply Has.app));done));(exact FU.out))|(go_at_call 138;(with_reducible refine(D1.out _ hm.x).mono ?_);rintro e_ w ⟨rfl,hx_⟩;replace hm:=hm.ext hx_;clear hx_)|(go_at_call 98;(with_reducible refine(D2.out _ hm.x).mono ?_);rintro e_ w ⟨rfl,hx_⟩;replace hm:=hm.ext hx_;clear hx_)|((with_reducible show qSt);refine zE hm ?_;clear hm;intro w hm)|((first|((with_reducible show qAl);refine zG hm ?_)|((with_reducible show qBx);refine zH hm ?_));clear hm;intro gx_;intro w hm))
   refine rtO hm rfl rfl ⟨rfl,hm.x⟩
def pairC(pre post:List Value)(qs:List Byte):List Value:=pre++(qs.map v8++post)
section
variable {pre post:List Value} {A B N:List Byte} {k o:Nat}
theorem pair_drop(hA:A.length=32*k)(hB:32≤B.length)(j n:Nat)(hj:j+n≤32)(ho:o=pre.length+32*k+j):((pairC pre post (A++B)).drop o).take n=((B.drop j).take n).map v8:=by
 subst ho
 rw [pairC,Nat.add_assoc,←List.drop_drop,List.drop_left,List.drop_append_of_le_length (by simp;omega),←List.map_drop,List.take_append_of_le_length (by simp;omega),←List.map_take,←List.drop_drop]
 congr 2
 rw [←hA,List.drop_left]
theorem pair_set(hA:A.length=32*k)(hB:32≤B.length)(hN:N.length=32)(ho:o=pre.length+32*k):(pairC pre post (A++B)).take o++N.map v8++(pairC pre post (A++B)).drop (o+32)=pairC pre post (A++N++B.drop 32):=by
 subst ho
 have e1:(pairC pre post (A++B)).take (pre.length+32*k)=pre++A.map v8:=by
   rw [pairC,List.take_append,List.take_of_length_le (by omega),Nat.add_sub_cancel_left,List.take_append_of_le_length (by simp;omega),←List.map_take,←hA,List.take_left]
 have e2:(pairC pre post (A++B)).drop (pre.length+32*k+32)=(B.drop 32).map v8++post:=by
   rw [pairC,Nat.add_assoc,←List.drop_drop,List.drop_left,List.drop_append_of_le_length (by simp;omega),←List.map_drop,←List.drop_drop,←hA,List.drop_left]
 rw [e1,e2,pairC]
 simp
theorem pairC_length:(pairC pre post A).length=pre.length+(A.length+post.length):=by simp [pairC]
end
theorem pair_at(ps:List Byte)(k n:Nat)(hl:ps.length=32*n)(hk:k<n):((ps.drop (32*k)).drop 0).take 16=fstB ps k∧((ps.drop (32*k)).drop 16).take 16=sndB ps k:=by
 constructor
 · rw [dZe];rfl
 · rw [List.drop_drop];rfl
theorem glue_next(G:Nat→List Byte)(ps:List Byte)(k:Nat):glueF G k++G k++(ps.drop (32*k)).drop 32=glueF G (k+1)++ps.drop (32*(k+1)):=by
 rw [List.drop_drop];rfl
theorem build_pair(a b:List Byte)(ha:a.length=16)(hb:b.length=16)(w:World):(Instr.build 223 #[(0,A8 a),(1,A8 b)]).run Tryz.prog w= .ok (A8 (a++b)) w:=by
 obtain⟨a0,a1,a2,a3,a4,a5,a6,a7,a8,a9,a10,a11,a12,a13,a14,a15,rfl⟩:=len16 a ha
 obtain⟨b0,b1,b2,b3,b4,b5,b6,b7,b8,b9,b10,b11,b12,b13,b14,b15,rfl⟩:=len16 b hb
 kernel_rfl
theorem ahead_any(gp n cap:Nat)(pre post:List Value)(ps:List Byte)(hps:ps.length=32*n)(hn0:0<n)(hnc:n≤cap)(hn:n≤70368744177)(u v:Value)(x y:List Byte)(hx:x.length=16)(hy:y.length=16)(kv:Value)(F:Int→Int→List Byte→List Byte)(hF:∀j m x,(F j m x).length=16)(w0 w:World)(R:List Blk)
   (hm:Own w0 w (⟨gp,223,pairC pre post ps⟩::R))
   (CE:∀wx,Ext w0 wx→∀(j m:Int)(x:List Byte),x.length=16→j≤9223372036854775807→m≤9223372036854775807→Gives Tryz.prog 98 #[kv, .int .i64 j, .int .i64 m,A8 x] wx (A8 (F j m x))):
   Calls Tryz.prog 118 #[.agg (msgC (.slice (some ⟨gp,pre.length,none⟩) n cap) u v x y).toArray,kv] w fun e w'=>e= .returned (A8 (sumG (xF F ps) n))∧Own w0 w' (⟨gp,223,pairC pre post (oneP F ps n)⟩::R):=by
 have FP:=hid (msg_pp (pp:= .slice (some ⟨gp,pre.length,none⟩) n cap) (u:=u) (v:=v) (x:=x) (y:=y))
 have lS:=msg_length (pp:= .slice (some ⟨gp,pre.length,none⟩) n cap) (u:=u) (v:=v) hx hy
 generalize msgC (.slice (some ⟨gp,pre.length,none⟩) n cap) u v x y=S at*
 have HE:=hid CE
 have HF:=hid hF
 have HPS:=hid hps
 have LG:=hid (glueF_length (wxF F ps) (wxF_length F ps))
 have LS:=hid (sumG_length (xF F ps))
 have e0:glueF (wxF F ps) 0++ps.drop (32*0)=ps:=rfl
 rw [←e0]at hm
 clear CE hF e0 hps
 go_enter Tryz.func118,Tryz.ntmps118
 go_wp2_with (first|((with_reducible apply wq_ld1 hm);exact rfl;infer_instance;exact rfl;(focus ((repeat (first|exact .hd|assumption|apply Has.tl|apply Has.app));done));(exact FP.out))|((first|((with_reducible show qAl);refine zG hm ?_)|((with_reducible show qBx);refine zH hm ?_));clear hm;(first|(have hx_:=g1;clear hx_;(first|(have hx_:=g2;clear hx_;(first|(have hx_:=g3;clear hx_;intro gx_)|intro g3))|intro g2))|intro g1);intro w hm))
 go_loopw [12] (fun i wr=>∃k:Nat,k≤n∧i= .int .i64 k∧Own w0 wr (⟨g3,132,(sumG (xF F ps) k).map v8⟩::⟨g2,132,(zer 16).map v8⟩::⟨g1,202,S⟩::⟨gp,223,pairC pre post (glueF (wxF F ps) k++ps.drop (32*k))⟩::R)) (fun i _=>n-(intOf i).toNat)
 case atStart=>exact⟨0,by omega,rfl,hm⟩
 case round =>
   obtain⟨k,hk,rfl,hm⟩:=hrel
   obtain⟨w,rfl⟩:∃w',w'=wr:=⟨_,rfl⟩
   by_cases hlt:k<n
   · have hd:decide ((k:Int)<(n:Int))=true:=decide_eq_true (by omega)
     have hd2:(k:Int)<(n:Int):=by omega
     have hd3:(k:Int)+1≤9223372036854775807:=by omega
     have lA:=LG.out k
     have lB:32≤(ps.drop (32*k)).length:=by rw [List.length_drop,HPS.out];omega
     obtain⟨q1,q2⟩:=pair_at ps k n HPS.out hlt
     have P1:=hid fun o (ho:o=pre.length+32*k+0)=>q1 ▸ pair_drop (post:=post) lA lB 0 16 (by omega) ho
     have P2:=hid fun o (ho:o=pre.length+32*k+16)=>q2 ▸ pair_drop (post:=post) lA lB 16 16 (by omega) ho
     have P3:=hid fun o (ho:o=pre.length+32*k)=>glue_next (wxF F ps) ps k ▸ pair_set (post:=post) lA lB (wxF_length F ps k) ho
     have l1:(fstB ps k).length=16:=fstB_length ps k (by rw [HPS.out];omega)
     have l2:(sndB ps k).length=16:=sndB_length ps k (by rw [HPS.out];omega)
     have l3:=HF.out 1 ((k:Int)+1) (sndB ps k)
     have l4:=wF_length F ps k
     have l5:=HF.out 0 0 (wF F ps k)
     have l6:=xF_length F ps k
     have l7:=LS.out k
     have lC:(pairC pre post (glueF (wxF F ps) k++ps.drop (32*k))).length=pre.length+(32*n+post.length):=by rw [pairC_length,List.length_append,lA,List.length_drop,HPS.out];omega
     have E1:=hid fun (w:World)(h:Ext w0 w)=>HE.out w h 1 ((k:Int)+1) (sndB ps k) l2 (by omega) (by omega)
     have E2:=hid fun (w:World)(h:Ext w0 w)=>HE.out w h 0 0 (wF F ps k) l4 (by omega) (by omega)
     have D1:=hid fun (w:World)(p:Option Addr)(c:Nat)(hc:2≤c)(hk:RdK w p 16 [fstB ps k,F 1 ((k:Int)+1) (sndB ps k)])=>show Gives Tryz.prog 117 #[.slice p 2 c] w (A8 (wF F ps k))from cplus_two _ _ l1 l3 p c w hk hc
     have D2:=hid fun (w:World)(p:Option Addr)(c:Nat)(hc:2≤c)(hk:RdK w p 16 [sndB ps k,F 0 0 (wF F ps k)])=>show Gives Tryz.prog 117 #[.slice p 2 c] w (A8 (xF F ps k))from cplus_two _ _ l2 l5 p c w hk hc
     have D3:=hid fun (w:World)(p:Option Addr)(c:Nat)(hc:2≤c)(hk:RdK w p 16 [sumG (xF F ps) k,xF F ps k])=>show Gives Tryz.prog 117 #[.slice p 2 c] w (A8 (sumG (xF F ps) (k+1)))from cplus_two _ _ l7 l6 p c w hk hc
     have k1:=hid (show∀q∈[fstB ps k,F 1 ((k:Int)+1) (sndB ps k)],q.length=16 from by simp [l1,l3])
     have k2:=hid (show∀q∈[sndB ps k,F 0 0 (wF F ps k)],q.length=16 from by simp [l2,l5])
     have k3:=hid (show∀q∈[sumG (xF F ps) k,xF F ps k],q.length=16 from by simp [l6,l7])
     have BP:=hid (build_pair (wF F ps k) (xF F ps k) l4 l6)
     rw [show wF F ps k++xF F ps k=wxF F ps k from rfl]at BP
     have lW:=wxF_length F ps k
     have l8:=LS.out (k+1)
     clear lA lB q1 q2
     generalize hQ:glueF (wxF F ps) (k+1)++ps.drop (32*(k+1))=Q at*
     generalize glueF (wxF F ps) k++ps.drop (32*k)=C at*
     generalize hX:sumG (xF F ps) (k+1)=X2 at*
     generalize sumG (xF F ps) k=X1 at*
     generalize wxF F ps k=WX at*
     generalize F 0 0 (wF F ps k)=Z2 at*
     generalize F 1 ((k:Int)+1) (sndB ps k)=Z1 at*
     generalize wF F ps k=W at*
     generalize xF F ps k=X at*
     generalize fstB ps k=PA at*
     generalize sndB ps k=PB at*
     go_wp2_with fail
     have hx0:=hm.x
     refine region_new 19 (fun w'=>Ext _ w') 57 (by kernel_rfl) (by kernel_rfl) rfl (fun _ _ h k=>h.trans k) (drew_ext _) ?_
     simp only [zTa]
     repeat (first
         | (apply walk_some (NewS (w.heap.size) 132 ((zer 16).map v8)) 7 (NewS.stable _ _ _) rfl rfl rfl rfl
            · (intro wx hwx;go_simp;exact gives_new (cs:=(zer 16).map v8) hwx.size))
         |(apply walk_is rfl rfl rfl;(intro wx hwx;(with_reducible apply gq_ld1 (hm.ext hwx));infer_instance;exact rfl;(focus ((repeat (first|exact .hd|assumption|apply Has.tl|apply Has.app));done));(exact FP.out));(simp only [zPu];rfl))
         |(apply walk_is rfl rfl rfl;(intro wx hwx;(with_reducible apply gq_ldN (hm.ext hwx));infer_instance;exact rfl;(focus ((repeat (first|exact .hd|assumption|apply Has.tl|apply Has.app));done));(exact P1.out _ (by first|rfl|omega));(exact((List.length_map ..).trans l1)));(simp only [zPu];rfl))
         |(apply walk_is rfl rfl rfl;(intro wx hwx;(with_reducible apply gq_ldN (hm.ext hwx));infer_instance;exact rfl;(focus ((repeat (first|exact .hd|assumption|apply Has.tl|apply Has.app));done));(exact P2.out _ (by first|rfl|omega));(exact((List.length_map ..).trans l2)));(simp only [zPu];rfl))
         |(apply walk_some (KeysS ([PA,Z1])) 31 (KeysS.stable _) rfl rfl rfl rfl;(intro wx hwx;exact gq_bs2 (k1.out) (bs_run2 PA Z1 l1 l3 wx) rfl rfl))
         | (apply walk_from (T:=[(31,KeysS [PA,Z1])]) rfl rfl
            · (intro wx hwx;simp only [withS];(rintro x_ ⟨p,c,rfl,hlc,hk'⟩);refine⟨rfl, ?_⟩;go_simp;exact gives_call (D1.out wx p c hlc hk'))
            · (simp only [zPu];rfl))
         | (apply walk_is rfl rfl rfl
            · (intro wx hwx;go_simp;(try go_bits);first|exact gives_same|exact gives_skip|with_reducible exact gives_call (E1.out wx (hx0.trans hwx)))
            · (simp only [zPu];rfl))
         | (apply walk_not rfl rfl rfl
            · (simp only [zPu];rfl)))
     intro wz hwz
     simp only [zZi]
     repeat rw [fin_is]
     rw [fin_cons];intro y31 hy31
     repeat rw [fin_is]
     rw [fin_cons];intro x7 hx7
     repeat rw [fin_is]
     rw [fin_nil];intro hap
     simp only [zPu]at hap⊢
     clear hy31
     obtain⟨g7_,rfl,hg7,hr7⟩:=hx7
     replace hm:=hm.push hwz hg7 hr7
     clear hap hr7
     clear hx0
     go_wp2_with (first|((with_reducible show qSt);refine zE hm ?_;clear hm;intro w hm))
     have hx0:=hm.x
     refine region_new 12 (fun w'=>Ext _ w') 57 (by kernel_rfl) (by kernel_rfl) rfl (fun _ _ h k=>h.trans k) (drew_ext _) ?_
     simp only [zTa]
     repeat (first
         | (apply walk_some (NewS (w.heap.size) 132 ((zer 16).map v8)) 8 (NewS.stable _ _ _) rfl rfl rfl rfl
            · (intro wx hwx;go_simp;exact gives_new (cs:=(zer 16).map v8) hwx.size))
         |(apply walk_is rfl rfl rfl;(intro wx hwx;(with_reducible apply gq_ld1 (hm.ext hwx));infer_instance;exact rfl;(focus ((repeat (first|exact .hd|assumption|apply Has.tl|apply Has.app));done));(exact FP.out));(simp only [zPu];rfl))
         |(apply walk_is rfl rfl rfl;(intro wx hwx;(with_reducible apply gq_ldN (hm.ext hwx));infer_instance;exact rfl;(focus ((repeat (first|exact .hd|assumption|apply Has.tl|apply Has.app));done));(exact P2.out _ (by first|rfl|omega));(exact((List.length_map ..).trans l2)));(simp only [zPu];rfl))
         |(apply walk_some (KeysS ([PB,Z2])) 42 (KeysS.stable _) rfl rfl rfl rfl;(intro wx hwx;exact gq_bs2 (k2.out) (bs_run2 PB Z2 l2 l5 wx) rfl rfl))
         | (apply walk_from (T:=[(42,KeysS [PB,Z2])]) rfl rfl
            · (intro wx hwx;simp only [withS];(rintro x_ ⟨p,c,rfl,hlc,hk'⟩);refine⟨rfl, ?_⟩;go_simp;exact gives_call (D2.out wx p c hlc hk'))
            · (simp only [zPu];rfl))
         | (apply walk_is rfl rfl rfl
            · (intro wx hwx;first|((with_reducible show qGl);exact zK (hm.ext hwx))|(go_simp;(try go_bits);first|exact gives_same|exact gives_skip|with_reducible exact gives_call (E2.out wx (hx0.trans hwx))))
            · (simp only [zPu];rfl))
         | (apply walk_not rfl rfl rfl
            · (simp only [zPu];rfl)))
     intro wz hwz
     simp only [zZi]
     repeat rw [fin_is]
     rw [fin_cons];intro y42 hy42
     repeat rw [fin_is]
     rw [fin_cons];intro x8 hx8
     repeat rw [fin_is]
     rw [fin_nil];intro hap
     simp only [zPu]at hap⊢
     clear hy42
     obtain⟨g8_,rfl,hg8,hr8⟩:=hx8
     replace hm:=hm.push hwz hg8 hr8
     clear hap hr8
     clear hx0
     have HST:=hid (P3.out (pre.length+k*32) (by omega))
     go_wp2_with (first|((with_reducible apply wq_ld1 hm);exact rfl;infer_instance;exact rfl;(focus ((repeat (first|exact .hd|assumption|apply Has.tl|apply Has.app));done));(exact FP.out))|((with_reducible apply wq_build2 BP.out);exact rfl;exact rfl;exact rfl)|((with_reducible show wpList _ _ _ (Oper.mk _ (Op.store 223 _ _) _ _ _ _::_) _ _);((with_reducible apply wq_stA hm);exact rfl;infer_instance;exact rfl;exact rfl;(focus ((repeat (first|exact .hd|assumption|apply Swap.tl|apply Swap.app));done));(exact HST.out);(exact(by simp [lW]));(exact(by rw [lC];omega));(exact(one_map _));clear hm;intro w hm))|((with_reducible apply wq_bs2 hm (bs_run2 X1 X l7 l6 _));exact rfl;exact rfl;exact rfl;clear hm;intro gq w hm)|(go_at_call 117;(with_reducible refine(D3.out _ _ _ (Nat.le_refl 2) (hm.rdK (by repeat (first|exact Has.hd|assumption|apply Has.tl|apply Has.app)) k3.out)).mono ?_);rintro e_ w ⟨rfl,hx_⟩;replace hm:=hm.ext hx_;clear hx_)|((with_reducible show qLd);refine zB hm ?_)|((with_reducible show qSt);refine zE hm ?_;clear hm;intro w hm))
     go_roundw
     case rel=>exact⟨k+1,by omega,by go_num,by rw [hX,hQ];exact hm.drop.drop.drop⟩
     case measure=>simp [intOf]<;>omega
   · obtain rfl:k=n:=by omega
     have hd:decide ((k:Int)<(k:Int))=false:=decide_eq_false (by omega)
     have hz:glueF (wxF F ps) k++ps.drop (32*k)=oneP F ps k:=by rw [List.drop_eq_nil_of_le (by rw [HPS.out];omega),List.append_nil];rfl
     rw [hz]at hm
     have l7:=LS.out k
     go_wp2_with (first|((with_reducible show qLd);refine zB hm ?_)|((with_reducible show qSt);refine zE hm ?_;clear hm;intro w hm))
     refine rtO hm rfl rfl ?_
     exact⟨rfl,hm.drop.drop.drop⟩
theorem behind_any(gp n cap:Nat)(pre post:List Value)(ps:List Byte)(hps:ps.length=32*n)(hn0:0<n)(hnc:n≤cap)(hn:n≤70368744177)(u v:Value)(x y:List Byte)(hx:x.length=16)(hy:y.length=16)(kv:Value)(z:List Byte)(hz:z.length=16)(F:Int→Int→List Byte→List Byte)(hF:∀j m x,(F j m x).length=16)(w0 w:World)(R:List Blk)
   (hm:Own w0 w (⟨gp,223,pairC pre post ps⟩::R))
   (CE:∀wx,Ext w0 wx→∀(j m:Int)(x:List Byte),x.length=16→j≤9223372036854775807→m≤9223372036854775807→Gives Tryz.prog 98 #[kv, .int .i64 j, .int .i64 m,A8 x] wx (A8 (F j m x))):
   Calls Tryz.prog 120 #[.agg (msgC (.slice (some ⟨gp,pre.length,none⟩) n cap) u v x y).toArray,kv,A8 z] w fun e w'=>e= .returned (A8 (sumG (yF F z ps) n))∧Own w0 w' (⟨gp,223,pairC pre post (glueF (fsF F z ps) n)⟩::R):=by
 have FP:=hid (msg_pp (pp:= .slice (some ⟨gp,pre.length,none⟩) n cap) (u:=u) (v:=v) (x:=x) (y:=y))
 have lS:=msg_length (pp:= .slice (some ⟨gp,pre.length,none⟩) n cap) (u:=u) (v:=v) hx hy
 generalize msgC (.slice (some ⟨gp,pre.length,none⟩) n cap) u v x y=S at*
 have HE:=hid CE
 have HF:=hid hF
 have HPS:=hid hps
 have LG:=hid (glueF_length (fsF F z ps) (fsF_length F z ps))
 have LS:=hid (sumG_length (yF F z ps))
 have e0:glueF (fsF F z ps) 0++ps.drop (32*0)=ps:=rfl
 rw [←e0]at hm
 clear CE hF e0 hps
 go_enter Tryz.func120,Tryz.ntmps120
 go_wp2_with (first|((with_reducible apply wq_ld1 hm);exact rfl;infer_instance;exact rfl;(focus ((repeat (first|exact .hd|assumption|apply Has.tl|apply Has.app));done));(exact FP.out))|((first|((with_reducible show qAl);refine zG hm ?_)|((with_reducible show qBx);refine zH hm ?_));clear hm;(first|(have hx_:=g1;clear hx_;(first|(have hx_:=g2;clear hx_;(first|(have hx_:=g3;clear hx_;(first|(have hx_:=g4;clear hx_;intro gx_)|intro g4))|intro g3))|intro g2))|intro g1);intro w hm))
 go_loopw [16] (fun i wr=>∃k:Nat,k≤n∧i= .int .i64 k∧Own w0 wr (⟨g4,132,(sumG (yF F z ps) k).map v8⟩::⟨g3,132,(zer 16).map v8⟩::⟨g2,132,z.map v8⟩::⟨g1,202,S⟩::⟨gp,223,pairC pre post (glueF (fsF F z ps) k++ps.drop (32*k))⟩::R)) (fun i _=>n-(intOf i).toNat)
 case atStart=>exact⟨0,by omega,rfl,hm⟩
 case round =>
   obtain⟨k,hk,rfl,hm⟩:=hrel
   obtain⟨w,rfl⟩:∃w',w'=wr:=⟨_,rfl⟩
   by_cases hlt:k<n
   · have hd:decide ((k:Int)<(n:Int))=true:=decide_eq_true (by omega)
     have hd2:(k:Int)<(n:Int):=by omega
     have hd3:(k:Int)+1≤9223372036854775807:=by omega
     have lA:=LG.out k
     have lB:32≤(ps.drop (32*k)).length:=by rw [List.length_drop,HPS.out];omega
     obtain⟨q1,q2⟩:=pair_at ps k n HPS.out hlt
     have P1:=hid fun o (ho:o=pre.length+32*k+0)=>q1 ▸ pair_drop (post:=post) lA lB 0 16 (by omega) ho
     have P2:=hid fun o (ho:o=pre.length+32*k+16)=>q2 ▸ pair_drop (post:=post) lA lB 16 16 (by omega) ho
     have P3:=hid fun o (ho:o=pre.length+32*k)=>glue_next (fsF F z ps) ps k ▸ pair_set (post:=post) lA lB (fsF_length F z ps k) ho
     have l1:(fstB ps k).length=16:=fstB_length ps k (by rw [HPS.out];omega)
     have l2:(sndB ps k).length=16:=sndB_length ps k (by rw [HPS.out];omega)
     have l3:=HF.out 2 ((k:Int)+1) z
     have l4:=yF_length F z ps k
     have l5:=vF_length F z ps k
     have l6:=HF.out 0 0 (vF F z ps k)
     have l7:=secF_length F z ps k
     have l8:=HF.out 1 ((k:Int)+1) (secF F z ps k)
     have l9:=firF_length F z ps k
     have l10:=LS.out k
     have lC:(pairC pre post (glueF (fsF F z ps) k++ps.drop (32*k))).length=pre.length+(32*n+post.length):=by rw [pairC_length,List.length_append,lA,List.length_drop,HPS.out];omega
     have E1:=hid fun (w:World)(h:Ext w0 w)=>HE.out w h 2 ((k:Int)+1) z hz (by omega) (by omega)
     have E2:=hid fun (w:World)(h:Ext w0 w)=>HE.out w h 0 0 (vF F z ps k) l5 (by omega) (by omega)
     have E3:=hid fun (w:World)(h:Ext w0 w)=>HE.out w h 1 ((k:Int)+1) (secF F z ps k) l7 (by omega) (by omega)
     have D1:=hid fun (w:World)(p:Option Addr)(c:Nat)(hc:2≤c)(hk:RdK w p 16 [fstB ps k,F 2 ((k:Int)+1) z])=>show Gives Tryz.prog 117 #[.slice p 2 c] w (A8 (yF F z ps k))from cplus_two _ _ l1 l3 p c w hk hc
     have D2:=hid fun (w:World)(p:Option Addr)(c:Nat)(hc:2≤c)(hk:RdK w p 16 [sndB ps k,F 2 ((k:Int)+1) z])=>show Gives Tryz.prog 117 #[.slice p 2 c] w (A8 (vF F z ps k))from cplus_two _ _ l2 l3 p c w hk hc
     have D3:=hid fun (w:World)(p:Option Addr)(c:Nat)(hc:2≤c)(hk:RdK w p 16 [yF F z ps k,F 0 0 (vF F z ps k)])=>show Gives Tryz.prog 117 #[.slice p 2 c] w (A8 (secF F z ps k))from cplus_two _ _ l4 l6 p c w hk hc
     have D4:=hid fun (w:World)(p:Option Addr)(c:Nat)(hc:2≤c)(hk:RdK w p 16 [vF F z ps k,F 1 ((k:Int)+1) (secF F z ps k)])=>show Gives Tryz.prog 117 #[.slice p 2 c] w (A8 (firF F z ps k))from cplus_two _ _ l5 l8 p c w hk hc
     have D5:=hid fun (w:World)(p:Option Addr)(c:Nat)(hc:2≤c)(hk:RdK w p 16 [sumG (yF F z ps) k,yF F z ps k])=>show Gives Tryz.prog 117 #[.slice p 2 c] w (A8 (sumG (yF F z ps) (k+1)))from cplus_two _ _ l10 l4 p c w hk hc
     have k1:=hid (show∀q∈[fstB ps k,F 2 ((k:Int)+1) z],q.length=16 from by simp [l1,l3])
     have k2:=hid (show∀q∈[sndB ps k,F 2 ((k:Int)+1) z],q.length=16 from by simp [l2,l3])
     have k3:=hid (show∀q∈[yF F z ps k,F 0 0 (vF F z ps k)],q.length=16 from by simp [l4,l6])
     have k4:=hid (show∀q∈[vF F z ps k,F 1 ((k:Int)+1) (secF F z ps k)],q.length=16 from by simp [l5,l8])
     have k5:=hid (show∀q∈[sumG (yF F z ps) k,yF F z ps k],q.length=16 from by simp [l10,l4])
     have BP:=hid (build_pair (firF F z ps k) (secF F z ps k) l9 l7)
     rw [show firF F z ps k++secF F z ps k=fsF F z ps k from rfl]at BP
     have lW:=fsF_length F z ps k
     have l11:=LS.out (k+1)
     clear lA lB q1 q2
     generalize hQ:glueF (fsF F z ps) (k+1)++ps.drop (32*(k+1))=Q at*
     generalize glueF (fsF F z ps) k++ps.drop (32*k)=C at*
     generalize hX:sumG (yF F z ps) (k+1)=X2 at*
     generalize sumG (yF F z ps) k=X1 at*
     generalize fsF F z ps k=WX at*
     generalize F 1 ((k:Int)+1) (secF F z ps k)=Z3 at*
     generalize F 0 0 (vF F z ps k)=Z2 at*
     generalize F 2 ((k:Int)+1) z=Z1 at*
     generalize firF F z ps k=FI at*
     generalize secF F z ps k=SE at*
     generalize yF F z ps k=Y at*
     generalize vF F z ps k=V at*
     generalize fstB ps k=PA at*
     generalize sndB ps k=PB at*
     go_wp2_with (first|(go_at_call 98;(with_reducible refine(E1.out _ hm.x).mono ?_);rintro e_ w ⟨rfl,hx_⟩;replace hm:=hm.ext hx_;clear hx_)|((with_reducible show qLd);refine zB hm ?_)|((with_reducible show qSt);refine zE hm ?_;clear hm;intro w hm)|(((with_reducible show qAl);refine zG hm ?_);clear hm;(first|(have hx_:=g1;clear hx_;(first|(have hx_:=g2;clear hx_;(first|(have hx_:=g3;clear hx_;(first|(have hx_:=g4;clear hx_;intro gx_)|intro g4))|intro g3))|intro g2))|intro g1);intro w hm))
     refine pregion 22 (K2X _ _ 132 ((zer 16).map v8) (Y.map v8) (V.map v8)) [18,19,20,21] 68 (by kernel_rfl) (by kernel_rfl) rfl (⟨none,none,none,none,rfl,TwoV.start (hm.ext (drew_ext _))⟩) ?_
     simp only [zTa]
     repeat (first
         |(apply pwalk_is rfl rfl rfl rfl;(intro vs_ wx hJ_;obtain⟨a_,b_,c_,d_,rfl,hT_⟩:=hJ_;have hm:=hT_.low;(with_reducible apply gq_ld1 hm);infer_instance;exact rfl;(focus ((repeat (first|exact .hd|assumption|apply Has.tl|apply Has.app));done));(exact FP.out));(simp only [zPu];rfl))
         |(apply pwalk_is rfl rfl rfl rfl;(intro vs_ wx hJ_;obtain⟨a_,b_,c_,d_,rfl,hT_⟩:=hJ_;have hm:=hT_.low;(with_reducible apply gq_ldN hm);infer_instance;exact rfl;(focus ((repeat (first|exact .hd|assumption|apply Has.tl|apply Has.app));done));(exact P1.out _ (by first|rfl|omega));(exact((List.length_map ..).trans l1)));(simp only [zPu];rfl))
         |(apply pwalk_is rfl rfl rfl rfl;(intro vs_ wx hJ_;obtain⟨a_,b_,c_,d_,rfl,hT_⟩:=hJ_;have hm:=hT_.low;(with_reducible apply gq_ldN hm);infer_instance;exact rfl;(focus ((repeat (first|exact .hd|assumption|apply Has.tl|apply Has.app));done));(exact P2.out _ (by first|rfl|omega));(exact((List.length_map ..).trans l2)));(simp only [zPu];rfl))
         |(apply pwalk_some (KeysP ([PA,Z1])) 31 (KeysP.stable _) rfl rfl rfl rfl rfl;(intro vs_ wx hJ_;obtain⟨a_,b_,c_,d_,rfl,hT_⟩:=hJ_;exact gqp_bs2 hT_ (bs_run2 PA Z1 l1 l3 wx) rfl rfl))
         |(apply pwalk_some (KeysP ([PB,Z1])) 40 (KeysP.stable _) rfl rfl rfl rfl rfl;(intro vs_ wx hJ_;obtain⟨a_,b_,c_,d_,rfl,hT_⟩:=hJ_;exact gqp_bs2 hT_ (bs_run2 PB Z1 l2 l3 wx) rfl rfl))
         | (apply pwalk_from (T:=[(31,KeysP ([PA,Z1]))]) rfl rfl rfl
            · (intro vs_ wx hJ_;simp only [pwithS];rintro x_ ⟨g_,e_,rfl,hrow_,hne_⟩;refine⟨rfl, ?_⟩;go_simp;exact gives_call (D1.out wx _ _ (Nat.le_refl _) ⟨k1.out,RdB.of_row hrow_⟩))
            · (simp only [zPu];rfl))
         | (apply pwalk_from (T:=[(40,KeysP ([PB,Z1]))]) rfl rfl rfl
            · (intro vs_ wx hJ_;simp only [pwithS];rintro x_ ⟨g_,e_,rfl,hrow_,hne_⟩;refine⟨rfl, ?_⟩;go_simp;exact gives_call (D2.out wx _ _ (Nat.le_refl _) ⟨k2.out,RdB.of_row hrow_⟩))
            · (simp only [zPu];rfl))
         |(apply pwalk_mark (T:=[]) 0 [] rfl rfl rfl rfl rfl;(intro vs_ wx hJ_ hn_ hD_;simp only [pwithS];obtain⟨a_,b_,c_,d_,rfl,hT_⟩:=hJ_;obtain rfl:a_=none:=(by simpa using hn_);have hm:=hT_.oa;refine⟨rfl, ?_⟩;(with_reducible apply wq_newX hm);exact rfl;infer_instance;clear hm;intro g_ w_ hm hx_ hg_;exact mark_end rfl (hT_.x0 hm hx_ hg_)))
         |(apply pwalk_mark (T:=[]) 1 [] rfl rfl rfl rfl rfl;(intro vs_ wx hJ_ hn_ hD_;simp only [pwithS];obtain⟨a_,b_,c_,d_,rfl,hT_⟩:=hJ_;obtain rfl:b_=none:=(by simpa using hn_);have hm:=hT_.ob;refine⟨rfl, ?_⟩;(with_reducible apply wq_newX hm);exact rfl;infer_instance;clear hm;intro g_ w_ hm hx_ hg_;exact mark_end rfl (hT_.x1 hm hx_ hg_)))
         |(apply pwalk_mark (T:=[(10,PMk 0)]) 2 [] rfl rfl rfl rfl rfl;(intro vs_ wx hJ_ hn_ hD_;simp only [pwithS];obtain⟨a_,b_,c_,d_,rfl,hT_⟩:=hJ_;obtain rfl:c_=none:=(by simpa using hn_);intro x_ hx_;obtain rfl:a_=some x_:=(by simpa [PMk]using hx_);obtain⟨g_,rfl,hm⟩:=hT_.sa;refine⟨rfl, ?_⟩;(with_reducible apply wq_stWX hm);exact rfl;infer_instance;exact rfl;exact rfl;(focus ((repeat (first|exact .hd|assumption|apply Swap.tl|apply Swap.app));done));(focus (first|rfl|omega|(simp;done)|(simp;omega)));(focus (first|rfl|omega|(simp;done)|(simp;omega)));(focus (first|exact one_map _|(simp [one8,one32,one64];done)));clear hm;intro w_ hm hk_;exact mark_end rfl (fun u_=>hT_.x2 hm hk_)))
         |(apply pwalk_mark (T:=[(11,PMk 1)]) 3 [] rfl rfl rfl rfl rfl;(intro vs_ wx hJ_ hn_ hD_;simp only [pwithS];obtain⟨a_,b_,c_,d_,rfl,hT_⟩:=hJ_;obtain rfl:d_=none:=(by simpa using hn_);intro x_ hx_;obtain rfl:b_=some x_:=(by simpa [PMk]using hx_);obtain⟨g_,rfl,hm⟩:=hT_.sb;refine⟨rfl, ?_⟩;(with_reducible apply wq_stWX hm);exact rfl;infer_instance;exact rfl;exact rfl;(focus ((repeat (first|exact .hd|assumption|apply Swap.tl|apply Swap.app));done));(focus (first|rfl|omega|(simp;done)|(simp;omega)));(focus (first|rfl|omega|(simp;done)|(simp;omega)));(focus (first|exact one_map _|(simp [one8,one32,one64];done)));clear hm;intro w_ hm hk_;exact mark_end rfl (fun u_=>hT_.x3 hm hk_)))
         | (apply pwalk_is rfl rfl rfl rfl
            · (intro vs_ wx hJ_;obtain⟨a_,b_,c_,d_,rfl,hT_⟩:=hJ_;have hm:=hT_.low;first|((with_reducible show qGl);first|(exact zJ hm)|(exact zK hm)|(exact zL hm))|(go_simp;(try go_bits);first|exact gives_same|exact gives_skip))
            · (simp only [zPu];rfl)))
     intro vs_ wz hJ_ hl_ hall_
     simp only [zZi]
     repeat rw [pfin_is]
     rw [pfin_cons];intro y31 hy31
     repeat rw [pfin_is]
     rw [pfin_cons];intro y40 hy40
     repeat rw [pfin_is]
     rw [pfin_cons];intro x10 hx10
     repeat rw [pfin_is]
     rw [pfin_cons];intro x11 hx11
     repeat rw [pfin_is]
     rw [pfin_cons];intro ya hya
     repeat rw [pfin_is]
     rw [pfin_cons];intro yb hyb
     repeat rw [pfin_is]
     rw [pfin_nil]
     simp only [zPu]
     obtain⟨a_,b_,c_,d_,rfl,hT_⟩:=hJ_
     obtain⟨p_,q_,r_,s_,rfl,rfl,rfl,rfl⟩:=some4 hall_
     clear hm
     obtain⟨g10_,g11_,rfl,rfl,hm⟩:=hT_.fin
     obtain rfl:=pmk0 hx10
     obtain rfl:=pmk1 hx11
     clear hT_ hl_ hall_ hx10 hx11 hy31 hy40 hya hyb
     go_wp2_with fail
     obtain⟨w,rfl⟩:∃w',w'=wz:=⟨_,rfl⟩
     have hx0:=hm.x
     refine region_new 7 (fun w'=>Ext _ w') 68 (by kernel_rfl) (by kernel_rfl) rfl (fun _ _ h k=>h.trans k) (drew_ext _) ?_
     simp only [zTa]
     repeat (first
         | (apply walk_some (NewS (w.heap.size) 132 ((zer 16).map v8)) 12 (NewS.stable _ _ _) rfl rfl rfl rfl
            · (intro wx hwx;go_simp;exact gives_new (cs:=(zer 16).map v8) hwx.size))
         |(apply walk_some (KeysS ([Y,Z2])) 46 (KeysS.stable _) rfl rfl rfl rfl;(intro wx hwx;exact gq_bs2 (k3.out) (bs_run2 Y Z2 l4 l6 wx) rfl rfl))
         | (apply walk_from (T:=[(46,KeysS [Y,Z2])]) rfl rfl
            · (intro wx hwx;simp only [withS];(rintro x_ ⟨p,c,rfl,hlc,hk'⟩);refine⟨rfl, ?_⟩;go_simp;exact gives_call (D3.out wx p c hlc hk'))
            · (simp only [zPu];rfl))
         | (apply walk_is rfl rfl rfl
            · (intro wx hwx;first|((with_reducible show qGl);exact zK (hm.ext hwx))|(go_simp;(try go_bits);first|exact gives_same|exact gives_skip|with_reducible exact gives_call (E2.out wx (hx0.trans hwx))))
            · (simp only [zPu];rfl))
         | (apply walk_not rfl rfl rfl
            · (simp only [zPu];rfl)))
     intro wz hwz
     simp only [zZi]
     repeat rw [fin_is]
     rw [fin_cons];intro y46 hy46
     repeat rw [fin_is]
     rw [fin_cons];intro x12 hx12
     repeat rw [fin_is]
     rw [fin_nil];intro hap
     simp only [zPu]at hap⊢
     clear hy46
     obtain⟨g12_,rfl,hg12,hr12⟩:=hx12
     replace hm:=hm.push hwz hg12 hr12
     clear hap hr12
     clear hx0
     go_wp2_with (first|((with_reducible show qSt);refine zE hm ?_;clear hm;intro w hm))
     have hx0:=hm.x
     refine rgE 14 68 ?_
     simp only [zTa]
     repeat (first
         |(apply walk_is rfl rfl rfl;(intro wx hwx;(with_reducible apply gq_ld1 (hm.ext hwx));infer_instance;exact rfl;(focus ((repeat (first|exact .hd|assumption|apply Has.tl|apply Has.app));done));(exact FP.out));(simp only [zPu];rfl))
         |(apply walk_some (KeysS ([V,Z3])) 57 (KeysS.stable _) rfl rfl rfl rfl;(intro wx hwx;exact gq_bs2 (k4.out) (bs_run2 V Z3 l5 l8 wx) rfl rfl))
         | (apply walk_from (T:=[(57,KeysS [V,Z3])]) rfl rfl
            · (intro wx hwx;simp only [withS];(rintro x_ ⟨p,c,rfl,hlc,hk'⟩);refine⟨rfl, ?_⟩;go_simp;exact gives_call (D4.out wx p c hlc hk'))
            · (simp only [zPu];rfl))
         |(apply walk_is rfl rfl rfl;(intro wx hwx;(with_reducible apply gq_build BP.out);(first|rfl|simp [Act.eval]|kernel_rfl));(simp only [zPu];rfl))
         | (apply walk_is rfl rfl rfl
            · (intro wx hwx;first|((with_reducible show qGl);exact zK (hm.ext hwx))|(go_simp;(try go_bits);first|exact gives_same|exact gives_skip|with_reducible exact gives_call (E3.out wx (hx0.trans hwx))))
            · (simp only [zPu];rfl))
         | (apply walk_not rfl rfl rfl
            · (simp only [zPu];rfl)))
     intro wz hwz
     simp only [zZi]
     repeat (first|rw [fin_is]|(rw [fin_cons];intro _ _))
     rw [fin_nil]
     try (replace hm:=hm.ext hwz)
     simp only [zPu]
     clear hx0
     have HST:=hid (P3.out (pre.length+k*32) (by omega))
     go_wp2_with (first|((with_reducible show wpList _ _ _ (Oper.mk _ (Op.store 223 _ _) _ _ _ _::_) _ _);((with_reducible apply wq_stA hm);exact rfl;infer_instance;exact rfl;exact rfl;(focus ((repeat (first|exact .hd|assumption|apply Swap.tl|apply Swap.app));done));(exact HST.out);(exact(by simp [lW]));(exact(by rw [lC];omega));(exact(one_map _));clear hm;intro w hm))|((with_reducible apply wq_bs2 hm (bs_run2 X1 Y l10 l4 _));exact rfl;exact rfl;exact rfl;clear hm;intro gq w hm)|(go_at_call 117;(with_reducible refine(D5.out _ _ _ (Nat.le_refl 2) (hm.rdK (by repeat (first|exact Has.hd|assumption|apply Has.tl|apply Has.app)) k5.out)).mono ?_);rintro e_ w ⟨rfl,hx_⟩;replace hm:=hm.ext hx_;clear hx_)|((with_reducible show qLd);refine zB hm ?_)|((with_reducible show qSt);refine zE hm ?_;clear hm;intro w hm))
     go_roundw
     case rel=>exact⟨k+1,by omega,by go_num,by rw [hX,hQ];exact hm.drop.drop.drop.drop.drop⟩
     case measure=>simp [intOf]<;>omega
   · obtain rfl:k=n:=by omega
     have hd:decide ((k:Int)<(k:Int))=false:=decide_eq_false (by omega)
     have hz2:glueF (fsF F z ps) k++ps.drop (32*k)=glueF (fsF F z ps) k:=by rw [List.drop_eq_nil_of_le (by rw [HPS.out];omega),List.append_nil]
     rw [hz2]at hm
     have l7:=LS.out k
     go_wp2_with (first|((with_reducible show qLd);refine zB hm ?_)|((with_reducible show qSt);refine zE hm ?_;clear hm;intro w hm))
     refine rtO hm rfl rfl ?_
     exact⟨rfl,hm.drop.drop.drop.drop⟩
end Go.Proofs.YtneacgpmjlocjaaGreatDoor
