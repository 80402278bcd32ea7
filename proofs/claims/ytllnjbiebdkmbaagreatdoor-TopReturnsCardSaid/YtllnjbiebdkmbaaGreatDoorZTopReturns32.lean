/-
  Texts of the program, walked, and plain ones. Conditions: those written in each theorem.
-/
import Derived.Test.YtllnjbiebdkmbaaGreatDoorZTopReturns0
import Derived.Test.YtllnjbiebdkmbaaGreatDoorZTopReturns31
import Derived.Test.YtllnjbiebdkmbaaGreatDoorZTopReturns14
set_option linter.unusedSimpArgs false
set_option linter.unusedVariables false
set_option maxHeartbeats 16000000
namespace Go.Proofs.YtllnjbiebdkmbaaGreatDoor
open Go Go.RowKit
set_option maxRecDepth 100000
theorem vcipher_g(g gt gc gs:Nat)(n al:Int)(ld:Value)(w0:World)(h:Row w0 g 52 (volC gt al gc gs ld)):
   Gives Tryz.prog 16 #[.pointer (some ⟨g,0,none⟩), .int .i64 n] w0 (.pointer (some ⟨gc,0,none⟩)):=
 (vcipher_gen g gc n (volC gt al gc gs ld) rfl rfl w0 h).mono fun _ _ ⟨h1,h2⟩=>⟨h1,h2 ▸ Ext.refl _⟩
def stW(al:Int)(key st:List Byte)(n:Nat)(b:List Byte):List Byte:=stT al key (stP st (n*20) b) n
theorem stW_length(al:Int)(key st:List Byte)(n:Nat)(b:List Byte)(hl:st.length=80)(hn:n<4)(hb:b.length=20):(stW al key st n b).length=80:=
 stT_length al key _ n ((stP_length _ _ _ (by omega)).trans hl) hn
theorem vwrite1_any(g gt gc gs gb gv gn n k:Nat)(al:Int)(key st b:List Byte)(hl:st.length=80)(hn:n<4)(hb:b.length=20)(hk:k<10)(p:Option Addr)(c:Nat)(w0 w:World)(R:List Blk)(hm:Own w0 w (⟨gs,5,st.map v8⟩::⟨g,52,volC gt al gc gs (ldV k)⟩::R))
   (HB:Has R ⟨gb,22,[.slice p 20 c]⟩) (HV:Has R ⟨gv,28,[.pointer (some ⟨g,0,none⟩)]⟩) (HN:Has R ⟨gn,3,[.int .i64 (n:Int)]⟩)
   (hrd:∀wx X Y,Own w0 wx (X::Y::R)→RdB wx p b) (hci:∀wx X Y,Own w0 wx (X::Y::R)→CipR wx gc al key):
   Calls Tryz.prog 29 #[.slice (some ⟨gs,n*20,none⟩) 20 (80-n*20), .pointer (some ⟨gb,0,none⟩), .pointer (some ⟨gv,0,none⟩), .pointer (some ⟨gn,0,none⟩)] w fun e w'=>e= .returned (.int .i64 0)∧Own w0 w' (⟨gs,5,(stW al key st n b).map v8⟩::⟨g,52,volC gt al gc gs (ldV (k+1))⟩::R):=by
 have HRD:=Lib.hid hrd
 have EQ:=Lib.hid (show over st (n*20) (b.take 20)=stP st (n*20) b from by rw [List.take_of_length_le (by omega)];rfl)
 have FT:=Lib.hid (show n*20+20≤st.length from by omega)
 have LB:=Lib.hid hb.symm
 have E8:Hid ((volC gt al gc gs (ldV k))[8]? =some (ldV k)):=Lib.hid rfl
 have S8:Hid ((volC gt al gc gs (ldV k)).set 8 (ldV (k+1))=volC gt al gc gs (ldV (k+1))):=Lib.hid rfl
 have K8:Hid (8<(volC gt al gc gs (ldV k)).length):=Lib.hid (show 8<9 from by omega)
 have hv1:(ldV (k+1)).cells= #[ldV (k+1)]:=rfl
 have hv2:(ldV (k+1)).oneCell'=true:=rfl
 have AD:=ldV_add k hk
 have lP:(stP st (n*20) b).length=80:=(stP_length _ _ _ (by omega)).trans hl
 have TU:=Lib.hid fun (wx:World)(h:Own w0 wx (⟨gs,5,(stP st (n*20) b).map v8⟩::⟨g,52,volC gt al gc gs (ldV (k+1))⟩::R))=>vturn_any g gt gc gs n al key (stP st (n*20) b) (ldV (k+1)) lP hn w0 wx _ h .hd (hci _ _ _ h)
 have CI:=Lib.hid fun (wx:World)(h:Own w0 wx (⟨gs,5,(stP st (n*20) b).map v8⟩::⟨g,52,volC gt al gc gs (ldV (k+1))⟩::R))=>vcipher_g g gt gc gs (n:Int) al (ldV (k+1)) wx (h.row (.tl .hd))
 rw [show stT al key (stP st (n*20) b) n=stW al key st n b from rfl]at TU
 obtain⟨V0,hV0⟩:∃x,x=volC gt al gc gs (ldV k):=⟨_,rfl⟩
 obtain⟨V1,hV1⟩:∃x,x=volC gt al gc gs (ldV (k+1)):=⟨_,rfl⟩
 rw [←hV0]at hm E8 S8 K8
 rw [←hV1]at S8 TU CI⊢
 obtain⟨A,hA⟩:∃x,x=ldV k:=⟨_,rfl⟩
 obtain⟨B,hB⟩:∃x,x=ldV (k+1):=⟨_,rfl⟩
 rw [←hA]at E8 AD
 rw [←hB]at S8 AD hv1 hv2
 obtain⟨S1,hS1⟩:∃x,x=stP st (n*20) b:=⟨_,rfl⟩
 obtain⟨S2,hS2⟩:∃x,x=stW al key st n b:=⟨_,rfl⟩
 rw [←hS1]at EQ TU CI
 rw [←hS2]at TU⊢
 have b4:(n:Int)≤3:=by omega
 obtain⟨O,hO⟩:∃x,x=n*20:=⟨_,rfl⟩
 rw [←hO]at EQ FT⊢
 clear hrd hci hV0 hV1 hA hB hS1 hS2 hl hn hb hk lP hO
 go_enter Tryz.func29,Tryz.ntmps29
 go_wp2_with (first|((with_reducible apply wq_ld1 hm);exact rfl;infer_instance;exact rfl;(focus (repeat first|exact .hd|assumption|apply Has.tl);done);(exact E8.out))|((with_reducible apply wq_st1e S8.out K8.out hm);exact rfl;infer_instance;exact rfl;exact rfl;exact hv1;exact hv2;exact(.tl .hd);clear hm;intro w hm)|((with_reducible show wpList _ _ _ (Oper.mk _ (Op.call _) _ _ _ _::_) _ _);refine wpl_cp8 hm rfl rfl rfl rfl Tryz.underlying22 (by kernel_rfl) (by repeat (first|exact Swap.hd|assumption|apply Swap.tl)) (HRD.out _ _ _ hm) LB.out (EQ.out) FT.out ?_;clear hm;intro w hm)|((with_reducible show qLd);first|((with_reducible apply wq_ld1 hm);exact rfl;infer_instance;exact rfl;(focus (repeat first|exact .hd|assumption|apply Has.tl);done);exact rfl)))
 simp only [Act.put,sIB,sCS,sCZ]
 have CJ:=Lib.hid fun wx (hwx:Ext w wx)=>CI.out wx (hm.ext hwx)
 refine region_at 5 (fun w'=>Ext _ w') 27 (by kernel_rfl) (by kernel_rfl) rfl (fun _ _ h k=>h.trans k) (drew_ext _) ?_
 simp only [tSC,List.take_zero,dSC,List.drop_zero,List.map_cons,List.map_nil]
 repeat (first
     | (apply walk_is rfl rfl rfl
        · (intro wx hwx;first|((with_reducible show gives _ _ _ (Sem.run _ (execOp _ (Oper.mk _ (Op.load _ _) _ _ _ _)) _));first|((with_reducible apply gq_ld1 (hm.ext hwx));infer_instance;exact rfl;(focus (repeat first|exact .hd|assumption|apply Has.tl);done);exact rfl))|(go_simp;(try go_bits);first|exact gives_same|exact gives_skip|with_reducible exact gives_call (CJ.out wx hwx)))
        · (simp only [Act.put,sIB,sCS,sCZ];rfl))
     | (apply walk_not rfl rfl rfl
        · (simp only [Act.put,sIB,sCS,sCZ];rfl)))
 intro wz hwz
 simp only [zCC,zNR]
 repeat (first|rw [fin_is]|(rw [fin_cons];intro _ _))
 rw [fin_nil]
 try (replace hm:=hm.ext hwz)
 simp only [Act.put,sIB,sCS,sCZ]
 go_wp2_with fail
 refine(TU.out _ hm).mono ?_
 rintro e_ w ⟨rfl,hm1⟩
 go_wp2_with fail
 go_ret
 exact⟨rfl,hm1⟩
theorem perm32(a b c s v:Blk)(R:List Blk):(a::b::c::s::v::R).Perm (s::v::a::b::c::R):=(List.perm_append_comm (l₁ :=[a,b,c]) (l₂ :=[s,v])).append_right R
theorem perm23(a b c s v:Blk)(R:List Blk):(s::v::a::b::c::R).Perm (a::b::c::s::v::R):=(List.perm_append_comm (l₁ :=[s,v]) (l₂ :=[a,b,c])).append_right R
theorem Own.drop5 {w0 w:World}{a b c s v:Blk}{R:List Blk}(h:Own w0 w (s::v::a::b::c::R)):Own w0 w (s::v::R):=Own.dropN (M:=[a,b,c]) (h.perm (perm23 a b c s v R))
theorem vowrite_any(g gt gc gs n k:Nat)(al:Int)(key st b:List Byte)(hl:st.length=80)(hn:n<4)(hb:b.length=20)(hk:k<10)(p:Option Addr)(c:Nat)(w0 w:World)(R:List Blk)(hm:Own w0 w (⟨gs,5,st.map v8⟩::⟨g,52,volC gt al gc gs (ldV k)⟩::R))
   (hrd:∀wx,Ext w0 wx→RdB wx p b) (hci:∀wx M,Own w0 wx (M++R)→CipR wx gc al key):
   Calls Tryz.prog 13 #[.pointer (some ⟨g,0,none⟩), .int .i64 (n:Int), .slice p 20 c] w fun e w'=>e= .returned (.int .i64 0)∧Own w0 w' (⟨gs,5,(stW al key st n b).map v8⟩::⟨g,52,volC gt al gc gs (ldV (k+1))⟩::R):=by
 have WW:=Lib.hid fun (gv gn gb:Nat)(wx:World)(h:Own w0 wx (⟨gb,22,[.slice p 20 c]⟩::⟨gn,3,[.int .i64 (n:Int)]⟩::⟨gv,28,[.pointer (some ⟨g,0,none⟩)]⟩::⟨gs,5,st.map v8⟩::⟨g,52,volC gt al gc gs (ldV k)⟩::R))=>
   vwith_gen 29 (fun args w=>by kernel_rfl) #[.pointer (some ⟨gb,0,none⟩), .pointer (some ⟨gv,0,none⟩), .pointer (some ⟨gn,0,none⟩)] g gs n _ (volC_K gt al gc gs (ldV k)) (fun w'=>Own w0 w' (⟨gs,5,(stW al key st n b).map v8⟩::⟨g,52,volC gt al gc gs (ldV (k+1))⟩::R)) hn wx (h.row (.tl (.tl (.tl (.tl .hd))))) (fun wy hy=>
     (vwrite1_any g gt gc gs gb gv gn n k al key st b hl hn hb hk p c w0 wy (⟨gb,22,[.slice p 20 c]⟩::⟨gn,3,[.int .i64 (n:Int)]⟩::⟨gv,28,[.pointer (some ⟨g,0,none⟩)]⟩::R) ((h.ext hy).perm (perm32 _ _ _ _ _ R)) .hd (.tl (.tl .hd)) (.tl .hd) (fun wz X Y hz=>hrd wz hz.x) (fun wz X Y hz=>hci wz [X,Y,_,_,_] hz)).mono
       fun e w' ⟨e1,h1⟩=>⟨e1,Own.drop5 h1⟩)
 obtain⟨S0,hS0⟩:∃x,x=(⟨gs,5,st.map v8⟩:Blk):=⟨_,rfl⟩
 obtain⟨S1,hS1⟩:∃x,x=(⟨gs,5,(stW al key st n b).map v8⟩:Blk):=⟨_,rfl⟩
 obtain⟨V0,hV0⟩:∃x,x=(⟨g,52,volC gt al gc gs (ldV k)⟩:Blk):=⟨_,rfl⟩
 obtain⟨V1,hV1⟩:∃x,x=(⟨g,52,volC gt al gc gs (ldV (k+1))⟩:Blk):=⟨_,rfl⟩
 rw [←hS0,←hV0]at hm
 rw [←hS1,←hV1]at WW⊢
 rw [←hS0,←hV0]at WW
 clear hS0 hS1 hV0 hV1 hrd hci hl hb hk
 go_enter Tryz.func13,Tryz.ntmps13
 go_wp2_with (first|((with_reducible show qLd);first|((with_reducible apply wq_ld1 hm);exact rfl;infer_instance;exact rfl;(focus (repeat first|exact .hd|assumption|apply Has.tl);done);exact rfl))|((first|((with_reducible show qBx);first|((with_reducible apply wq_box1 hm);exact rfl;exact rfl;exact rfl)));clear hm;(first|(have hx_:=g1;clear hx_;(first|(have hx_:=g2;clear hx_;(first|(have hx_:=g3;clear hx_;intro gx_)|intro g3))|intro g2))|intro g1);intro w hm))
 refine(WW.out g1 g2 g3 w hm).mono ?_
 rintro e_ w ⟨rfl,hm1⟩
 go_wp2_with fail
 go_ret
 exact⟨rfl,hm1⟩
theorem vraw1_any(gs gq o d:Nat)(b:List Byte)(hb:b.length=20)(w0 w:World)(R:List Blk)(hm:Own w0 w (⟨gq,22,[.slice none 0 0]⟩::R))(hr:RdB w (some ⟨gs,o,none⟩) b):
   Calls Tryz.prog 33 #[.slice (some ⟨gs,o,none⟩) 20 d, .pointer (some ⟨gq,0,none⟩)] w fun e w'=>e= .returned (.int .i64 0)∧∃p c,RdB w' p b∧Own w0 w' (⟨gq,22,[.slice p 20 c]⟩::R):=by
 have CL:=Lib.hid (clone_own b (some ⟨gs,o,none⟩) d w hr (by omega))
 rw [hb]at CL
 clear hr hb
 go_enter Tryz.func33,Tryz.ntmps33
 go_wp2_with fail
 refine(CL.out).mono ?_
 rintro e_ w ⟨v5,M5,rfl,hm1,hs5⟩
 rw [List.append_nil]at hm1
 replace hm:=hm.join hm1
 clear hm1
 obtain⟨p5,c5,rfl⟩:=hs5.form
 go_wp2_with (first|((with_reducible apply wq_st1 (v:= .slice p5 20 c5) hm);exact rfl;infer_instance;exact rfl;exact rfl;exact rfl;exact rfl;exact(Swap.app .hd);exact(show 0<1 from by omega);clear hm;intro w hm))
 go_ret
 exact⟨rfl,p5,c5,slo_rdZ hs5 hm,hm.dropN⟩
theorem vraw_any(g gs n:Nat)(VC:List Value)(hV:VolK VC gs)(st:List Byte)(hl:st.length=80)(hn:n<4)(w:World)(hv:Row w g 52 (VC))(hs:RdB w (some ⟨gs,0,none⟩) st):
   Calls Tryz.prog 21 #[.pointer (some ⟨g,0,none⟩), .int .i64 (n:Int)] w fun e w'=>∃p c,e= .returned (.tuple #[.slice p 20 c, .int .i64 0])∧RdB w' p ((st.drop (n*20)).take 20)∧Ext w w':=by
 have hm:=Own.start w
 have lB:((st.drop (n*20)).take 20).length=20:=by simp only [List.length_take,List.length_drop];omega
 have WW:=Lib.hid fun (gq:Nat)(wx:World)(h:Own w wx [⟨gq,22,[.slice none 0 0]⟩])=>
   vwith_gen 33 (fun args w=>by kernel_rfl) #[.pointer (some ⟨gq,0,none⟩)] g gs n VC hV (fun w'=>∃p c,RdB w' p ((st.drop (n*20)).take 20)∧Own w w' [⟨gq,22,[.slice p 20 c]⟩]) hn wx (row_ext hv h.x) (fun wy hy=>
     vraw1_any gs gq (n*20) (80-n*20) _ lB w wy [] (h.ext hy) (rdB_at ((hs.ext h.x).ext hy)))
 obtain⟨X,hX⟩:∃x,x=(st.drop (n*20)).take 20:=⟨_,rfl⟩
 rw [←hX]at WW⊢
 clear hX hl hv hs lB
 go_enter Tryz.func21,Tryz.ntmps21
 go_wp2_with (first|((first|((with_reducible show qAl);first|((with_reducible apply wq_new hm);exact rfl;infer_instance)));clear hm;(first|(have hx_:=g1;clear hx_;intro gx_)|intro g1);intro w hm))
 refine(WW.out g1 w hm).mono ?_
 rintro e_ w ⟨rfl,p5,c5,hr5,hm⟩
 go_wp2_with (first|((with_reducible show qLd);first|((with_reducible apply wq_ld1 hm);exact rfl;infer_instance;exact rfl;(focus (repeat first|exact .hd|assumption|apply Has.tl);done);exact rfl)))
 go_ret2
 exact⟨p5,c5,rfl,hr5,hm.x⟩
def stF(al:Int)(key:List Byte):Nat→List Byte
 |0=>zeros 80
 |k+1=>stT al key (stF al key k) k
theorem stF_length(al:Int)(key:List Byte)(k:Nat)(h:k≤4):(stF al key k).length=80:=by
 induction k with
 |zero=>exact zeros_length 80
 |succ k ih=>exact stT_length al key _ k (ih (by omega)) (by omega)
theorem build_vol(gt gc gs:Nat)(al:Int)(w:World):(Instr.build 52 #[(0, .pointer (some ⟨gt,0,none⟩)),(1, .agg #[.int .i64 al, .int .i64 20, .int .i64 4]),(2, .pointer (some ⟨gc,0,none⟩)),(5, .slice (some ⟨gs,0,none⟩) 80 80)]).run Tryz.prog w= .ok (.agg (volC gt al gc gs (ldV 0)).toArray) w:=by kernel_rfl
theorem gq_mkX {a:Act}{w:World}{dst:Option Tmp}{ty:TypeId}{pos:String}{aft:Array Edge}{gd:Option (Nat×Bool)}{x y:Operand}(B n:Nat)(hB:B≤w.heap.size)(hn:n≤281474976710656)(hx:a.eval x= .int .i64 (n:Int))(hy:a.eval y= .int .i64 (n:Int)):gives Tryz.prog w (XorT B n (zeros n)) ((execOp a.eval (Oper.mk dst (.makeSlice 22 x y) ty pos aft gd)).run Tryz.prog w):=by
 obtain⟨i,hi,hz,hs,hb⟩:=info_byte
 have h:=run_make_bytes (P:=Tryz.prog) (w:=w) Tryz.underlying22 hi hz hs hb n hn
 unfold execOp
 simp only [hx,hy,Sem.run_bind,h,Result.andThen_ok,Sem.run_pure]
 exact gives_val (Ext.alloc (Ext.refl _) _) ⟨_,rfl,hB,row_new w 5 ((zeros n).map v8)⟩
theorem vformat_any(gt gb:Nat)(al:Int)(key:List Byte)(hk:SchOk al key)(p:Option Addr)(c:Nat)(hc:key.length≤c)(w0:World)(hr:RdB w0 p key)(ht:TabR gt gb w0)(hcb:CoefB w0):
   Calls Tryz.prog 11 #[.pointer (some ⟨gt,0,none⟩), .agg #[.int .i64 al, .int .i64 20, .int .i64 4], .slice p key.length c] w0 fun e w'=>∃g gc gs L,e= .returned (.tuple #[.pointer (some ⟨g,0,none⟩), .int .i64 0])∧Own w0 w' (⟨gs,5,(stF al key 4).map v8⟩::⟨g,52,volC gt al gc gs (ldV 0)⟩::L)∧∀wx M,Own w0 wx (M++L)→CipR wx gc al key:=by
 have hm:=Own.start w0
 have NW:=Lib.hid fun (w:World)(hx:Ext w0 w)=>wnew_any al gt gb key hk p c hc w (hr.ext hx) (ht.ext hx) (hcb.ext hx)
 have BV:=Lib.hid fun gc gs=>build_vol gt gc gs al
 have KE:=Lib.hid fun (gc:Nat)(L R:List Blk)(h:Keeps L (TabR gt gb) (fun wx=>CipR wx gc al key))(wx:World)(M:List Blk)(ho:Own w0 wx (M++(L++R)))=>(show CipR wx gc al key from h wx (fun b hb=>ho.rows b (List.mem_append_right _ (List.mem_append_left _ hb))) (ht.ext ho.x))
 have lF:=Lib.hid (stF_length al key)
 have TU:=Lib.hid fun (g gc gs:Nat)(L R:List Blk)(h:Keeps L (TabR gt gb) (fun wx=>CipR wx gc al key))(k:Nat)(hk:k<4)(wx:World)(ho:Own w0 wx (⟨gs,5,(stF al key k).map v8⟩::⟨g,52,volC gt al gc gs (ldV 0)⟩::(L++R)))=>
   vturn_any g gt gc gs k al key (stF al key k) (ldV 0) (stF_length al key k (by omega)) hk w0 wx _ ho .hd (KE.out gc L R h wx [_,_] ho)
 have F0:Hid (zeros 80=stF al key 0):=Lib.hid rfl
 have FS:=Lib.hid fun k=>(show stT al key (stF al key k) k=stF al key (k+1)from rfl)
 have EV:=Lib.hid fun gc gs=>(show(volC gt al gc gs (ldV 0))[4]? =some (.pointer (some ⟨gc,0,none⟩))from rfl)
 have VC:=Lib.hid fun gc gs=>(show [.pointer (some ⟨gt,0,none⟩), .int .i64 al, .int .i64 20, .int .i64 4, .pointer (some ⟨gc,0,none⟩), .pointer none, .int .i64 0, .slice (some ⟨gs,0,none⟩) 80 80, .complex .f64 0 0]=volC gt al gc gs (ldV 0)from rfl)
 obtain⟨TL,hTL⟩:∃x,x=key.length:=⟨_,rfl⟩
 rw [←hTL]at NW⊢
 obtain⟨VF,hVF⟩:∃x,x=fun gc gs=>volC gt al gc gs (ldV 0):=⟨_,rfl⟩
 obtain⟨SF,hSF⟩:∃x,x=stF al key:=⟨_,rfl⟩
 have hv0:∀gc gs,volC gt al gc gs (ldV 0)=VF gc gs:=fun gc gs=>by rw [hVF]
 simp only [hv0]at BV TU EV VC⊢
 rw [←hSF]at TU F0 lF⊢
 simp only [←hSF]at FS
 clear hr ht hcb hc hTL hk hVF hSF hv0
 go_enter Tryz.func11,Tryz.ntmps11
 go_wp2_with (first|((with_reducible apply wq_boxN (cs:=[.int .i64 al, .int .i64 20, .int .i64 4]) hm);exact rfl;exact rfl;clear hm;intro g1 w hm)|((with_reducible show qLd);first|((with_reducible apply wq_ld1 hm);exact rfl;infer_instance;exact rfl;(focus (repeat first|exact .hd|assumption|apply Has.tl);done);exact rfl)))
 refine(NW.out w hm.x).mono ?_
 rintro e_ w ⟨gc,LK,rfl,_,hm1,KK⟩
 replace hm:=hm.join hm1
 clear hm1
 go_wp2_with fail
 have HC:Has (LK++[⟨g1,43,[.int .i64 al, .int .i64 20, .int .i64 4]⟩]) ⟨g1,43,[.int .i64 al, .int .i64 20, .int .i64 4]⟩:=Has.app .hd
 obtain⟨R,hR⟩:∃x,x=[(⟨g1,43,[.int .i64 al, .int .i64 20, .int .i64 4]⟩:Blk)]:=⟨_,rfl⟩
 rw [←hR]at hm HC
 clear hR
 refine region_new 9 (fun w'=>Ext _ w') 69 (by kernel_rfl) (by kernel_rfl) rfl (fun _ _ h k=>h.trans k) (drew_ext _) ?_
 simp only [tSC,List.take_zero,dSC,List.drop_zero,List.map_cons,List.map_nil]
 repeat (first
     |(apply walk_some (XorT w.heap.size 80 (zeros 80)) 52 (XorT.stable _ _ _) rfl rfl rfl rfl;(intro wx hwx;have hz_:=hwx.size;(with_reducible apply gq_mkX w.heap.size 80 hz_);(focus omega);exact rfl;exact rfl))
     | (apply walk_is rfl rfl rfl
        · (intro wx hwx;first|((with_reducible show gives _ _ _ (Sem.run _ (execOp _ (Oper.mk _ (Op.load _ _) _ _ _ _)) _));first|((with_reducible apply gq_ldW (hm.ext hwx));infer_instance;exact rfl;(focus (repeat first|exact .hd|assumption|apply Has.tl);done);(focus (first|rfl|omega|(simp;done)|(simp;omega))))|((with_reducible apply gq_ld1 (hm.ext hwx));infer_instance;exact rfl;(focus (repeat first|exact .hd|assumption|apply Has.tl);done);exact rfl))|(go_simp;(try go_bits);first|exact gives_same|exact gives_skip))
        · (simp only [Act.put,sIB,sCS,sCZ];rfl))
     | (apply walk_not rfl rfl rfl
        · (simp only [Act.put,sIB,sCS,sCZ];rfl)))
 intro wz hwz
 simp only [zCC,zNR]
 repeat rw [fin_is]
 rw [fin_cons];intro x52 hx52
 repeat rw [fin_is]
 rw [fin_nil];intro hap
 simp only [Act.put,sIB,sCS,sCZ]at hap⊢
 obtain⟨gs,rfl,hgs,hrs⟩:=hx52
 replace hm:=hm.push hwz hgs hrs
 clear hap hgs hrs
 go_wp2_with (first|((with_reducible show qLd);first|((with_reducible apply wq_ld1 hm);exact rfl;infer_instance;exact rfl;(focus (repeat first|exact .hd|assumption|apply Has.tl);done);exact rfl))|((first|((with_reducible show qBx);first|((with_reducible apply wq_boxN hm);exact rfl;exact rfl)));clear hm;(first|(have hx_:=g1;clear hx_;(first|(have hx_:=g2;clear hx_;intro gx_)|intro g2))|intro g1);intro w hm))
 rw [F0.out,VC.out]at hm
 replace hm:=hm.perm (List.Perm.swap _ _ _)
 have C4:=Lib.hid (EV.out gc gs)
 have TV:=Lib.hid fun (k:Nat)(hk:k<4)(wx:World)(ho:Own w0 wx (⟨gs,5,(SF k).map v8⟩::⟨g2,52,VF gc gs⟩::(LK++R)))=>TU.out g2 gc gs LK R KK k hk wx ho
 go_loopw [57] (fun i wr=>∃k:Nat,k≤4∧i= .int .i64 (k:Int)∧Own w0 wr (⟨gs,5,(SF k).map v8⟩::⟨g2,52,VF gc gs⟩::(LK++R))) (fun i _=>4-(intOf i).toNat)
 case atStart=>exact⟨0,by omega,rfl,hm⟩
 case round=>
   obtain⟨k,hk,rfl,hm⟩:=hrel
   by_cases hlt:k<4
   · have hd:decide ((k:Int)<4)=true:=decide_eq_true (by omega)
     have hd2:(k:Int)<4:=by omega
     have TW:=Lib.hid (TV.out k hlt)
     rw [FS.out k]at TW
     go_wp2_with (first|((with_reducible apply wq_ld1 hm);exact rfl;infer_instance;exact rfl;(focus (repeat first|exact .hd|assumption|apply Has.tl);done);(exact C4.out)))
     refine(TW.out _ hm).mono ?_
     rintro e_ w ⟨rfl,hm1⟩
     go_wp2_with fail
     go_roundw
     case rel=>exact⟨k+1,by omega,by go_num,hm1⟩
     case measure=>simp [intOf]<;>omega
   · obtain rfl:k=4:=by omega
     have hd:decide (((4:Nat):Int)<4)=false:=by decide
     go_wp2_with fail
     go_ret2
     exact⟨g2,gc,gs,LK++R,rfl,hm,KE.out gc LK R KK⟩
def right4(n:Nat):Bool:=(decide (n=16)||decide (n=24))||decide (n=32)
theorem right04_any(n:Nat)(w:World):Calls Tryz.prog 23 #[.int .i64 (n:Int)] w fun e w'=>e= .returned (.bool (right4 n))∧w=w':=by
 unfold right4
 have E1:((n:Int)==16)=decide (n=16):=by rw [Bool.eq_iff_iff];simp;omega
 have E2:((n:Int)==24)=decide (n=24):=by rw [Bool.eq_iff_iff];simp;omega
 have E3:((n:Int)==32)=decide (n=32):=by rw [Bool.eq_iff_iff];simp;omega
 by_cases h1:n=16
 · have e1:((n:Int)==16)=true:=by rw [E1];exact decide_eq_true h1
   rw [decide_eq_true h1]
   clear E1 E2 E3 h1
   go_enter Tryz.func23,Tryz.ntmps23
   go_wp2
   go_ret
   exact⟨rfl,rfl⟩
 · have e1:((n:Int)==16)=false:=by rw [E1];exact decide_eq_false h1
   rw [decide_eq_false h1]
   by_cases h2:n=24
   · have e2:((n:Int)==24)=true:=by rw [E2];exact decide_eq_true h2
     rw [decide_eq_true h2]
     clear E1 E2 E3 h1 h2
     go_enter Tryz.func23,Tryz.ntmps23
     go_wp2
     go_ret
     exact⟨rfl,rfl⟩
   · have e2:((n:Int)==24)=false:=by rw [E2];exact decide_eq_false h2
     rw [decide_eq_false h2]
     by_cases h3:n=32
     · have e3:((n:Int)==32)=true:=by rw [E3];exact decide_eq_true h3
       rw [decide_eq_true h3]
       clear E1 E2 E3 h1 h2 h3
       go_enter Tryz.func23,Tryz.ntmps23
       go_wp2
       go_ret
       exact⟨rfl,rfl⟩
     · have e3:((n:Int)==32)=false:=by rw [E3];exact decide_eq_false h3
       rw [decide_eq_false h3]
       clear E1 E2 E3 h1 h2 h3
       go_enter Tryz.func23,Tryz.ntmps23
       go_wp2
       go_ret
       exact⟨rfl,rfl⟩
theorem right4_iff(n:Nat):right4 n=true↔(n=16∨n=24∨n=32):=by simp [right4,or_assoc]
theorem wrong_any(al:Int)(key:List Byte)(p:Option Addr)(c:Nat)(w:World):Calls Tryz.prog 10 #[.int .i64 al, .slice p key.length c] w fun e w'=>∃n:Int,e= .returned (.int .i64 n)∧(n=0→SchOk al key)∧w=w':=by
 have R4:=Lib.hid (right04_any key.length w)
 have R5:=Lib.hid (right15_any key p c w)
 by_cases h1:al<1
 · have d1:decide (al<1)=true:=decide_eq_true h1
   go_enter Tryz.func10,Tryz.ntmps10
   go_wp2
   go_ret
   exact⟨8,rfl,(fun h=>by cases h),rfl⟩
 · have d1:decide (al<1)=false:=decide_eq_false h1
   by_cases h2:al>3
   · have d2:decide (al>3)=true:=decide_eq_true h2
     have d2':decide (3<al)=true:=decide_eq_true h2
     have d2'':3<al:=h2
     go_enter Tryz.func10,Tryz.ntmps10
     go_wp2
     go_ret
     exact⟨8,rfl,(fun h=>by cases h),rfl⟩
   · have h3:al=1∨al=2∨al=3:=by omega
     clear h1 h2 d1
     rcases h3 with rfl|rfl|rfl
     · by_cases h:key.length=32
       · have d3:((key.length:Int) !=32)=false:=by rw [h];rfl
         have HS:=Lib.hid (show SchOk 1 key from .inl ⟨rfl,h⟩)
         clear h
         go_enter Tryz.func10,Tryz.ntmps10
         go_wp2
         go_ret
         exact⟨0,rfl,fun _=>HS.out,rfl⟩
       · have d3:((key.length:Int) !=32)=true:=by simp;omega
         clear h
         go_enter Tryz.func10,Tryz.ntmps10
         go_wp2
         go_ret
         exact⟨2,rfl,(fun h=>by cases h),rfl⟩
     · have HS:=Lib.hid (fun h=>(show SchOk 2 key from .inr (.inl ⟨rfl,(right4_iff _).1 h⟩)))
       generalize right4 key.length=r at R4 HS
       cases r
       · go_enter Tryz.func10,Tryz.ntmps10
         go_wp2_with (go_at_call 23;(with_reducible refine(R4.out).mono ?_);rintro e_ w_ ⟨rfl,rfl⟩)
         go_ret
         exact⟨2,rfl,(fun h=>by cases h),rfl⟩
       · go_enter Tryz.func10,Tryz.ntmps10
         go_wp2_with (go_at_call 23;(with_reducible refine(R4.out).mono ?_);rintro e_ w_ ⟨rfl,rfl⟩)
         go_ret
         exact⟨0,rfl,(fun _=>by first|exact HS.out rfl|exact HS.out trivial|exact HS.out),rfl⟩
     · have HS:=Lib.hid (fun (h:rightL key=true)=>(show SchOk 3 key from .inr (.inr ⟨rfl,by simpa [rightL]using h⟩)))
       generalize rightL key=r at R5 HS
       cases r
       · go_enter Tryz.func10,Tryz.ntmps10
         go_wp2_with (go_at_call 24;(with_reducible refine(R5.out).mono ?_);rintro e_ w_ ⟨rfl,rfl⟩)
         go_ret
         exact⟨2,rfl,(fun h=>by cases h),rfl⟩
       · go_enter Tryz.func10,Tryz.ntmps10
         go_wp2_with (go_at_call 24;(with_reducible refine(R5.out).mono ?_);rintro e_ w_ ⟨rfl,rfl⟩)
         go_ret
         exact⟨0,rfl,(fun _=>by first|exact HS.out rfl|exact HS.out trivial|exact HS.out),rfl⟩
theorem lmay_any(al:Int)(key:List Byte)(p:Option Addr)(c:Nat)(w0:World):Calls Tryz.prog 4 #[.agg #[.int .i64 al, .slice p key.length c]] w0 fun e w'=>∃b:Bool,e= .returned (.bool b)∧(b=true→SchOk al key)∧Ext w0 w':=by
 have hm:=Own.start w0
 have WR:=Lib.hid fun w=>wrong_any al key p c w
 by_cases h:key.length≤200
 · have d1:decide ((key.length:Int)≤200)=true:=decide_eq_true (by omega)
   have d2:(key.length:Int)≤200:=by omega
   clear h
   go_enter Tryz.func4,Tryz.ntmps4
   go_wp2_with (first|((with_reducible apply wq_boxN (cs:=[.int .i64 al, .slice p key.length c]) hm);exact rfl;exact rfl;clear hm;intro gl w hm)|((with_reducible show qLd);first|((with_reducible apply wq_ld1 hm);exact rfl;infer_instance;exact rfl;(focus (repeat first|exact .hd|assumption|apply Has.tl);done);exact rfl)))
   refine(WR.out _).mono ?_
   rintro e_ w_ ⟨n,rfl,hn,rfl⟩
   by_cases h0:n=0
   · have d3:(n==0)=true:=by rw [h0];rfl
     have HN:=Lib.hid (hn h0)
     clear h0 hn
     go_wp2_with fail
     go_ret
     exact⟨true,rfl,fun _=>HN.out,hm.x⟩
   · have d3:(n==0)=false:=by rw [beq_eq_false_iff_ne];exact h0
     clear h0 hn
     go_wp2_with fail
     go_ret
     exact⟨false,rfl,(fun h=>by cases h),hm.x⟩
 · have d1:decide ((key.length:Int)≤200)=false:=decide_eq_false (by omega)
   have d2:¬(key.length:Int)≤200:=by omega
   clear h
   go_enter Tryz.func4,Tryz.ntmps4
   go_wp2_with (first|((with_reducible apply wq_boxN (cs:=[.int .i64 al, .slice p key.length c]) hm);exact rfl;exact rfl;clear hm;intro gl w hm)|((with_reducible show qLd);first|((with_reducible apply wq_ld1 hm);exact rfl;infer_instance;exact rfl;(focus (repeat first|exact .hd|assumption|apply Has.tl);done);exact rfl)))
   go_ret
   first|exact⟨false,rfl,(fun h=>by cases h),hm.x⟩|exact .inl ⟨rfl,hm.x⟩
theorem toptab_new(w0:World)(hc:Coef w0):Calls Tryz.prog 12 #[] w0 fun e w'=>∃g gb,e= .returned (.pointer (some ⟨g,0,none⟩))∧TabR g gb w'∧Ext w0 w':=by
 have HC:=Lib.hid hc
 clear hc
 go_enter Tryz.func12,Tryz.ntmps12
 go_wp2_with fail
 refine(make_new _).mono ?_
 rintro e w1 ⟨gb,rfl,hgb,hr,hx⟩
 go_wp2_with fail
 refine(tnew_new gb w1 hr (HC.out.ext hx)).mono ?_
 rintro e w2 ⟨g,rfl,hg,hr2,hx2⟩
 go_wp2
 go_ret
 exact⟨g,gb,rfl,⟨hr2,row_ext hr hx2⟩,hx.trans hx2⟩
theorem tbox_0(g gb:Nat)(w:World)(h:TabR g gb w):Calls Tryz.prog 22 #[.pointer (some ⟨g,0,none⟩), .int .u8 0] w fun e w'=>e= .returned (.int .u8 99)∧w=w':=by
 have:=tbox_any g gb 0#8 w h.1 h.2
 rwa [show v8 (bxTo 0#8)= .int .u8 99 from by kernel_rfl]at this
theorem tbox_1(g gb:Nat)(w:World)(h:TabR g gb w):Calls Tryz.prog 22 #[.pointer (some ⟨g,0,none⟩), .int .u8 1] w fun e w'=>e= .returned (.int .u8 124)∧w=w':=by
 have:=tbox_any g gb 1#8 w h.1 h.2
 rwa [show v8 (bxTo 1#8)= .int .u8 124 from by kernel_rfl]at this
theorem awakeT(w0:World)(hc:Coef w0):Gives Tryz.prog 9 #[] w0 (.bool true):=by
 unfold Gives
 have TT:=Lib.hid (toptab_new w0 hc)
 clear hc
 go_enter Tryz.func9,Tryz.ntmps9
 go_wp2_with fail
 refine(TT.out).mono ?_
 rintro e w ⟨g,gb,rfl,ht,hx⟩
 have T0:=Lib.hid (tbox_0 g gb w ht)
 have T1:=Lib.hid (tbox_1 g gb w ht)
 clear ht
 go_wp2_with fail
 refine(T0.out).mono ?_
 rintro e_ w_ ⟨rfl,rfl⟩
 go_wp2_with fail
 refine(T1.out).mono ?_
 rintro e_ w_ ⟨rfl,rfl⟩
 go_wp2_with fail
 go_ret
 exact⟨rfl,hx⟩
theorem gq_cellW {P:Program}{a:Act}{w:World}{dst:Option Tmp}{ty:TypeId}{pos:String}{aft:Array Edge}{gd:Option (Nat×Bool)}{T:TypeId}{x:Operand}{p:Addr}{v:Value}(hc:w.cell? p=some v)(hT:One1 P T)(hx:a.eval x= .pointer (some p)):gives P w (Is v) ((execOp a.eval (Oper.mk dst (.load T x) ty pos aft gd)).run P w):=by
 obtain⟨d,hu,hd⟩:=Option.map_eq_some_iff.1 hT.row
 have hagg:(isAgg T).run P w= .ok false w:=by
   unfold isAgg
   rw [Sem.run_bind,run_underlying hu w]
   cases d<;>simp_all
 have hr:(Instr.loadAt T (.pointer (some p))).run P w= .ok v w:=by simp [Instr.loadAt,Instr.sureAddr,loadVar,Sem.run_bind,hagg,hc]
 unfold execOp
 simp only [hx,Sem.run_bind,hr,Result.andThen_ok,Sem.run_pure]
 exact gives_same
def TabV:Slot:=fun v w=>∃g gb,v= .pointer (some ⟨g,0,none⟩)∧TabR g gb w
theorem TabV.stable:Stable TabV:=fun _ _ _ ⟨g,gb,h1,h2⟩ hx=>⟨g,gb,h1,h2.ext hx⟩
theorem toptab_R(w0:World)(hc:Coef w0):GivesR Tryz.prog 12 #[] w0 TabV:=(toptab_new w0 hc).mono fun _ _ ⟨g,gb,h1,h2,h3⟩=>⟨_,h1,⟨g,gb,rfl,h2⟩,h3⟩
def secN(s:List Byte):Nat:=(nth s 0).toNat%4
theorem secN_lt(s:List Byte):secN s<4:=Nat.mod_lt _ (by omega)
def filF(al:Int)(key:List Byte)(ws:List (List Byte)):Nat→List Byte
 |0=>stF al key 4
 |k+1=>stW al key (filF al key ws k) (secN (ws.getD k [])) ((ws.getD k []).drop 1)
theorem filF_length(al:Int)(key:List Byte)(ws:List (List Byte))(h:∀s∈ws,s.length=21)(k:Nat)(hk:k≤ws.length):(filF al key ws k).length=80:=by
 induction k with
 |zero=>exact stF_length al key 4 (by omega)
 | succ k ih=>
   have:(ws.getD k []).length=21:=by
     rw [List.getD_eq_getElem?_getD,List.getElem?_eq_getElem (by omega)];exact h _ (List.getElem_mem _)
   exact stW_length al key _ _ _ (ih (by omega)) (secN_lt _) (by rw [List.length_drop];omega)
def FormR(W:World)(al:Int)(key:List Byte)(g:Nat)(w:World):Prop:=∃w1 gt gc gs L gb,Ext W w1∧TabR gt gb w1∧Own w1 w (⟨gs,5,(stF al key 4).map v8⟩::⟨g,52,volC gt al gc gs (ldV 0)⟩::L)∧∀wx M,Own w1 wx (M++L)→CipR wx gc al key
theorem FormR.ext {W w w':World}{al:Int}{key:List Byte}{g:Nat}(h:FormR W al key g w)(hx:Ext w w'):FormR W al key g w':=by
 obtain⟨w1,gt,gc,gs,L,gb,h1,h2,h3,h4⟩:=h
 exact⟨w1,gt,gc,gs,L,gb,h1,h2,h3.ext hx,h4⟩
def FormT(W:World)(al:Int)(key:List Byte):Slot:=fun v w=>∃g,v= .tuple #[.pointer (some ⟨g,0,none⟩), .int .i64 0]∧FormR W al key g w
theorem FormT.stable(W:World)(al:Int)(key:List Byte):Stable (FormT W al key):=fun _ _ _ ⟨g,h1,h2⟩ hx=>⟨g,h1,h2.ext hx⟩
def FormP(W:World)(al:Int)(key:List Byte):Slot:=fun v w=>∃g,v= .pointer (some ⟨g,0,none⟩)∧FormR W al key g w
theorem FormP.stable(W:World)(al:Int)(key:List Byte):Stable (FormP W al key):=fun _ _ _ ⟨g,h1,h2⟩ hx=>⟨g,h1,h2.ext hx⟩
theorem sec_at {w:World}{A:Addr}{ws:List (List Byte)}(h:RdK w (some A) 21 ws)(k:Nat)(hk:k<ws.length):w.cell? (A.add (k*21))=some (v8 (nth (ws.getD k []) 0))∧RdB w (some ((A.add (k*21)).add 1)) ((ws.getD k []).drop 1)∧(ws.getD k []).length=21:=by
 obtain⟨h1,h2⟩:=h.at (by omega) k hk
 refine⟨?_,RdB.drop h1 1,h2⟩
 have:=h1.at 0 (by omega)
 rwa [show((some (((some A).getD default).add (k*21)):Option Addr).getD default).add 0=A.add (k*21)from addr_zero _]at this
theorem filled_own(al:Int)(key:List Byte)(hk:SchOk al key)(p:Option Addr)(c:Nat)(hc:key.length≤c)(ws:List (List Byte))(q:Option Addr)(d:Nat)(hn:ws.length≤10)(hd:ws.length≤d)(w0:World)(hcf:Coef w0)(hcb:CoefB w0)(hr:RdB w0 p key)(hs:RdK w0 q 21 ws):
   Calls Tryz.prog 5 #[.agg #[.int .i64 al, .slice p key.length c], .slice q ws.length d] w0 fun e w'=>∃w1 g gt gc gs L gb,e= .returned (.pointer (some ⟨g,0,none⟩))∧Ext w0 w1∧TabR gt gb w1∧Own w1 w' (⟨gs,5,(filF al key ws ws.length).map v8⟩::⟨g,52,volC gt al gc gs (ldV ws.length)⟩::L)∧∀wx M,Own w1 wx (M++L)→CipR wx gc al key:=by
 have hm:=Own.start w0
 have TT:=Lib.hid fun w (hx:Ext w0 w)=>toptab_R w (hcf.ext hx)
 have FM:=Lib.hid fun (gt gb:Nat)(w:World)(hx:Ext w0 w)(ht:TabR gt gb w)=>(show GivesR Tryz.prog 11 #[.pointer (some ⟨gt,0,none⟩), .agg #[.int .i64 al, .int .i64 20, .int .i64 4], .slice p key.length c] w (FormT w0 al key)from
   (vformat_any gt gb al key hk p c hc w (hr.ext hx) ht (hcb.ext hx)).mono fun e w' ⟨g,gc,gs,L,h1,h2,h3⟩=>⟨_,h1,⟨g,rfl,w,gt,gc,gs,L,gb,hx,ht,h2,h3⟩,h2.x⟩)
 have HS:=Lib.hid fun (w:World)(hx:Ext w0 w)=>hs.ext hx
 obtain⟨TL,hTL⟩:∃x,x=key.length:=⟨_,rfl⟩
 rw [←hTL]at FM⊢
 obtain⟨NN,hNN⟩:∃x,x=ws.length:=⟨_,rfl⟩
 rw [←hNN]at hd hn⊢
 clear hcf hcb hr hs hc hk hTL
 have HN:=Lib.hid hNN
 clear hNN
 go_enter Tryz.func5,Tryz.ntmps5
 go_wp2_with (first|((with_reducible apply wq_boxN (cs:=[.int .i64 al, .slice p TL c]) hm);exact rfl;exact rfl;clear hm;intro gl w hm))
 have hx0:=hm.x
 refine region_new 11 (fun w'=>Ext _ w') 39 (by kernel_rfl) (by kernel_rfl) rfl (fun _ _ h k=>h.trans k) (drew_ext _) ?_
 simp only [tSC,List.take_zero,dSC,List.drop_zero,List.map_cons,List.map_nil]
 repeat (first
     |(apply walk_some TabV 9 TabV.stable rfl rfl rfl rfl;(intro wx hwx;go_simp;with_reducible exact gives_callR (TT.out wx (hx0.trans hwx))))
     | (apply walk_from_some (T:=[(9,TabV)]) (FormT w0 al key) 15 (FormT.stable _ _ _) rfl rfl rfl
        · (intro wx hwx;simp only [withS];(rintro x_ ⟨gt_,gb_,rfl,ht_⟩);refine⟨rfl, ?_⟩;go_simp;with_reducible exact gives_callR (FM.out _ _ wx (hx0.trans hwx) ht_)))
     | (apply walk_from_some (T:=[(15,FormT w0 al key)]) (FormT w0 al key) 8 (FormT.stable _ _ _) rfl rfl rfl
        · (intro wx hwx;simp only [withS];(rintro x_ ⟨g_,rfl,h_⟩);refine⟨rfl, ?_⟩;go_simp;exact gives_val (Ext.refl _) ⟨g_,rfl,h_⟩))
     | (apply walk_from_some (T:=[(8,FormT w0 al key)]) (FormP w0 al key) 16 (FormP.stable _ _ _) rfl rfl rfl
        · (intro wx hwx;simp only [withS];(rintro x_ ⟨g_,rfl,h_⟩);refine⟨rfl, ?_⟩;go_simp;exact gives_val (V:=FormP w0 al key) (Ext.refl _) ⟨g_,rfl,h_⟩))
     | (apply walk_from (T:=[(8,FormT w0 al key)]) rfl rfl
        · (intro wx hwx;simp only [withS];(rintro x_ ⟨g_,rfl,h_⟩);refine⟨rfl, ?_⟩;go_simp;exact gives_same)
        · (simp only [Act.put,sIB,sCS,sCZ];rfl))
     | (apply walk_from_some (T:=[(16,FormP w0 al key)]) (FormP w0 al key) 5 (FormP.stable _ _ _) rfl rfl rfl
        · (intro wx hwx;simp only [withS];(rintro x_ ⟨g_,rfl,h_⟩);refine⟨rfl, ?_⟩;go_simp;exact gives_val (V:=FormP w0 al key) (Ext.refl _) ⟨g_,rfl,h_⟩))
     | (apply walk_is rfl rfl rfl
        · (intro wx hwx;first|((with_reducible show gives _ _ _ (Sem.run _ (execOp _ (Oper.mk _ (Op.load _ _) _ _ _ _)) _));first|((with_reducible apply gq_ld1 (hm.ext hwx));infer_instance;exact rfl;(focus (repeat first|exact .hd|assumption|apply Has.tl);done);exact rfl))|(go_simp;(try go_bits);first|exact gives_same|exact gives_skip))
        · (simp only [Act.put,sIB,sCS,sCZ];rfl))
     | (apply walk_not rfl rfl rfl
        · (simp only [Act.put,sIB,sCS,sCZ];rfl)))
 intro wz hwz
 simp only [zCC,zNR]
 repeat rw [fin_is]
 rw [fin_cons];intro x9 hx9
 repeat rw [fin_is]
 rw [fin_cons];intro x15 hx15
 repeat rw [fin_is]
 rw [fin_cons];intro x8 hx8
 repeat rw [fin_is]
 rw [fin_cons];intro x16 hx16
 repeat rw [fin_is]
 rw [fin_cons];intro x5 hx5
 repeat rw [fin_is]
 rw [fin_nil];intro hap
 simp only [Act.put,sIB,sCS,sCZ]at hap⊢
 obtain⟨g,rfl,w1,gt,gc,gs,L,gb,hx1,htb,hm1,hci⟩:=hx5
 clear hm hx0 hap hx9 hx15 hx8 hx16 TT FM
 have hm:=hm1
 have HX1:=Lib.hid hx1
 have HCI:=Lib.hid hci
 have HTB:=Lib.hid htb
 clear hm1 hx1 hci htb
 go_wp2_with fail
 go_loopw [7] (fun i wr=>∃k:Nat,k≤NN∧i= .int .i64 (k:Int)∧Own w1 wr (⟨gs,5,(filF al key ws k).map v8⟩::⟨g,52,volC gt al gc gs (ldV k)⟩::L)) (fun i _=>NN-(intOf i).toNat)
 case atStart=>exact⟨0,by omega,rfl,hm⟩
 case round =>
   obtain⟨k,hk,rfl,hm⟩:=hrel
   by_cases hlt:k<NN
   · have hd1:decide ((k:Int)<(NN:Int))=true:=decide_eq_true (by omega)
     have hd2:(k:Int)<(NN:Int):=by omega
     have hb:0≤(k:Int)∧(k:Int)<(NN:Int):=⟨by omega,hd2⟩
     have hs1:=HS.out w1 HX1.out
     obtain⟨A,rfl⟩:=Option.isSome_iff_exists.1 (hs1.2.1 (by rw [flatten_length 21 ws hs1.1,←HN.out];omega))
     have sA:=fun (wx:World)(hx:Ext w1 wx)=>sec_at (HS.out wx (HX1.out.trans hx)) k (by rw [←HN.out];exact hlt)
     have FK:=Lib.hid (show stW al key (filF al key ws k) (secN (ws.getD k [])) ((ws.getD k []).drop 1)=filF al key ws (k+1)from rfl)
     have LK:=Lib.hid (filF_length al key ws hs1.1 k (by rw [←HN.out];exact hk))
     obtain⟨s,hs⟩:∃s,s=ws.getD k []:=⟨_,rfl⟩
     rw [←hs]at sA FK
     have SA:=Lib.hid sA
     clear hs sA
     have AE:=Lib.hid (show(A.add (k*21)).add 1=⟨(A.add (k*21)).block,(A.add (k*21)).off+1,none⟩from rfl)
     have WR:=Lib.hid fun (wx:World)(ho:Own w1 wx (⟨gs,5,(filF al key ws k).map v8⟩::⟨g,52,volC gt al gc gs (ldV k)⟩::L))=>
       vowrite_any g gt gc gs (secN s) k al key (filF al key ws k) (s.drop 1) LK.out (secN_lt s) (by rw [List.length_drop,(SA.out w1 (Ext.refl _)).2.2]) (by omega) (some ((A.add (k*21)).add 1)) 20 w1 wx L ho (fun wy hy=>(SA.out wy hy).2.1) HCI.out
     rw [FK.out,AE.out]at WR
     clear hs1
     have hmx:=hm.x
     go_wp2_with fail
     have GC:=Lib.hid fun wx (hwx:Ext wr wx)=>(SA.out wx (hmx.trans hwx)).1
     refine region_at 13 (fun w'=>Ext _ w') 39 (by kernel_rfl) (by kernel_rfl) rfl (fun _ _ h k=>h.trans k) (drew_ext _) ?_
     simp only [tSC,List.take_zero,dSC,List.drop_zero,List.map_cons,List.map_nil]
     repeat (first
         |(apply walk_is rfl rfl rfl;(intro wx hwx;(with_reducible apply gq_cellW (GC.out wx hwx));infer_instance;exact rfl);(simp only [Act.put,sIB,sCS,sCZ];rfl))
         | (apply walk_is rfl rfl rfl
            · (intro wx hwx;go_simp;(try go_bits);first|exact gives_same|exact gives_skip)
            · (simp only [Act.put,sIB,sCS,sCZ];rfl))
         | (apply walk_not rfl rfl rfl
            · (simp only [Act.put,sIB,sCS,sCZ];rfl)))
     intro wz hwz
     simp only [zCC,zNR]
     repeat (first|rw [fin_is]|(rw [fin_cons];intro _ _))
     rw [fin_nil]
     try (replace hm:=hm.ext hwz)
     simp only [Act.put,sIB,sCS,sCZ]
     go_wp2_with fail
     refine(WR.out _ hm).mono ?_
     rintro e_ w ⟨rfl,hm2⟩
     go_wp2_with fail
     go_roundw
     case rel=>exact⟨k+1,by omega,by go_num,hm2⟩
     case measure=>simp [intOf]<;>omega
   · obtain rfl:k=NN:=by omega
     have hd1:decide ((k:Int)<(k:Int))=false:=decide_eq_false (by omega)
     go_wp2_with fail
     go_ret
     refine⟨w1,g,gt,gc,gs,L,gb,rfl,HX1.out,HTB.out, ?_,HCI.out⟩
     first|exact hm|(rw [←HN.out];exact hm)
theorem filled_any(al:Int)(key:List Byte)(hk:SchOk al key)(p:Option Addr)(c:Nat)(hc:key.length≤c)(ws:List (List Byte))(q:Option Addr)(d:Nat)(hn:ws.length≤10)(hd:ws.length≤d)(w0:World)(hcf:Coef w0)(hcb:CoefB w0)(hr:RdB w0 p key)(hs:RdK w0 q 21 ws):
   Calls Tryz.prog 5 #[.agg #[.int .i64 al, .slice p key.length c], .slice q ws.length d] w0 fun e w'=>∃g gt gc gs ld,e= .returned (.pointer (some ⟨g,0,none⟩))∧Row w' g 52 (volC gt al gc gs ld)∧RdB w' (some ⟨gs,0,none⟩) (filF al key ws ws.length)∧Ext w0 w':=
 (filled_own al key hk p c hc ws q d hn hd w0 hcf hcb hr hs).mono fun e w' ⟨w1,g,gt,gc,gs,L,gb,h1,h2,h3,h4,h5⟩=>⟨g,gt,gc,gs,_,h1,h4.row (.tl .hd),h4.rdB (g:=gs) .hd,h2.trans h4.x⟩
theorem alike_any(g gs g' gs':Nat)(VC VC':List Value)(hV:VolK VC gs)(hV':VolK VC' gs')(st:List Byte)(hl:st.length=80)(w0:World)(h1:Row w0 g 52 (VC))(h2:RdB w0 (some ⟨gs,0,none⟩) st)(h3:Row w0 g' 52 (VC'))(h4:RdB w0 (some ⟨gs',0,none⟩) st):
   Gives Tryz.prog 8 #[.pointer (some ⟨g,0,none⟩), .pointer (some ⟨g',0,none⟩)] w0 (.bool true):=by
 unfold Gives
 have R1:=Lib.hid fun (k:Nat)(hk:k<4)(w:World)(hx:Ext w0 w)=>vraw_any g gs k VC hV st hl hk w (row_ext h1 hx) (h2.ext hx)
 have R2:=Lib.hid fun (k:Nat)(hk:k<4)(w:World)(hx:Ext w0 w)=>vraw_any g' gs' k VC' hV' st hl hk w (row_ext h3 hx) (h4.ext hx)
 have LP:=Lib.hid fun k (hk:k<4)=>(show((st.drop (k*20)).take 20).length=20 from by simp only [List.length_take,List.length_drop];omega)
 have hx:=Ext.refl w0
 clear h1 h2 h3 h4 hl hV hV'
 go_enter Tryz.func8,Tryz.ntmps8
 go_wp2_with fail
 go_loopw [5] (fun i wr=>∃k:Nat,k≤4∧i= .int .i64 (k:Int)∧Ext w0 wr) (fun i _=>4-(intOf i).toNat)
 case atStart=>exact⟨0,by omega,rfl,hx⟩
 case round=>
   obtain⟨k,hk,rfl,hx⟩:=hrel
   by_cases hlt:k<4
   · have hd1:decide ((k:Int)<4)=true:=decide_eq_true (by omega)
     have hd2:(k:Int)<4:=by omega
     have Q1:=Lib.hid (R1.out k hlt)
     have Q2:=Lib.hid (R2.out k hlt)
     have LX:=LP.out k hlt
     obtain⟨X,hX⟩:∃x,x=(st.drop (k*20)).take 20:=⟨_,rfl⟩
     rw [←hX]at Q1 Q2 LX
     clear hX
     go_wp2_with fail
     refine(Q1.out _ hx).mono ?_
     rintro e_ w ⟨p1,c1,rfl,hr1,hx1⟩
     replace hx:=hx.trans hx1
     clear hx1
     go_wp2_with fail
     refine(Q2.out _ hx).mono ?_
     rintro e_ w ⟨p2,c2,rfl,hr2,hx2⟩
     have hr3:=hr1.ext hx2
     have s1:=conv_str p1 X c1 w hr3
     have s2:=conv_str p2 X c2 w hr2
     rw [LX]at s1 s2
     have hx3:=hx.trans hx2
     clear hx2 hr1 hx
     go_wp2_with fail
     go_roundw
     case rel=>exact⟨k+1,by omega,by go_num,hx3⟩
     case measure=>simp [intOf]<;>omega
   · obtain rfl:k=4:=by omega
     have hd1:decide (((4:Nat):Int)<4)=false:=by decide
     go_wp2_with fail
     go_ret
     exact⟨rfl,hx⟩
def secO(st:List Byte)(k:Nat):List Byte:=(st.drop (k*20)).take 20
theorem secO_all (a b : List Byte) (ha : a.length=80)(hb:b.length=80)(h:∀k,k<4→secO a k=secO b k):a=b:=by
 have e : ∀ x : List Byte, x.length = 80 → x =secO x 0++(secO x 1++(secO x 2++secO x 3)):=fun x hx=>by
   have h3:x.drop 60=secO x 3:=by rw [secO,List.take_of_length_le (by rw [List.length_drop];omega)]
   have h2:x.drop 40=secO x 2++x.drop 60:=by rw [secO];conv=>lhs;rw [←List.take_append_drop 20 (x.drop 40)];rw [List.drop_drop]
   have h1:x.drop 20=secO x 1++x.drop 40:=by rw [secO];conv=>lhs;rw [←List.take_append_drop 20 (x.drop 20)];rw [List.drop_drop]
   have h0 : x = secO x 0 ++ x.drop 20 := by rw [secO];conv=>lhs;rw [←List.take_append_drop 20 x]
                                             rfl
   rw [←h3,←h2,←h1,←h0]
 rw [e a ha,e b hb,h 0 (by omega),h 1 (by omega),h 2 (by omega),h 3 (by omega)]
theorem secO_put(st x:List Byte)(n k:Nat)(hl:st.length=80)(hx:x.length=20)(hn:n<4)(hk:k<4):secO (stP st (n*20) x) k=if k=n then x else secO st k:=by
 apply List.ext_getElem?
 intro i
 have l1:(stP st (n*20) x).length=80:=(stP_length _ _ _ (by omega)).trans hl
 have l2:(st.take (n*20)).length=n*20:=by rw [List.length_take];omega
 by_cases hi:i<20
 · rw [secO,List.getElem?_take_of_lt hi,List.getElem?_drop,stP,List.append_assoc]
   by_cases h1:k=n
   · subst h1
     rw [if_pos rfl,List.getElem?_append_right (by omega),l2,List.getElem?_append_left (by omega)]
     congr 1;omega
   · rw [if_neg h1,secO,List.getElem?_take_of_lt hi,List.getElem?_drop]
     rcases Nat.lt_or_gt_of_ne h1 with h2|h2
     · rw [List.getElem?_append_left (by omega),List.getElem?_take_of_lt (by omega)]
     · rw [List.getElem?_append_right (by omega),l2,List.getElem?_append_right (by omega),List.getElem?_drop]
       congr 1;omega
 · rw [List.getElem?_eq_none (by rw [secO,List.length_take];omega),List.getElem?_eq_none (by split;omega;rw [secO,List.length_take];omega)]
theorem secO_length(st:List Byte)(k:Nat)(hl:st.length=80)(hk:k<4):(secO st k).length=20:=by
 rw [secO,List.length_take,List.length_drop];omega
def eN4(al:Int)(key:List Byte)(k:Nat)(b:List Byte):List Byte:=wideE al key (twL k) b
theorem secO_turn(al:Int)(key st:List Byte)(n k:Nat)(hl:st.length=80)(hn:n<4)(hk:k<4):secO (stT al key st n) k=if k=n then eN4 al key n (secO st n)else secO st k:=by
 have h:=secO_length st n hl hn
 exact secO_put st _ n k hl (by rw [wideE_length _ _ _ _ (by rw [show((st.drop (n*20)).take 20)=secO st n from rfl,h];omega)];exact h) hn hk
theorem secO_write(al:Int)(key st b:List Byte)(n k:Nat)(hl:st.length=80)(hb:b.length=20)(hn:n<4)(hk:k<4):secO (stW al key st n b) k=if k=n then eN4 al key n b else secO st k:=by
 rw [stW,secO_turn al key _ n k ((stP_length _ _ _ (by omega)).trans hl) hn hk,secO_put st b n n hl hb hn hn,if_pos rfl,secO_put st b n k hl hb hn hk]
 split<;>rfl
theorem secO_zeros(k:Nat)(hk:k<4):secO (zeros 80) k=zeros 20:=by
 match k,hk with
 |0,_=>rfl
 |1,_=>rfl
 |2,_=>rfl
 |3,_=>rfl
theorem secO_F(al:Int)(key:List Byte)(m k:Nat)(hm:m≤4)(hk:k<4):secO (stF al key m) k=if k<m then eN4 al key k (zeros 20)else zeros 20:=by
 induction m with
 |zero=>rw [if_neg (by omega)];exact secO_zeros k hk
 | succ m ih=>
   rw [stF,secO_turn al key _ m k (stF_length al key m (by omega)) (by omega) hk]
   by_cases h:k=m
   · subst h
     rw [if_pos rfl,if_pos (by omega),ih (by omega),if_neg (by omega)]
   · rw [if_neg h,ih (by omega)]
     by_cases h2:k<m
     · rw [if_pos h2,if_pos (by omega)]
     · rw [if_neg h2,if_neg (by omega)]
def lwF(ws:List (List Byte))(n:Nat):Nat→Option (List Byte)
 |0=>none
 |k+1=>if secN (ws.getD k [])=n then some (ws.getD k [])else lwF ws n k
def lwW(ws:List (List Byte))(n:Nat):Option (List Byte):=lwF ws n ws.length
def eW(al:Int)(key:List Byte)(k:Nat):Option (List Byte)→List Byte
 |none=>eN4 al key k (zeros 20)
 |some s=>eN4 al key k (s.drop 1)
theorem secO_fil(al:Int)(key:List Byte)(ws:List (List Byte))(h:∀s∈ws,s.length=21)(m k:Nat)(hm:m≤ws.length)(hk:k<4):secO (filF al key ws m) k=eW al key k (lwF ws k m):=by
 induction m with
 |zero=>rw [filF,secO_F al key 4 k (by omega) hk,if_pos hk];rfl
 | succ m ih=>
   have hs:(ws.getD m []).length=21:=by
     rw [List.getD_eq_getElem?_getD,List.getElem?_eq_getElem (by omega)];exact h _ (List.getElem_mem _)
   rw [filF,secO_write al key _ _ _ k (filF_length al key ws h m (by omega)) (by rw [List.length_drop];omega) (secN_lt _) hk,lwF]
   by_cases h1:k=secN (ws.getD m [])
   · rw [if_pos h1,if_pos h1.symm,←h1];rfl
   · rw [if_neg h1,if_neg (fun h2=>h1 h2.symm),ih (by omega)]
theorem lwF_none(ws:List (List Byte))(n m:Nat)(h:∀j,j<m→secN (ws.getD j [])≠n):lwF ws n m=none:=by
 induction m with
 |zero=>rfl
 |succ m ih=>rw [lwF,if_neg (h m (by omega)),ih fun j hj=>h j (by omega)]
theorem lwF_some(ws:List (List Byte))(n i m:Nat)(hi:i<m)(hs:secN (ws.getD i [])=n)(h:∀j,i<j→j<m→secN (ws.getD j [])≠n):lwF ws n m=some (ws.getD i []):=by
 induction m with
 |zero=>omega
 | succ m ih=>
   rw [lwF]
   by_cases h1:i=m
   · subst h1;rw [if_pos hs]
   · rw [if_neg (h m (by omega) (by omega)),ih (by omega) fun j a b=>h j a (by omega)]
theorem lwF_app(ls:List (List Byte))(s:List Byte)(n m:Nat)(hm:m≤ls.length):lwF (ls++[s]) n m=lwF ls n m:=by
 induction m with
 |zero=>rfl
 | succ m ih=>
   have:(ls++[s]).getD m []=ls.getD m []:=by
     rw [List.getD_eq_getElem?_getD,List.getD_eq_getElem?_getD,List.getElem?_append_left (by omega)]
   rw [lwF,lwF,this,ih (by omega)]
theorem lwW_app(ls:List (List Byte))(s:List Byte)(n:Nat):lwW (ls++[s]) n=if secN s=n then some s else lwW ls n:=by
 have:(ls++[s]).getD ls.length []=s:=by
   rw [List.getD_eq_getElem?_getD,List.getElem?_append_right (Nat.le_refl _),Nat.sub_self];rfl
 rw [lwW,List.length_append,List.length_singleton,lwF,this,lwF_app ls s n _ (Nat.le_refl _)]
 rfl
def TopI(ws:List (List Byte))(x:Int)(k:Nat)(ls:List (List Byte)):Prop:=
 k=ls.length∧(∀s∈ls,s.length=21)∧(k:Int)≤3-x∧-1≤x∧x≤3∧(∀n:Nat,n<4→x<(n:Int)→lwW ls n=lwW ws n)∧∀n:Nat,(n:Int)≤x→lwW ls n=none
theorem TopI.start(ws:List (List Byte)):TopI ws 3 0 []:=
 ⟨rfl,by simp,by omega,by omega,by omega,fun n h1 h2=>by omega,fun n _=>rfl⟩
theorem TopI.skip {ws ls:List (List Byte)}{x:Int}{k:Nat}(h:TopI ws x k ls)(hx:0≤x)(hn:∀j:Nat,j<ws.length→(secN (ws.getD j []):Int)≠x):TopI ws (x-1) k ls:=by
 obtain⟨h1,h2,h3,h4,h5,h6,h7⟩:=h
 refine⟨h1,h2,by omega,by omega,by omega,fun n a b=> ?_,fun n a=>h7 n (by omega)⟩
 by_cases hq:(n:Int)=x
 · rw [h7 n (by omega),lwW,lwF_none ws n _ fun j hj e=>hn j hj (by omega)]
 · exact h6 n a (by omega)
theorem TopI.add {ws ls:List (List Byte)}{x:Int}{k:Nat}(h:TopI ws x k ls)(hx:0≤x)(i:Nat)(hi:i<ws.length)(hl:(ws.getD i []).length=21)(hs:(secN (ws.getD i []):Int)=x)(hn:∀j:Nat,i<j→j<ws.length→(secN (ws.getD j []):Int)≠x):TopI ws (x-1) (k+1) (ls++[ws.getD i []]):=by
 obtain⟨h1,h2,h3,h4,h5,h6,h7⟩:=h
 refine⟨by rw [List.length_append,List.length_singleton,h1],fun s hs=> ?_,by omega,by omega,by omega,fun n a b=> ?_,fun n a=> ?_⟩
 · rcases List.mem_append.1 hs with h|h
   · exact h2 s h
   · rw [List.mem_singleton.1 h];exact hl
 · rw [lwW_app]
   by_cases hq:(n:Int)=x
   · rw [if_pos (by omega),lwW,lwF_some ws n i _ hi (by omega) fun j a b e=>hn j a b (by omega)]
   · rw [if_neg (by omega)];exact h6 n a (by omega)
 · rw [lwW_app,if_neg (by omega)];exact h7 n (by omega)
theorem TopI.all {ws ls:List (List Byte)}{x:Int}{k:Nat}(h:TopI ws x k ls)(hx:¬0≤x):∀n,n<4→lwW ls n=lwW ws n:=fun n hn=>h.2.2.2.2.2.1 n hn (by omega)
theorem TopI.len {ws ls:List (List Byte)}{x:Int}{k:Nat}(h:TopI ws x k ls):k=ls.length∧k≤4:=⟨h.1,by have:=h.2.2.1;have:=h.2.2.2.1;omega⟩
instance elemSec:Elem Tryz.prog 47 21 21:=Elem.of (by kernel_rfl) (by omega)
end Go.Proofs.YtllnjbiebdkmbaaGreatDoor
