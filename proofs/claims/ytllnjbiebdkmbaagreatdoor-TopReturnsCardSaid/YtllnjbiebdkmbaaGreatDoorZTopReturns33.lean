/-
  Texts of the program, walked, and plain ones. Conditions: those written in each theorem.
-/
import Derived.Test.YtllnjbiebdkmbaaGreatDoorZTopReturns0
import Derived.Test.YtllnjbiebdkmbaaGreatDoorZTopReturns32
import Derived.Test.YtllnjbiebdkmbaaGreatDoorZTopReturns16
set_option linter.unusedSimpArgs false
set_option linter.unusedVariables false
set_option maxHeartbeats 16000000
namespace Go.Proofs.YtllnjbiebdkmbaaGreatDoor
open Go Go.RowKit Go.ChangeShapes Go.WideShapes Go.ChangeAt Go.Deep
set_option maxRecDepth 100000
section
variable {H:Type} {enc:TypeId×Value→H} {P:Program} {w:World} {T e:TypeId} {cs:List Value}
theorem Trd.blocksG {n:Nat}(ht:P.underlying T=some (.slice e))(hc:P.cellsOf e=n)(HB:∀cs',Trd enc P w e cs'→∃l:List Byte,l.length=n∧cs'=l.map v8)(hn:0<n)(h:Trd enc P w T cs):
   ∃(p:Option Addr)(ks:List (List Byte))(c:Nat),cs=[.slice p ks.length c]∧RdK w p n ks∧ks.length≤c∧ks.length≤maxLen:=by
 obtain⟨f,x,hf⟩:=h
 rcases open_slice ht hf with ⟨rfl,_⟩|⟨a,len,cap,m,n',D,Pl,rfl,_,hl,hm,hmm,_,hel⟩
 · exact⟨none,[],0,rfl,⟨by simp,RdB.nil _ _⟩,Nat.le_refl _,by simp⟩
 · simp only [if_true]at hmm
   rw [hc]at hel
   have key:∀k,k≤len→∃ks:List (List Byte),ks.length=k∧(∀x∈ks,x.length=n)∧∀i,i<k→∀j,j<n→w.cell? (a.add (i*n+j))=some (v8 ((ks.getD i []).getD j 0)):=by
     intro k
     induction k with
     |zero=>intro _;exact⟨[],rfl,by simp,by intros;omega⟩
     | succ k ih=>
       intro hk
       obtain⟨ks,h1,h2,h3⟩:=ih (by omega)
       obtain⟨cs',hcs,htr⟩:=hel k (by omega)
       obtain⟨l,hl1,rfl⟩:=HB cs' ⟨n',_,htr⟩
       obtain⟨_,_,hcell⟩:=World.cells?_some hcs
       refine⟨ks++[l],by simp [h1],fun x hx=> ?_,fun i hi j hj=> ?_⟩
       · rcases List.mem_append.1 hx with hx|hx
         · exact h2 x hx
         · rw [List.mem_singleton.1 hx,hl1]
       · by_cases hik:i<k
         · have:(ks++[l]).getD i []=ks.getD i []:=by simp [List.getElem?_append_left (show i<ks.length by omega)]
           rw [this];exact h3 i hik j hj
         · have hik':i=ks.length:=by omega
           have:(ks++[l]).getD i []=l:=by subst hik';simp
           rw [this]
           have hik2:i=k:=by omega
           subst hik2
           have:=hcell j hj
           rw [List.getElem?_map,List.getElem?_eq_getElem (by omega)]at this
           have e:(a.add (i*n)).add j=a.add (i*n+j):=by unfold Addr.add;split<;>split<;>simp_all<;>omega
           rw [e]at this
           rw [this];simp [show j<l.length by omega]
   obtain⟨ks,h1,h2,h3⟩:=key len (Nat.le_refl _)
   subst h1
   refine⟨some a,ks,cap,rfl,⟨h2,fun _=>rfl,fun i hi=> ?_⟩,hl,by omega⟩
   rw [flatten_length n ks h2]at hi
   have hlt:i/n<ks.length:=by rw [Nat.div_lt_iff_lt_mul hn];exact hi
   have hmod:i%n<n:=Nat.mod_lt _ hn
   have e:i/n*n+i%n=i:=by rw [Nat.mul_comm];exact Nat.div_add_mod i n
   have:=h3 (i/n) hlt (i%n) hmod
   rw [e]at this
   simp only [Option.getD_some]
   rw [this]
   have:=flatten_getD n ks (i/n) (i%n) h2 hlt hmod
   rw [e]at this
   rw [this]
end
section
variable {H:Type} {enc:TypeId×Value→H} {w:World} {cs:List Value}
theorem sec_trd(h:Trd enc Tryz.prog w 47 cs):∃l:List Byte,l.length=21∧cs=l.map v8:=by
 obtain⟨hl,g⟩:=h.struct Tryz.underlying47 (by kernel_rfl) (m:=21)
 have f0:Trd enc Tryz.prog w 5 ((cs.drop 0).take 1):=Trd.field g (i:=0) (off:=0) (n:=1) (by kernel_rfl) (by kernel_rfl)
 have f1:Trd enc Tryz.prog w 45 ((cs.drop 1).take 20):=Trd.field g (i:=1) (off:=1) (n:=20) (by kernel_rfl) (by kernel_rfl)
 obtain⟨x,e0⟩:=f0.u8 Tryz.underlying5
 obtain⟨l,hl1,e1⟩:=f1.arr8 Tryz.underlying45 Tryz.underlying5 (by kernel_rfl) (by kernel_rfl)
 refine⟨x::l,by rw [List.length_cons,hl1], ?_⟩
 rw [List.drop_zero]at e0
 rw [List.take_of_length_le (by rw [List.length_drop];omega)]at e1
 rw [←List.take_append_drop 1 cs,e0,e1]
 rfl
variable {r:Reach} {b0:Nat} {v:Value} {d:DataW H} {ps:List MemPlace}
theorem val_secs(hval:Value.okWide Tryz.prog w r b0 25 v)(h:DataW.Trod enc Tryz.prog w 0 (fun _=>true) true 25 v d ps):
   ∃(p:Option Addr)(ks:List (List Byte))(c:Nat),v= .slice p ks.length c∧RdK w p 21 ks∧ks.length≤c∧ks.length≤maxLen:=by
 obtain⟨a,m,c,rfl⟩:=okWide_slice Tryz.underlying25 hval
 obtain⟨p,l,c',e,h1⟩:=((Trd.of h).cells (cs:=[.slice a m c]) rfl).blocksG Tryz.underlying25 (e:=47) (n:=21) (by kernel_rfl) (fun cs' h=>sec_trd h) (by omega)
 exact⟨p,l,c',(List.cons.inj e).1,h1⟩
end
open Go Go.RowKit
theorem rdB_setRow {w:World}{g:Nat}{t:TypeId}{u:Value}(h:Row w g t [u])(hu:∀b:Byte,u≠v8 b)(cs:Array Value)(p:Option Addr)(l:List Byte)(hr:RdB w p l):RdB (w.setRow g cs) p l:=
 ⟨hr.1,fun i hi=>by
   have hc:=hr.2 i hi
   have hne:((p.getD default).add i).block≠g:=by
     intro e
     have hc':(if ((p.getD default).add i).spot.isSome then none else #[u][((p.getD default).add i).off]?)=some (v8 (l.getD i 0)):=by
       have h2:=hc
       unfold World.cell? at h2
       unfold Row at h
       rw [e,h]at h2
       exact h2
     by_cases hs:((p.getD default).add i).spot.isSome
     · rw [if_pos hs]at hc';cases hc'
     · rw [if_neg hs]at hc'
       cases hq:((p.getD default).add i).off with
       |zero=>rw [hq]at hc';simp at hc';exact hu _ hc'
       |succ k=>rw [hq]at hc';simp at hc'
   unfold World.cell? at hc⊢
   rw [setRow_other w g _ cs hne];exact hc⟩
theorem wq_st1R {P:Program}{ops:Array Oper}{Q:Exit→Act→World→Prop}{rest:List Oper}{dst:Option Tmp}{ty:TypeId}{pos:String}{aft:Array Edge}{gd:Option (Nat×Bool)}{a:Act}{w0 w:World}{L L':List Blk}{T t:TypeId}{x y:Operand}{g:Nat}{u v:Value}(hu:∀b:Byte,u≠v8 b)(hm:Own w0 w L)(hgd:Region.wanted (Oper.mk dst (.store T x y) ty pos aft gd) (yielded ops a.tmps)=true)(hT:One1 P T)(hx:a.eval x= .pointer (some ⟨g,0,none⟩))(hy:a.eval y=v)(hval:v.cells= #[v])(h1:v.oneCell'=true)(hs:Swap L ⟨g,t,[u]⟩ ⟨g,t,[v]⟩ L')(hr:∀w',Own w0 w' L'→(∀p l,RdB w p l→RdB w' p l)→wpList P ops Q rest (a.put dst undef) w'):wpList P ops Q ((Oper.mk dst (.store T x y) ty pos aft gd)::rest) a w:=
 wpList_want hgd fun K hK=>by
   have hrow:=hm.row hs.has
   have hs':=run_storeCells_at P g 0 t [v] 0 #[u] w hrow (by simp) (by intro z hz;rw [List.mem_singleton.1 hz];exact h1)
   obtain⟨i,hi1,hi2⟩:=Option.map_eq_some_iff.1 hT.size
   have hrun:(Instr.storeAt T (.pointer (some ⟨g,0,none⟩)) v).run P w= .ok () (w.setRow g [v].toArray):=by
     simp only [Nat.add_zero]at hs'
     simpa [Instr.storeAt,Instr.sureAddr,storeVar,sizeOf,typeInfo,hi1,hi2,hval]using hs'
   unfold Oper.wp execOp
   simp only [hx,hy,Sem.run_bind,hrun,Result.andThen_ok]
   exact hK _ _ (hr _ (hm.turn hs) (rdB_setRow hrow hu _))
def RdJ(w0:World)(V:Blk)(g:Nat)(T:TypeId)(u:Value)(R:List Blk)(X:List Byte)(vs:List (Option Value))(w:World):Prop:=
 ∃a,vs=[a]∧((a=none∧Own w0 w (V::⟨g,T,[u]⟩::R))∨∃x p c,a=some x∧RdB w p X∧Own w0 w (V::⟨g,T,[.slice p 20 c]⟩::R))
def RdM(w0:World)(V:Blk)(g:Nat)(T:TypeId)(u:Value)(R:List Blk)(X:List Byte):Marks where
 J:=RdJ w0 V g T u R X
 Sp:=fun vs i v w w'=>RdJ w0 V g T u R X (vs.set i (some v)) w'∧∀p l,RdB w p l→RdB w' p l
 jext:=fun _ _ _ ⟨a,h0,h⟩ hx=>⟨a,h0,h.elim (fun ⟨h1,h2⟩=> .inl ⟨h1,h2.ext hx⟩) (fun ⟨x,p,c,h1,h2,h3⟩=> .inr ⟨x,p,c,h1,h2.ext hx,h3.ext hx⟩)⟩
 jmark:=fun _ _ _ _ _ _ _ h=>h.1
section
variable {w0 w:World} {V:Blk} {g:Nat} {T:TypeId} {u:Value} {R:List Blk} {X:List Byte} {vs:List (Option Value)}
theorem RdJ.start(h:Own w0 w (V::⟨g,T,[u]⟩::R)):(RdM w0 V g T u R X).J (List.replicate 1 none) w:=⟨none,rfl, .inl ⟨rfl,h⟩⟩
theorem RdJ.any(h:RdJ w0 V g T u R X vs w):∃Y,Own w0 w (V::Y::R):=by
 obtain⟨a,_,⟨_,h⟩|⟨_,_,_,_,_,h⟩⟩:=h
 · exact⟨_,h⟩
 · exact⟨_,h⟩
theorem RdJ.st(h:RdJ w0 V g T u R X vs w)(hn:vs[0]? =some none):Own w0 w (V::⟨g,T,[u]⟩::R)∧vs=[none]:=by
 obtain⟨a,rfl,h⟩:=h
 obtain rfl:a=none:=by simpa using hn
 rcases h with ⟨_,h⟩|⟨_,_,_,h1,_⟩
 · exact⟨h,rfl⟩
 · cases h1
theorem RdJ.fin(h:RdJ w0 V g T u R X vs w)(hl:∀i,i<1→∃x,vs[i]? =some (some x)):∃p c,RdB w p X∧Own w0 w (V::⟨g,T,[.slice p 20 c]⟩::R):=by
 obtain⟨a,rfl,h⟩:=h
 obtain⟨x,hx⟩:=hl 0 (by omega)
 simp at hx
 subst hx
 rcases h with ⟨h1,_⟩|⟨_,p,c,_,h2,h3⟩
 · cases h1
 · exact⟨p,c,h2,h3⟩
end
def SlH(f:Option Addr→Nat→Value)(n:Nat)(Y:List Byte):Slot:=fun v w=>∃p c,v=f p c∧n≤c∧RdB w p Y
abbrev SlG(f:Option Addr→Nat→Value)(n:Nat)(Y:List Byte):PSlot:=fun v _ w=>SlH f n Y v w
theorem SlG.stable {w0:World}{V:Blk}{g:Nat}{T:TypeId}{u:Value}{R:List Blk}{X:List Byte}(f:Option Addr→Nat→Value)(n:Nat)(Y:List Byte):PStable (RdM w0 V g T u R X).Sp (SlG f n Y):=
 ⟨fun _ _ _ _ ⟨p,c,h1,h2,h3⟩ hx=>⟨p,c,h1,h2,h3.ext hx⟩,fun _ _ _ _ _ _ ⟨p,c,h1,h2,h3⟩ _ hs=>⟨p,c,h1,h2,hs.2 _ _ h3⟩⟩
abbrev slF(n:Nat)(p:Option Addr)(c:Nat):Value:= .slice p n c
abbrev tuF(n:Nat)(p:Option Addr)(c:Nat):Value:= .tuple #[.slice p n c, .int .i64 0]
theorem wdec_any(g n:Nat)(al:Int)(key t m:List Byte)(ht:t.length≤500)(hl:m.length=n+16)(hn:n≤15)(p q:Option Addr)(c d:Nat)(hc:t.length≤c)(hd:n+16≤d)(w0:World)(hh:CipR w0 g al key)(hr:RdB w0 p t)(hq:RdB w0 q m):
   GivesR Tryz.prog 17 #[.pointer (some ⟨g,0,none⟩), .slice p t.length c, .slice q (n+16) d] w0 (SlH (tuF (n+16)) (n+16) (wideD al key t m)):=by
 unfold GivesR
 have EN:=Lib.hid (turnedX_any true g n al key t m ht hl hn p q c d hc hd w0 hh hr hq)
 rw [show wideX true al key t m=wideD al key t m from rfl]at EN
 obtain⟨X,hX⟩:∃x,x=wideD al key t m:=⟨_,rfl⟩
 rw [←hX]at EN⊢
 obtain⟨TL,hTL⟩:∃x,x=t.length:=⟨_,rfl⟩
 rw [←hTL]at EN⊢
 obtain⟨K,hK⟩:∃x,x=n+16:=⟨_,rfl⟩
 rw [←hK]at EN⊢
 clear hX hq hr hh ht hc hTL hK hl hn hd
 go_enter Tryz.func17,Tryz.ntmps17
 go_wp2_with fail
 refine(EN.out).mono ?_
 rintro e_ w ⟨px,cx,rfl,hcx,hpx,hx⟩
 go_wp2_with fail
 go_ret2
 exact⟨_,rfl,⟨px,cx,rfl,hcx,hpx⟩,hx⟩
theorem vcipher_G(g gc:Nat)(n:Int)(VC:List Value)(e4:VC[4]? =some (.pointer (some ⟨gc,0,none⟩)))(e5:VC[5]? =some (.pointer none))(w0:World)(h:Row w0 g 52 VC):
   Gives Tryz.prog 16 #[.pointer (some ⟨g,0,none⟩), .int .i64 n] w0 (.pointer (some ⟨gc,0,none⟩)):=
 (vcipher_gen g gc n VC e4 e5 w0 h).mono fun _ _ ⟨h1,h2⟩=>⟨h1,h2 ▸ Ext.refl _⟩
theorem vread1_any(g gc gs gv gn gq n:Nat)(al:Int)(key st:List Byte)(VC VC':List Value)(ld ld':Value)(e4:VC'[4]? =some (.pointer (some ⟨gc,0,none⟩)))(e5:VC'[5]? =some (.pointer none))(e8:VC[8]? =some ld)(s8:VC.set 8 ld'=VC')(k8:8<VC.length)(hv1:ld'.cells= #[ld'])(hv2:ld'.oneCell'=true)
   (AD:∀w,(binOp .add 50 ld (.complex .f64 4607182418800017408 0)).run Tryz.prog w= .ok ld' w) (hl:st.length=80) (hn:n<4) (w0 w:World) (R:List Blk) (hm:Own w0 w (⟨g,52,VC⟩::⟨gq,22,[.slice none 0 0]⟩::R))
   (HV:Has R ⟨gv,28,[.pointer (some ⟨g,0,none⟩)]⟩) (HN:Has R ⟨gn,3,[.int .i64 (n:Int)]⟩)
   (hrd:∀wx X Y,Own w0 wx (X::Y::R)→RdB wx (some ⟨gs,0,none⟩) st) (hci:∀wx X Y,Own w0 wx (X::Y::R)→CipR wx gc al key):
   Calls Tryz.prog 15 #[.slice (some ⟨gs,n*20,none⟩) 20 (80-n*20), .pointer (some ⟨gv,0,none⟩), .pointer (some ⟨gn,0,none⟩), .pointer (some ⟨gq,0,none⟩)] w fun e w'=>e= .returned (.int .i64 0)∧∃p c,RdB w' p (wideD al key (twL n) ((st.drop (n*20)).take 20))∧Own w0 w' (⟨g,52,VC'⟩::⟨gq,22,[.slice p 20 c]⟩::R):=by
 have lB:((st.drop (n*20)).take 20).length=4+16:=by simp only [List.length_take,List.length_drop];omega
 have lT:=twL_length n
 have E8:=Lib.hid e8
 have S8:=Lib.hid s8
 have K8:=Lib.hid k8
 have TW:=Lib.hid fun (wx:World)=>tweak_any n (by omega) wx
 have CI:=Lib.hid fun (wx:World)(Y:Blk)(h:Own w0 wx (⟨g,52,VC'⟩::Y::R))=>vcipher_G g gc (n:Int) VC' e4 e5 wx (h.row .hd)
 have DE:=Lib.hid fun (wx:World)(Y:Blk)(p:Option Addr)(c:Nat)(h:Own w0 wx (⟨g,52,VC'⟩::Y::R))(hc:(twL n).length≤c)(hb:RdB wx p (twL n))=>
   wdec_any gc 4 al key (twL n) ((st.drop (n*20)).take 20) (by omega) lB (by omega) p (some ⟨gs,n*20,none⟩) c (80-n*20) hc (by omega) wx (hci _ _ _ h) hb (rdB_at (hrd _ _ _ h))
 simp only [Nat.reduceAdd]at DE
 obtain⟨X,hX⟩:∃x,x=wideD al key (twL n) ((st.drop (n*20)).take 20):=⟨_,rfl⟩
 rw [←hX]at DE⊢
 obtain⟨T,hT⟩:∃x,x=twL n:=⟨_,rfl⟩
 rw [←hT]at DE TW lT
 obtain⟨TL,hTL⟩:∃x,x=T.length:=⟨_,rfl⟩
 have TW:=Lib.hid fun (wx:World)=>(show GivesR Tryz.prog 18 #[.int .i64 (n:Int)] wx (SlH (slF TL) TL T)from(TW.out wx).mono fun e w' ⟨v,h1,⟨p,c,h2,h3,h4⟩,h5⟩=>⟨v,h1,⟨p,c,by rw [hTL];exact h2,by rw [hTL];exact h3,h4⟩,h5⟩)
 rw [←hTL]at DE
 obtain⟨SL,hSL⟩:∃x,x=Value.slice (some ⟨gs,n*20,none⟩) 20 (80-n*20):=⟨_,rfl⟩
 rw [←hSL]at DE⊢
 have b4:(n:Int)≤3:=by omega
 clear hX hT hTL hSL hl hn hrd hci lB lT e4 e5 e8 s8 k8
 go_enter Tryz.func15,Tryz.ntmps15
 go_wp2_with (first|((with_reducible apply wq_ld1 hm);exact rfl;infer_instance;exact rfl;(focus (repeat first|exact .hd|assumption|apply Has.tl);done);(exact E8.out))|((with_reducible apply wq_st1e S8.out K8.out hm);exact rfl;infer_instance;exact rfl;exact rfl;exact hv1;exact hv2;exact .hd;clear hm;intro w hm)|((with_reducible show qLd);first|((with_reducible apply wq_ld1 hm);exact rfl;infer_instance;exact rfl;(focus (repeat first|exact .hd|assumption|apply Has.tl);done);exact rfl)))
 have hns:∀b:Byte,(Value.slice none 0 0)≠v8 b:=fun b h=>by cases h
 refine pregion 11 (RdM w0 ⟨g,52,VC'⟩ gq 22 (.slice none 0 0) R X) [10] 25 (by kernel_rfl) (by kernel_rfl) rfl (RdJ.start (hm.ext (drew_ext _))) ?_
 simp only [tSC,List.take_zero,dSC,List.drop_zero,List.map_cons,List.map_nil]
 repeat (first
     |(apply pwalk_some (SlG (slF TL) TL T) 19 (SlG.stable _ _ _) rfl rfl rfl rfl rfl;(intro vs_ wx hJ_;go_simp;with_reducible exact gives_callR (TW.out wx)))
     |(apply pwalk_from_some (T:=[(19,SlG (slF TL) TL T)]) (SlG (tuF 20) 20 X) 21 (SlG.stable _ _ _) rfl rfl rfl rfl;(intro vs_ wx hJ_;simp only [pwithS];obtain⟨Y_,hm⟩:=RdJ.any hJ_;rintro x_ ⟨p_,c_,rfl,hl_,hb_⟩;refine⟨rfl, ?_⟩;go_simp;with_reducible exact gives_callR (DE.out wx _ p_ c_ hm hl_ hb_)))
     |(apply pwalk_from_some (T:=[(21,SlG (tuF 20) 20 X)]) (SlG (tuF 20) 20 X) 14 (SlG.stable _ _ _) rfl rfl rfl rfl;(intro vs_ wx hJ_;simp only [pwithS];obtain⟨Y_,hm⟩:=RdJ.any hJ_;rintro x_ ⟨p_,c_,rfl,hl_,hb_⟩;refine⟨rfl, ?_⟩;go_simp;exact gives_val (Ext.refl _) ⟨p_,c_,rfl,hl_,hb_⟩))
     |(apply pwalk_from_some (T:=[(14,SlG (tuF 20) 20 X)]) (SlG (slF 20) 20 X) 22 (SlG.stable _ _ _) rfl rfl rfl rfl;(intro vs_ wx hJ_;simp only [pwithS];obtain⟨Y_,hm⟩:=RdJ.any hJ_;rintro x_ ⟨p_,c_,rfl,hl_,hb_⟩;refine⟨rfl, ?_⟩;go_simp;exact gives_val (Ext.refl _) ⟨p_,c_,rfl,hl_,hb_⟩))
     |(apply pwalk_from (T:=[(14,SlG (tuF 20) 20 X)]) rfl rfl rfl;(intro vs_ wx hJ_;simp only [pwithS];rintro x_ ⟨p_,c_,rfl,hl_,hb_⟩;refine⟨rfl, ?_⟩;go_simp;exact gives_same);(simp only [Act.put,sIB,sCS,sCZ];rfl))
     | (apply pwalk_mark (T:=[(22,SlG (slF 20) 20 X)]) 0 [] rfl rfl rfl (by kernel_rfl) rfl
        · (intro vs_ wx hJ_ hn_ hD_;simp only [pwithS];rintro x_ ⟨p_,c_,rfl,hl_,hb_⟩;obtain⟨hm,rfl⟩:=RdJ.st hJ_ hn_;refine⟨rfl, ?_⟩;(with_reducible apply wq_st1R (v:= .slice p_ 20 c_) hns hm);exact rfl;infer_instance;exact rfl;exact rfl;exact rfl;exact rfl;(exact(.tl .hd));clear hm;intro w_ hm hall_;exact mark_end rfl (fun u_=>⟨⟨_,rfl, .inr ⟨u_,p_,c_,rfl,hall_ _ _ hb_,hm⟩⟩,hall_⟩)))
     | (apply pwalk_is rfl rfl rfl rfl
        · (intro vs_ wx hJ_;obtain⟨Y_,hm⟩:=RdJ.any hJ_;first|((with_reducible show gives _ _ _ (Sem.run _ (execOp _ (Oper.mk _ (Op.load _ _) _ _ _ _)) _));first|((with_reducible apply gq_ldv hm);infer_instance;exact rfl;(focus (repeat first|exact .hd|assumption|apply Has.tl);done);(focus (first|omega|(simp;omega)|(refine ltB ?_;first|omega|(simp;done)|(simp;omega)))))|((with_reducible apply gq_ldW hm);infer_instance;exact rfl;(focus (repeat first|exact .hd|assumption|apply Has.tl);done);(focus (first|rfl|omega|(simp;done)|(simp;omega))))|((with_reducible apply gq_ld1 hm);infer_instance;exact rfl;(focus (repeat first|exact .hd|assumption|apply Has.tl);done);exact rfl))|(go_simp;(try go_bits);first|exact gives_same|exact gives_skip|with_reducible exact gives_call (CI.out wx _ hm)))
        · (simp only [Act.put,sIB,sCS,sCZ];rfl)))
 intro vs_ wz hJ_ hl_ hall_
 simp only [zCC,zNR]
 repeat rw [pfin_is]
 rw [pfin_cons];intro x19 hx19
 repeat rw [pfin_is]
 rw [pfin_cons];intro x21 hx21
 repeat rw [pfin_is]
 rw [pfin_cons];intro x14 hx14
 repeat rw [pfin_is]
 rw [pfin_cons];intro x22 hx22
 repeat rw [pfin_is]
 rw [pfin_cons];intro y1 hy1
 repeat rw [pfin_is]
 rw [pfin_nil]
 simp only [Act.put,sIB,sCS,sCZ]
 clear hm
 obtain⟨p,c,hrp,hm⟩:=RdJ.fin hJ_ (fun i hi=>hall_ i hi)
 clear hJ_ hl_ hall_ hx19 hx21 hx14 hx22 hy1
 go_wp2_with fail
 go_ret
 exact⟨rfl,p,c,hrp,hm⟩
theorem permR(q n v s V:Blk)(R:List Blk):(q::n::v::s::V::R).Perm (V::q::s::n::v::R):=
 (List.perm_middle (l₁ :=[q,n,v,s])).trans (.cons _ (.cons _ (List.perm_middle (l₁ :=[n,v]))))
theorem vread_any(g gc gs n:Nat)(al:Int)(key st:List Byte)(VC VC':List Value)(ld ld':Value)(hV:VolK VC gs)(e4:VC'[4]? =some (.pointer (some ⟨gc,0,none⟩)))(e5:VC'[5]? =some (.pointer none))(e8:VC[8]? =some ld)(s8:VC.set 8 ld'=VC')(k8:8<VC.length)(hv1:ld'.cells= #[ld'])(hv2:ld'.oneCell'=true)
   (AD:∀w,(binOp .add 50 ld (.complex .f64 4607182418800017408 0)).run Tryz.prog w= .ok ld' w) (hl:st.length=80) (hn:n<4) (w0 w:World) (R:List Blk) (hm:Own w0 w (⟨gs,5,st.map v8⟩::⟨g,52,VC⟩::R)) (hci:∀wx M,Own w0 wx (M++R)→CipR wx gc al key):
   Calls Tryz.prog 6 #[.pointer (some ⟨g,0,none⟩), .int .i64 (n:Int)] w fun e w'=>∃p c,e= .returned (.tuple #[.slice p 20 c, .int .i64 0])∧RdB w' p (wideD al key (twL n) ((st.drop (n*20)).take 20))∧Own w0 w' (⟨gs,5,st.map v8⟩::⟨g,52,VC'⟩::R):=by
 have WW:=Lib.hid fun (gv gn gq:Nat)(wx:World)(h:Own w0 wx (⟨gq,22,[.slice none 0 0]⟩::⟨gn,3,[.int .i64 (n:Int)]⟩::⟨gv,28,[.pointer (some ⟨g,0,none⟩)]⟩::⟨gs,5,st.map v8⟩::⟨g,52,VC⟩::R))=>
   vwith_gen 15 (fun args w=>by kernel_rfl) #[.pointer (some ⟨gv,0,none⟩), .pointer (some ⟨gn,0,none⟩), .pointer (some ⟨gq,0,none⟩)] g gs n VC hV (fun w'=>∃p c,RdB w' p (wideD al key (twL n) ((st.drop (n*20)).take 20))∧Own w0 w' (⟨gq,22,[.slice p 20 c]⟩::⟨gn,3,[.int .i64 (n:Int)]⟩::⟨gv,28,[.pointer (some ⟨g,0,none⟩)]⟩::⟨gs,5,st.map v8⟩::⟨g,52,VC'⟩::R)) hn wx (h.row (.tl (.tl (.tl (.tl .hd))))) (fun wy hy=>
     (vread1_any g gc gs gv gn gq n al key st VC VC' ld ld' e4 e5 e8 s8 k8 hv1 hv2 AD hl hn w0 wy _ ((h.ext hy).perm (permR _ _ _ _ _ R)) (.tl (.tl .hd)) (.tl .hd) (fun wz X Y hz=>hz.rdB (g:=gs) (.tl (.tl .hd))) (fun wz X Y hz=>hci wz [X,Y,_,_,_] hz)).mono
       fun e w' ⟨e1,p,c,h1,h2⟩=>⟨e1,p,c,h1,h2.perm (permR _ _ _ _ _ R).symm⟩)
 obtain⟨S0,hS0⟩:∃x,x=(⟨gs,5,st.map v8⟩:Blk):=⟨_,rfl⟩
 obtain⟨V0,hV0⟩:∃x,x=(⟨g,52,VC⟩:Blk):=⟨_,rfl⟩
 obtain⟨V1,hV1⟩:∃x,x=(⟨g,52,VC'⟩:Blk):=⟨_,rfl⟩
 obtain⟨X,hX⟩:∃x,x=wideD al key (twL n) ((st.drop (n*20)).take 20):=⟨_,rfl⟩
 rw [←hS0,←hV0]at hm
 rw [←hS0,←hV1,←hX]at WW⊢
 rw [←hV0]at WW
 clear hS0 hV0 hV1 hci hl hX hV e4 e5 e8 s8 k8 hv1 hv2 AD
 go_enter Tryz.func6,Tryz.ntmps6
 go_wp2_with (first|((with_reducible show qLd);first|((with_reducible apply wq_ld1 hm);exact rfl;infer_instance;exact rfl;(focus (repeat first|exact .hd|assumption|apply Has.tl);done);exact rfl))|((first|((with_reducible show qAl);first|((with_reducible apply wq_new hm);exact rfl;infer_instance))|((with_reducible show qBx);first|((with_reducible apply wq_box1 hm);exact rfl;exact rfl;exact rfl)));clear hm;(first|(have hx_:=g1;clear hx_;(first|(have hx_:=g2;clear hx_;(first|(have hx_:=g3;clear hx_;intro gx_)|intro g3))|intro g2))|intro g1);intro w hm))
 refine(WW.out g1 g2 g3 w hm).mono ?_
 rintro e_ w ⟨rfl,p5,c5,hr5,hm⟩
 go_wp2_with (first|((with_reducible show qLd);first|((with_reducible apply wq_ld1 hm);exact rfl;infer_instance;exact rfl;(focus (repeat first|exact .hd|assumption|apply Has.tl);done);exact rfl)))
 go_ret2
 exact⟨p5,c5,rfl,hr5,Own.dropN (M:=[_,_,_]) hm⟩
def WnR(W:World)(gt gb:Nat)(al:Int)(key:List Byte)(g:Nat)(w:World):Prop:=∃w1 L,Ext W w1∧Own w1 w L∧Keeps L (TabR gt gb) (fun wx=>CipR wx g al key)
theorem WnR.ext {W w w':World}{gt gb:Nat}{al:Int}{key:List Byte}{g:Nat}(h:WnR W gt gb al key g w)(hx:Ext w w'):WnR W gt gb al key g w':=by
 obtain⟨w1,L,h1,h2,h3⟩:=h
 exact⟨w1,L,h1,h2.ext hx,h3⟩
def WnT(W:World)(gt gb:Nat)(al:Int)(key:List Byte):Slot:=fun v w=>∃g,v= .tuple #[.pointer (some ⟨g,0,none⟩), .int .i64 0]∧WnR W gt gb al key g w
theorem WnT.stable(W:World)(gt gb:Nat)(al:Int)(key:List Byte):Stable (WnT W gt gb al key):=fun _ _ _ ⟨g,h1,h2⟩ hx=>⟨g,h1,h2.ext hx⟩
def WnP(W:World)(gt gb:Nat)(al:Int)(key:List Byte):Slot:=fun v w=>∃g,v= .pointer (some ⟨g,0,none⟩)∧WnR W gt gb al key g w
theorem WnP.stable(W:World)(gt gb:Nat)(al:Int)(key:List Byte):Stable (WnP W gt gb al key):=fun _ _ _ ⟨g,h1,h2⟩ hx=>⟨g,h1,h2.ext hx⟩
theorem vbegin_any(g gt gb gc gs:Nat)(al mv:Int)(key:List Byte)(hk:SchOk al key)(ld:Value)(p:Option Addr)(c:Nat)(hc:key.length≤c)(w0 w:World)(R:List Blk)(hm:Own w0 w (⟨g,52,volN gt al gc none mv gs ld⟩::R))(hr:RdB w0 p key)(ht:TabR gt gb w0)(hcb:CoefB w0):
   Calls Tryz.prog 19 #[.pointer (some ⟨g,0,none⟩), .slice p key.length c] w fun e w'=>∃gn L,e= .returned (.int .i64 0)∧Own w0 w' (⟨g,52,volN gt al gc (some ⟨gn,0,none⟩) 0 gs ld⟩::(L++R))∧Keeps L (TabR gt gb) (fun wx=>CipR wx gn al key):=by
 have NW:=Lib.hid fun (wx:World)(hx:Ext w wx)=>(show GivesR Tryz.prog 25 #[.pointer (some ⟨gt,0,none⟩), .int .i64 al, .slice p key.length c] wx (WnT w gt gb al key)from
   (wnew_any al gt gb key hk p c hc wx (hr.ext (hm.x.trans hx)) (ht.ext (hm.x.trans hx)) (hcb.ext (hm.x.trans hx))).mono fun e w' ⟨g1,L,h1,h2,h3,h4⟩=>⟨_,h1,⟨g1,rfl,wx,L,hx,h3,h4⟩,h3.x⟩)
 have E0:Hid ((volN gt al gc none mv gs ld)[0]? =some (.pointer (some ⟨gt,0,none⟩))):=Lib.hid rfl
 have E1:Hid ((volN gt al gc none mv gs ld)[1]? =some (.int .i64 al)):=Lib.hid rfl
 have E5:Hid ((volN gt al gc none mv gs ld)[5]? =some (.pointer none)):=Lib.hid rfl
 have S5:=Lib.hid fun (x:Option Addr)=>(show(volN gt al gc none mv gs ld).set 5 (.pointer x)=volN gt al gc x mv gs ld from rfl)
 have S6:=Lib.hid fun (x:Option Addr)=>(show(volN gt al gc x mv gs ld).set 6 (.int .i64 0)=volN gt al gc x 0 gs ld from rfl)
 have K5:Hid (5<(volN gt al gc none mv gs ld).length):=Lib.hid (show 5<9 from by omega)
 have K6:=Lib.hid fun (x:Option Addr)=>(show 6<(volN gt al gc x mv gs ld).length from(show 6<9 from by omega))
 obtain⟨V0,hV0⟩:∃x,x=volN gt al gc none mv gs ld:=⟨_,rfl⟩
 obtain⟨V1,hV1⟩:∃x,x=fun z=>volN gt al gc z mv gs ld:=⟨_,rfl⟩
 obtain⟨V2,hV2⟩:∃x,x=fun z=>volN gt al gc z 0 gs ld:=⟨_,rfl⟩
 have hv1:∀z,volN gt al gc z mv gs ld=V1 z:=fun z=>by rw [hV1]
 have hv2:∀z,volN gt al gc z 0 gs ld=V2 z:=fun z=>by rw [hV2]
 rw [←hV0]at hm E0 E1 E5 K5
 simp only [←hV0]at S5
 simp only [hv1]at S5 S6 K6
 simp only [hv2]at S6⊢
 obtain⟨TL,hTL⟩:∃x,x=key.length:=⟨_,rfl⟩
 rw [←hTL]at NW⊢
 clear hr ht hcb hc hTL hk hV0 hV1 hV2 hv1 hv2
 obtain⟨W1,hW1⟩:∃x,x=w:=⟨_,rfl⟩
 rw [←hW1]at NW
 have hxw:=Ext.refl W1
 have hxw:Ext W1 w:=by rw [←hW1];exact hxw
 have hmW:Own w0 W1 (⟨g,52,V0⟩::R):=by rw [hW1];exact hm
 clear hW1
 go_enter Tryz.func19,Tryz.ntmps19
 go_wp2_with (first|((with_reducible apply wq_ld1 hm);exact rfl;infer_instance;exact rfl;(focus (repeat first|exact .hd|assumption|apply Has.tl);done);(exact E5.out)))
 have hmA:=hm
 refine region_new 15 (fun w'=>Ext _ w') 40 (by kernel_rfl) (by kernel_rfl) rfl (fun _ _ h k=>h.trans k) (drew_ext _) ?_
 simp only [tSC,List.take_zero,dSC,List.drop_zero,List.map_cons,List.map_nil]
 repeat (first
     |(apply walk_is rfl rfl rfl;(intro wx hwx;(with_reducible apply gq_ld1 (hm.ext hwx));infer_instance;exact rfl;(focus (repeat first|exact .hd|assumption|apply Has.tl);done);(exact E0.out));(simp only [Act.put,sIB,sCS,sCZ];rfl))
     |(apply walk_is rfl rfl rfl;(intro wx hwx;(with_reducible apply gq_ld1 (hm.ext hwx));infer_instance;exact rfl;(focus (repeat first|exact .hd|assumption|apply Has.tl);done);(exact E1.out));(simp only [Act.put,sIB,sCS,sCZ];rfl))
     |(apply walk_some (WnT W1 gt gb al key) 27 (WnT.stable _ _ _ _ _) rfl rfl rfl rfl;(intro wx hwx;go_simp;with_reducible exact gives_callR (NW.out wx (hxw.trans hwx))))
     | (apply walk_from_some (T:=[(27,WnT W1 gt gb al key)]) (WnT W1 gt gb al key) 16 (WnT.stable _ _ _ _ _) rfl rfl rfl
        · (intro wx hwx;simp only [withS];(rintro x_ ⟨g_,rfl,h_⟩);refine⟨rfl, ?_⟩;go_simp;exact gives_val (Ext.refl _) ⟨g_,rfl,h_⟩))
     | (apply walk_from_some (T:=[(16,WnT W1 gt gb al key)]) (WnP W1 gt gb al key) 28 (WnP.stable _ _ _ _ _) rfl rfl rfl
        · (intro wx hwx;simp only [withS];(rintro x_ ⟨g_,rfl,h_⟩);refine⟨rfl, ?_⟩;go_simp;exact gives_val (V:=WnP W1 gt gb al key) (Ext.refl _) ⟨g_,rfl,h_⟩))
     | (apply walk_from_some (T:=[(28,WnP W1 gt gb al key)]) (WnP W1 gt gb al key) 5 (WnP.stable _ _ _ _ _) rfl rfl rfl
        · (intro wx hwx;simp only [withS];(rintro x_ ⟨g_,rfl,h_⟩);refine⟨rfl, ?_⟩;go_simp;exact gives_val (V:=WnP W1 gt gb al key) (Ext.refl _) ⟨g_,rfl,h_⟩))
     | (apply walk_from (T:=[(16,WnT W1 gt gb al key)]) rfl rfl
        · (intro wx hwx;simp only [withS];(rintro x_ ⟨g_,rfl,h_⟩);refine⟨rfl, ?_⟩;go_simp;exact gives_same)
        · (simp only [Act.put,sIB,sCS,sCZ];rfl))
     | (apply walk_is rfl rfl rfl
        · (intro wx hwx;go_simp;(try go_bits);first|exact gives_same|exact gives_skip)
        · (simp only [Act.put,sIB,sCS,sCZ];rfl))
     | (apply walk_not rfl rfl rfl
        · (simp only [Act.put,sIB,sCS,sCZ];rfl)))
 intro wz hwz
 simp only [zCC,zNR]
 repeat rw [fin_is]
 rw [fin_cons];intro x27 hx27
 repeat rw [fin_is]
 rw [fin_cons];intro x16 hx16
 repeat rw [fin_is]
 rw [fin_cons];intro x28 hx28
 repeat rw [fin_is]
 rw [fin_cons];intro x5 hx5
 repeat rw [fin_is]
 rw [fin_nil];intro hap
 simp only [Act.put,sIB,sCS,sCZ]at hap⊢
 obtain⟨gn,rfl,w1,L,hx1,hm1,hK⟩:=hx5
 clear hm hmA hap hx27 hx16 hx28 NW hxw hwz
 have hm:=(hmW.ext hx1).join hm1
 clear hmW hx1 hm1
 replace hm:=hm.perm (show(L++⟨g,52,V0⟩::R).Perm (⟨g,52,V0⟩::(L++R))from List.perm_middle)
 have HK:=Lib.hid hK
 clear hK
 go_wp2_with (first|((with_reducible apply wq_st1e (S5.out _) K5.out hm);exact rfl;infer_instance;exact rfl;exact rfl;exact rfl;exact rfl;exact .hd;clear hm;intro w hm)|((with_reducible apply wq_st1e (S6.out _) (K6.out _) hm);exact rfl;infer_instance;exact rfl;exact rfl;exact rfl;exact rfl;exact .hd;clear hm;intro w hm))
 go_ret
 exact⟨gn,L,rfl,hm,HK.out⟩
def stY(al:Int)(key key' st:List Byte)(k:Nat):List Byte:=stX false al key' (stX true al key st k) k
theorem stY_length(al:Int)(key key' st:List Byte)(k:Nat)(hl:st.length=80)(hk:k<4):(stY al key key' st k).length=80:=stX_length false al key' _ k (stX_length true al key st k hl hk) hk
def rkF(al:Int)(key key' st:List Byte):Nat→List Byte
 |0=>st
 |k+1=>stY al key key' (rkF al key key' st k) k
theorem rkF_length(al:Int)(key key' st:List Byte)(hl:st.length=80):∀k,k≤4→(rkF al key key' st k).length=80
 |0,_=>hl
 |k+1,h=>stY_length al key key' _ k (rkF_length al key key' st hl k (by omega)) (by omega)
def volS(gt:Nat)(al:Int)(gc gn:Nat)(gs:Nat)(ld:Value)(k:Nat):List Value:=if k=3 then volN gt al gn none 4 gs ld else volN gt al gc (some ⟨gn,0,none⟩) ((k:Int)+1) gs ld
theorem vstep_any(g gt gc gn gs k:Nat)(al:Int)(key key' st:List Byte)(ld:Value)(hl:st.length=80)(hk:k<4)(w0 w:World)(R:List Blk)(hm:Own w0 w (⟨gs,5,st.map v8⟩::⟨g,52,volN gt al gc (some ⟨gn,0,none⟩) (k:Int) gs ld⟩::R))(hci:∀wx M,Own w0 wx (M++R)→CipR wx gc al key)(hcn:∀wx M,Own w0 wx (M++R)→CipR wx gn al key'):
   Calls Tryz.prog 20 #[.pointer (some ⟨g,0,none⟩)] w fun e w'=>e= .returned (.tuple #[.int .i64 (3-(k:Int)), .int .i64 0])∧Own w0 w' (⟨gs,5,(stY al key key' st k).map v8⟩::⟨g,52,volS gt al gc gn gs ld k⟩::R):=by
 have T1:=Lib.hid fun (wx:World)(h:Own w0 wx (⟨gs,5,st.map v8⟩::⟨g,52,volN gt al gc (some ⟨gn,0,none⟩) (k:Int) gs ld⟩::R))=>vturnX_any true g gc gs k al key st _ (volN_K gt al gc _ _ gs ld) hl hk w0 wx _ h .hd (hci wx [_,_] h)
 have T2:=Lib.hid fun (wx:World)(h:Own w0 wx (⟨gs,5,(stX true al key st k).map v8⟩::⟨g,52,volN gt al gc (some ⟨gn,0,none⟩) (k:Int) gs ld⟩::R))=>vturnX_any false g gn gs k al key' _ _ (volN_K gt al gc _ _ gs ld) (stX_length true al key st k hl hk) hk w0 wx _ h .hd (hcn wx [_,_] h)
 rw [show stX false al key' (stX true al key st k) k=stY al key key' st k from rfl]at T2
 obtain⟨m,hmk⟩:∃m:Int,m=(k:Int):=⟨_,rfl⟩
 rw [←hmk]at T1 T2 hm⊢
 have E3:Hid ((volN gt al gc (some ⟨gn,0,none⟩) m gs ld)[3]? =some (.int .i64 4)):=Lib.hid rfl
 have E4:Hid ((volN gt al gc (some ⟨gn,0,none⟩) m gs ld)[4]? =some (.pointer (some ⟨gc,0,none⟩))):=Lib.hid rfl
 have E5:Hid ((volN gt al gc (some ⟨gn,0,none⟩) m gs ld)[5]? =some (.pointer (some ⟨gn,0,none⟩))):=Lib.hid rfl
 have E6:Hid ((volN gt al gc (some ⟨gn,0,none⟩) m gs ld)[6]? =some (.int .i64 m)):=Lib.hid rfl
 have S6:Hid ((volN gt al gc (some ⟨gn,0,none⟩) m gs ld).set 6 (.int .i64 (m+1))=volN gt al gc (some ⟨gn,0,none⟩) (m+1) gs ld):=Lib.hid rfl
 have K6:Hid (6<(volN gt al gc (some ⟨gn,0,none⟩) m gs ld).length):=Lib.hid (show 6<9 from by omega)
 have F3:Hid ((volN gt al gc (some ⟨gn,0,none⟩) (m+1) gs ld)[3]? =some (.int .i64 4)):=Lib.hid rfl
 have F5:Hid ((volN gt al gc (some ⟨gn,0,none⟩) (m+1) gs ld)[5]? =some (.pointer (some ⟨gn,0,none⟩))):=Lib.hid rfl
 have F6:Hid ((volN gt al gc (some ⟨gn,0,none⟩) (m+1) gs ld)[6]? =some (.int .i64 (m+1))):=Lib.hid rfl
 have U4:Hid ((volN gt al gc (some ⟨gn,0,none⟩) (m+1) gs ld).set 4 (.pointer (some ⟨gn,0,none⟩))=volN gt al gn (some ⟨gn,0,none⟩) (m+1) gs ld):=Lib.hid rfl
 have U5:Hid ((volN gt al gn (some ⟨gn,0,none⟩) (m+1) gs ld).set 5 (.pointer none)=volN gt al gn none (m+1) gs ld):=Lib.hid rfl
 have L4:Hid (4<(volN gt al gc (some ⟨gn,0,none⟩) (m+1) gs ld).length):=Lib.hid (show 4<9 from by omega)
 have L5:Hid (5<(volN gt al gn (some ⟨gn,0,none⟩) (m+1) gs ld).length):=Lib.hid (show 5<9 from by omega)
 have VE:Hid (m=3→volN gt al gn none (m+1) gs ld=volS gt al gc gn gs ld k):=Lib.hid fun h=>by rw [volS,if_pos (by omega),h];rfl
 have VN:Hid (m≠3→volN gt al gc (some ⟨gn,0,none⟩) (m+1) gs ld=volS gt al gc gn gs ld k):=Lib.hid fun h=>by rw [volS,if_neg (by omega),hmk]
 obtain⟨V0,hV0⟩:∃x,x=volN gt al gc (some ⟨gn,0,none⟩) m gs ld:=⟨_,rfl⟩
 obtain⟨V1,hV1⟩:∃x,x=volN gt al gc (some ⟨gn,0,none⟩) (m+1) gs ld:=⟨_,rfl⟩
 obtain⟨V2,hV2⟩:∃x,x=volN gt al gn (some ⟨gn,0,none⟩) (m+1) gs ld:=⟨_,rfl⟩
 obtain⟨V3,hV3⟩:∃x,x=volN gt al gn none (m+1) gs ld:=⟨_,rfl⟩
 obtain⟨V4,hV4⟩:∃x,x=volS gt al gc gn gs ld k:=⟨_,rfl⟩
 rw [←hV0]at hm T1 T2 E3 E4 E5 E6 S6 K6
 rw [←hV1]at S6 F3 F5 F6 U4 L4 VN
 rw [←hV2]at U4 U5 L5
 rw [←hV3]at U5 VE
 rw [←hV4]at VE VN⊢
 obtain⟨S1,hS1⟩:∃x,x=stX true al key st k:=⟨_,rfl⟩
 obtain⟨S2,hS2⟩:∃x,x=stY al key key' st k:=⟨_,rfl⟩
 rw [←hS1]at T1 T2
 rw [←hS2]at T2⊢
 have q0:(4:Int)-(m+1)=3-m:=by omega
 have q1:0≤m∧m≤3:=by omega
 have q2: -9223372036854775808≤m+1∧m+1≤9223372036854775807:=by omega
 have q3:m≤3:=by omega
 clear hV0 hV1 hV2 hV3 hV4 hS1 hS2 hl hk hci hcn hmk
 go_enter Tryz.func20,Tryz.ntmps20
 go_wp2_with (first|((with_reducible apply wq_ld1 hm);exact rfl;infer_instance;exact rfl;(focus (repeat first|exact .hd|assumption|apply Has.tl);done);(exact E5.out)))
 refine region_at 9 (fun w'=>Ext _ w') 63 (by kernel_rfl) (by kernel_rfl) rfl (fun _ _ h k=>h.trans k) (drew_ext _) ?_
 simp only [tSC,List.take_zero,dSC,List.drop_zero,List.map_cons,List.map_nil]
 repeat (first
     |(apply walk_is rfl rfl rfl;(intro wx hwx;(with_reducible apply gq_ld1 (hm.ext hwx));infer_instance;exact rfl;(focus (repeat first|exact .hd|assumption|apply Has.tl);done);(exact E4.out));(simp only [Act.put,sIB,sCS,sCZ];rfl))
     |(apply walk_is rfl rfl rfl;(intro wx hwx;(with_reducible apply gq_ld1 (hm.ext hwx));infer_instance;exact rfl;(focus (repeat first|exact .hd|assumption|apply Has.tl);done);(exact E6.out));(simp only [Act.put,sIB,sCS,sCZ];rfl))
     | (apply walk_is rfl rfl rfl
        · (intro wx hwx;go_simp;(try go_bits);first|exact gives_same|exact gives_skip)
        · (simp only [Act.put,sIB,sCS,sCZ];rfl))
     | (apply walk_not rfl rfl rfl
        · (simp only [Act.put,sIB,sCS,sCZ];rfl)))
 intro wz hwz
 simp only [zCC,zNR]
 repeat (first|rw [fin_is]|(rw [fin_cons];intro _ _))
 rw [fin_nil]
 try (replace hm:=hm.ext hwz)
 simp only [Act.put,sIB,sCS,sCZ]
 go_wp2_with fail
 refine(T1.out _ hm).mono ?_
 rintro e_ w ⟨rfl,hm1⟩
 clear hm
 have hm:=hm1
 clear hm1
 go_wp2_with fail
 refine region_at 9 (fun w'=>Ext _ w') 63 (by kernel_rfl) (by kernel_rfl) rfl (fun _ _ h k=>h.trans k) (drew_ext _) ?_
 simp only [tSC,List.take_zero,dSC,List.drop_zero,List.map_cons,List.map_nil]
 repeat (first
     |(apply walk_is rfl rfl rfl;(intro wx hwx;(with_reducible apply gq_ld1 (hm.ext hwx));infer_instance;exact rfl;(focus (repeat first|exact .hd|assumption|apply Has.tl);done);(exact E5.out));(simp only [Act.put,sIB,sCS,sCZ];rfl))
     |(apply walk_is rfl rfl rfl;(intro wx hwx;(with_reducible apply gq_ld1 (hm.ext hwx));infer_instance;exact rfl;(focus (repeat first|exact .hd|assumption|apply Has.tl);done);(exact E6.out));(simp only [Act.put,sIB,sCS,sCZ];rfl))
     | (apply walk_is rfl rfl rfl
        · (intro wx hwx;go_simp;(try go_bits);first|exact gives_same|exact gives_skip)
        · (simp only [Act.put,sIB,sCS,sCZ];rfl))
     | (apply walk_not rfl rfl rfl
        · (simp only [Act.put,sIB,sCS,sCZ];rfl)))
 intro wz hwz
 simp only [zCC,zNR]
 repeat (first|rw [fin_is]|(rw [fin_cons];intro _ _))
 rw [fin_nil]
 try (replace hm:=hm.ext hwz)
 simp only [Act.put,sIB,sCS,sCZ]
 go_wp2_with fail
 refine(T2.out _ hm).mono ?_
 rintro e_ w ⟨rfl,hm1⟩
 clear hm
 have hm:=hm1
 clear hm1
 go_wp2_with (first|((with_reducible apply wq_ld1 hm);exact rfl;infer_instance;exact rfl;(focus (repeat first|exact .hd|assumption|apply Has.tl);done);(exact E6.out))|((with_reducible apply wq_st1e S6.out K6.out hm);exact rfl;infer_instance;exact rfl;exact rfl;exact rfl;exact rfl;exact(.tl .hd);clear hm;intro w hm))
 refine region_at 10 (fun w'=>Ext _ w') 63 (by kernel_rfl) (by kernel_rfl) rfl (fun _ _ h k=>h.trans k) (drew_ext _) ?_
 simp only [tSC,List.take_zero,dSC,List.drop_zero,List.map_cons,List.map_nil]
 repeat (first
     |(apply walk_is rfl rfl rfl;(intro wx hwx;(with_reducible apply gq_ld1 (hm.ext hwx));infer_instance;exact rfl;(focus (repeat first|exact .hd|assumption|apply Has.tl);done);(exact F3.out));(simp only [Act.put,sIB,sCS,sCZ];rfl))
     |(apply walk_is rfl rfl rfl;(intro wx hwx;(with_reducible apply gq_ld1 (hm.ext hwx));infer_instance;exact rfl;(focus (repeat first|exact .hd|assumption|apply Has.tl);done);(exact F6.out));(simp only [Act.put,sIB,sCS,sCZ];rfl))
     | (apply walk_is rfl rfl rfl
        · (intro wx hwx;go_simp;(try go_bits);first|exact gives_same|exact gives_skip)
        · (simp only [Act.put,sIB,sCS,sCZ];rfl))
     | (apply walk_not rfl rfl rfl
        · (simp only [Act.put,sIB,sCS,sCZ];rfl)))
 intro wz hwz
 simp only [zCC,zNR]
 repeat (first|rw [fin_is]|(rw [fin_cons];intro _ _))
 rw [fin_nil]
 try (replace hm:=hm.ext hwz)
 simp only [Act.put,sIB,sCS,sCZ]
 by_cases h3:m=3
 · have d1:((4:Int)-(m+1)==0)=true:=by rw [h3];rfl
   have d2:((3:Int)-m==0)=true:=by rw [h3];rfl
   have VX:=Lib.hid (VE.out h3)
   have R3:(3:Int)-m=0:=by omega
   clear h3
   go_wp2_with (first|((with_reducible apply wq_ld1 hm);exact rfl;infer_instance;exact rfl;(focus (repeat first|exact .hd|assumption|apply Has.tl);done);(exact F5.out))|((with_reducible apply wq_st1e U4.out L4.out hm);exact rfl;infer_instance;exact rfl;exact rfl;exact rfl;exact rfl;exact(.tl .hd);clear hm;intro w hm)|((with_reducible apply wq_st1e U5.out L5.out hm);exact rfl;infer_instance;exact rfl;exact rfl;exact rfl;exact rfl;exact(.tl .hd);clear hm;intro w hm))
   rw [VX.out]at hm
   go_ret2
   exact⟨(by(rw [R3])<;>rfl),hm⟩
 · have d1:((4:Int)-(m+1)==0)=false:=by rw [beq_eq_false_iff_ne];omega
   have d2:((3:Int)-m==0)=false:=by rw [beq_eq_false_iff_ne];omega
   have VX:=Lib.hid (VN.out h3)
   clear h3
   go_wp2_with fail
   rw [VX.out]at hm
   go_ret2
   exact⟨rfl,hm⟩
theorem vrekey_any(g gt gb gc gs:Nat)(al mv:Int)(key key' st:List Byte)(hl:st.length=80)(hk:SchOk al key')(ld:Value)(p:Option Addr)(c:Nat)(hc:key'.length≤c)(w0 w:World)(R:List Blk)(hm:Own w0 w (⟨gs,5,st.map v8⟩::⟨g,52,volN gt al gc none mv gs ld⟩::R))(hci:∀wx M,Own w0 wx (M++R)→CipR wx gc al key)(hr:RdB w0 p key')(ht:TabR gt gb w0)(hcb:CoefB w0):
   Calls Tryz.prog 7 #[.pointer (some ⟨g,0,none⟩), .slice p key'.length c] w fun e w'=>∃gn L,e= .returned (.int .i64 0)∧Own w0 w' (⟨gs,5,(rkF al key key' st 4).map v8⟩::⟨g,52,volN gt al gn none 4 gs ld⟩::(L++R))∧Keeps L (TabR gt gb) (fun wx=>CipR wx gn al key'):=by
 have BG:=Lib.hid (vbegin_any g gt gb gc gs al mv key' hk ld p c hc w0 w (⟨gs,5,st.map v8⟩::R) (hm.perm (List.Perm.swap _ _ _)) hr ht hcb)
 have CN:=Lib.hid fun (gn:Nat)(L:List Blk)(h:Keeps L (TabR gt gb) (fun wx=>CipR wx gn al key'))(wx:World)(M:List Blk)(ho:Own w0 wx (M++(L++R)))=>(show CipR wx gn al key' from h wx (fun b hb=>ho.rows b (List.mem_append_right _ (List.mem_append_left _ hb))) (ht.ext ho.x))
 have CC:=Lib.hid fun (L:List Blk)(wx:World)(M:List Blk)(ho:Own w0 wx (M++(L++R)))=>(show CipR wx gc al key from hci wx (M++L) (by rw [List.append_assoc];exact ho))
 have RL:=Lib.hid (rkF_length al key key' st hl)
 have RS:=Lib.hid fun k=>(show stY al key key' (rkF al key key' st k) k=rkF al key key' st (k+1)from rfl)
 have ST:=Lib.hid fun (gn:Nat)(L:List Blk)(h:Keeps L (TabR gt gb) (fun wx=>CipR wx gn al key'))(k:Nat)(hk4:k<4)(wx:World)(ho:Own w0 wx (⟨gs,5,(rkF al key key' st k).map v8⟩::⟨g,52,volN gt al gc (some ⟨gn,0,none⟩) (k:Int) gs ld⟩::(L++R)))=>
   vstep_any g gt gc gn gs k al key key' (rkF al key key' st k) ld (rkF_length al key key' st hl k (by omega)) hk4 w0 wx (L++R) ho (fun wy M hy=>CC.out L wy M hy) (fun wy M hy=>CN.out gn L h wy M hy)
 have R0:Hid (st=rkF al key key' st 0):=Lib.hid rfl
 obtain⟨F,hF⟩:∃x,x=rkF al key key' st:=⟨_,rfl⟩
 rw [←hF]at ST RL R0⊢
 simp only [←hF]at RS
 simp only [RS.out]at ST
 obtain⟨TL,hTL⟩:∃x,x=key'.length:=⟨_,rfl⟩
 rw [←hTL]at BG⊢
 clear hm hF hTL hl hk hc hci hr ht hcb
 have VM:=Lib.hid fun (gn:Nat)(L:List Blk)(k:Nat)(wx:World)(ho:Own w0 wx (⟨gs,5,(F k).map v8⟩::⟨g,52,volN gt al gc (some ⟨gn,0,none⟩) (k:Int) gs ld⟩::(L++R)))=>(show(intOf ((wx.cell? ⟨g,6,none⟩).getD undef))=(k:Int)from by rw [row_cell (ho.row (.tl .hd))];rfl)
 have VL:=Lib.hid fun (gn:Nat)=>(show volS gt al gc gn gs ld 3=volN gt al gn none 4 gs ld from if_pos rfl)
 have VK:=Lib.hid fun (gn k:Nat)(h:k≠3)=>(show volS gt al gc gn gs ld k=volN gt al gc (some ⟨gn,0,none⟩) ((k+1:Nat):Int) gs ld from if_neg h)
 go_enter Tryz.func7,Tryz.ntmps7
 go_wp2_with fail
 refine wp_scope_goto 0 (fun a_ w_=>∃(k gn:Nat)(L:List Blk)(u1 u2 u3 u5 u6 u7 u8 u9 u10 u11 u12 u13 u14 u15 u16 u17 u18 u19 u20:Value),a_={tmps:= #[(.pointer (some ⟨g,0,none⟩)),u1,u2,u3,(.int .i64 0),u5,u6,u7,u8,u9,u10,u11,u12,u13,u14,u15,u16,u17,u18,u19,u20],defers:=[]}∧k<4∧Keeps L (TabR gt gb) (fun wx=>CipR wx gn al key')∧Own w0 w_ (⟨gs,5,(F k).map v8⟩::⟨g,52,volN gt al gc (some ⟨gn,0,none⟩) (k:Int) gs ld⟩::(L++R))) (fun _ w_=>(4-intOf ((w_.cell? ⟨g,6,none⟩).getD undef)).toNat) rfl ?_ ?_
 · rintro a' w ⟨k,gn,L,u1,u2,u3,u5,u6,u7,u8,u9,u10,u11,u12,u13,u14,u15,u16,u17,u18,u19,u20,rfl,⟨hk4,hK,hm⟩⟩
   have SK:=Lib.hid (ST.out gn L hK k hk4 w hm)
   have M0:=Lib.hid (VM.out gn L k w hm)
   have HK:=Lib.hid hK
   clear hK
   by_cases h3:k=3
   · subst h3
     have d1:decide ((3:Int)-((3:Nat):Int)>0)=false:=by decide
     clear hm
     go_wp2_with fail
     refine(SK.out).mono ?_
     rintro e_ w ⟨rfl,hm⟩
     rw [VL.out]at hm
     go_wp2_with fail
     simp only [Exit.jump]
     go_ret
     exact⟨gn,L,rfl,hm,HK.out⟩
   · have d1:decide ((3:Int)-(k:Int)>0)=true:=decide_eq_true (by omega)
     have d2:(3:Int)-(k:Int)>0:=by omega
     have d3:(k:Int)<3:=by omega
     have VX:=Lib.hid (VK.out gn k h3)
     clear hm
     go_wp2_with fail
     refine(SK.out).mono ?_
     rintro e_ w ⟨rfl,hm⟩
     rw [VX.out]at hm
     have M1:=Lib.hid (VM.out gn L (k+1) w hm)
     go_wp2_with fail
     go_step3
     exact⟨rfl,⟨_,_,_,_,_,_,_,_,_,_,_,_,_,_,_,_,_,_,_,_,_,_,rfl,⟨(show k+1<4 from by omega),HK.out,hm⟩⟩,by rw [M0.out,M1.out];omega⟩
 · intro hp
   go_wp2_with fail
   refine(BG.out).mono ?_
   rintro e_ w ⟨gn,L,rfl,hm,hK⟩
   replace hm:=hm.perm (show(⟨g,52,volN gt al gc (some ⟨gn,0,none⟩) 0 gs ld⟩::(L++⟨gs,5,st.map v8⟩::R)).Perm (⟨gs,5,st.map v8⟩::⟨g,52,volN gt al gc (some ⟨gn,0,none⟩) 0 gs ld⟩::(L++R))from(List.Perm.cons _ List.perm_middle).trans (List.Perm.swap _ _ _))
   rw [R0.out]at hm
   go_wp2_with fail
   go_step3
   rename_i hK2
   exact hK2 _ _ (hp _ _ ⟨_,_,_,_,_,_,_,_,_,_,_,_,_,_,_,_,_,_,_,_,_,_,rfl,⟨(show 0<4 from by omega),hK,hm⟩⟩)
theorem secO_stX(bk:Bool)(al:Int)(key st:List Byte)(n k:Nat)(hl:st.length=80)(hn:n<4)(hk:k<4):secO (stX bk al key st n) k=if k=n then wideX bk al key (twL n) (secO st n)else secO st k:=by
 have h:=secO_length st n hl hn
 exact secO_put st _ n k hl (by rw [wideX_length _ _ _ _ _ (by rw [show((st.drop (n*20)).take 20)=secO st n from rfl,h];omega)];exact h) hn hk
def xW(ws:List (List Byte))(k:Nat):List Byte:=match lwW ws k with
 |none=>zeros 20
 |some s=>s.drop 1
theorem lwF_len(ws:List (List Byte))(h:∀s∈ws,s.length=21)(n m:Nat)(hm:m≤ws.length):∀s,lwF ws n m=some s→s.length=21:=by
 induction m with
 |zero=>intro s e;cases e
 | succ m ih=>
   intro s e
   rw [lwF]at e
   split at e
   · cases e
     rw [List.getD_eq_getElem?_getD,List.getElem?_eq_getElem (by omega)];exact h _ (List.getElem_mem _)
   · exact ih (by omega) s e
theorem xW_length(ws:List (List Byte))(h:∀s∈ws,s.length=21)(k:Nat):(xW ws k).length=20:=by
 unfold xW
 split
 · exact zeros_length 20
 · rename_i s hs
   rw [List.length_drop,lwF_len ws h k _ (Nat.le_refl _) s hs]
def EncS(al:Int)(key:List Byte)(x:Nat→List Byte)(st:List Byte):Prop:=st.length=80∧∀k,k<4→(x k).length=20∧secO st k=eN4 al key k (x k)
theorem encS_fil(al:Int)(key:List Byte)(ws:List (List Byte))(h:∀s∈ws,s.length=21):EncS al key (xW ws) (filF al key ws ws.length):=
 ⟨filF_length al key ws h _ (Nat.le_refl _),fun k hk=>⟨xW_length ws h k,by
   rw [secO_fil al key ws h _ k (Nat.le_refl _) hk]
   show eW al key k (lwW ws k)=_
   unfold xW
   cases lwW ws k<;>rfl⟩⟩
theorem EncS.read {al:Int}{key:List Byte}{x:Nat→List Byte}{st:List Byte}(h:EncS al key x st)(k:Nat)(hk:k<4):wideD al key (twL k) ((st.drop (k*20)).take 20)=x k:=by
 obtain⟨h1,h2⟩:=h.2 k hk
 rw [show(st.drop (k*20)).take 20=secO st k from rfl,h2]
 exact wideD_wideE al key (twL k) (x k) (by omega)
theorem secO_rk {al:Int}{key:List Byte}{x:Nat→List Byte}{st:List Byte}(key':List Byte)(h:EncS al key x st)(m k:Nat)(hm:m≤4)(hk:k<4):secO (rkF al key key' st m) k=if k<m then eN4 al key' k (x k)else eN4 al key k (x k):=by
 induction m with
 |zero=>rw [if_neg (by omega)];exact(h.2 k hk).2
 | succ m ih=>
   have l0:=rkF_length al key key' st h.1 m (by omega)
   have l1:=stX_length true al key (rkF al key key' st m) m l0 (by omega)
   have ih:=ih (by omega)
   rw [rkF,stY,secO_stX false al key' _ m k l1 (by omega) hk]
   by_cases e:k=m
   · subst e
     rw [if_neg (by omega)]at ih
     rw [if_pos rfl,if_pos (by omega),secO_stX true al key _ k k l0 hk hk,if_pos rfl,ih]
     show wideE al key' (twL k) (wideD al key (twL k) (wideE al key (twL k) (x k)))=_
     rw [wideD_wideE al key (twL k) (x k) (by have:=(h.2 k hk).1;omega)]
     rfl
   · rw [if_neg e,secO_stX true al key _ m k l0 (by omega) hk,if_neg e,ih]
     by_cases e2:k<m
     · rw [if_pos e2,if_pos (by omega)]
     · rw [if_neg e2,if_neg (by omega)]
theorem EncS.rekey {al:Int}{key:List Byte}{x:Nat→List Byte}{st:List Byte}(h:EncS al key x st)(key':List Byte):EncS al key' x (rkF al key key' st 4):=
 ⟨rkF_length al key key' st h.1 4 (Nat.le_refl _),fun k hk=>⟨(h.2 k hk).1,by rw [secO_rk key' h 4 k (Nat.le_refl _) hk,if_pos hk]⟩⟩
theorem EncS.same {al:Int}{key:List Byte}{x:Nat→List Byte}{st st':List Byte}(h:EncS al key x st)(h':EncS al key x st'):st=st':=
 secO_all _ _ h.1 h'.1 fun k hk=>by rw [(h.2 k hk).2,(h'.2 k hk).2]
def rdC(x:Nat→List Byte)(k:Nat):List Value:=[if 0<k then .string (bstr (x 0))else .string ⟨#[]⟩,if 1<k then .string (bstr (x 1))else .string ⟨#[]⟩,if 2<k then .string (bstr (x 2))else .string ⟨#[]⟩,if 3<k then .string (bstr (x 3))else .string ⟨#[]⟩]
theorem rdC_set(x:Nat→List Byte)(k:Nat)(hk:k<4):(rdC x k).set k (.string (bstr (x k)))=rdC x (k+1):=by
 match k,hk with
 |0,_=>rfl
 |1,_=>rfl
 |2,_=>rfl
 |3,_=>rfl
theorem rdC_at(x:Nat→List Byte)(k:Nat)(hk:k<4):(rdC x 4)[k]? =some (.string (bstr (x k))):=by
 match k,hk with
 |0,_=>rfl
 |1,_=>rfl
 |2,_=>rfl
 |3,_=>rfl
def volT(w1:World)(g gt gs gr:Nat)(al:Int)(x:Nat→List Byte)(j r n:Nat)(w:World):Prop:=
 ∃(gc:Nat)(key st:List Byte)(mv:Int)(L:List Blk),EncS al key x st∧Own w1 w (⟨gs,5,st.map v8⟩::⟨g,52,volN gt al gc none mv gs (ldW r n)⟩::⟨gr,30,rdC x j⟩::L)∧∀wx M,Own w1 wx (M++L)→CipR wx gc al key
theorem volT.read {w1 w:World}{g gt gs gr:Nat}{al:Int}{x:Nat→List Byte}{j r n:Nat}(h:volT w1 g gt gs gr al x j r n w)(hr:r<20)(hn:n≤10)(k:Nat)(hk:k<4):
   Calls Tryz.prog 6 #[.pointer (some ⟨g,0,none⟩), .int .i64 (k:Int)] w fun e w'=>∃p c,e= .returned (.tuple #[.slice p 20 c, .int .i64 0])∧RdB w' p (x k)∧volT w1 g gt gs gr al x j (r+1) n w':=by
 obtain⟨gc,key,st,mv,L,hE,hm,hci⟩:=h
 have:=vread_any g gc gs k al key st (volN gt al gc none mv gs (ldW r n)) (volN gt al gc none mv gs (ldW (r+1) n)) (ldW r n) (ldW (r+1) n) (volN_K _ _ _ _ _ _ _) rfl rfl rfl rfl (show 8<9 from by omega) rfl rfl (ldW_inc r n hr hn) hE.1 hk w1 w (⟨gr,30,rdC x j⟩::L) hm (fun wx M ho=>hci wx (M++[_]) (by rw [List.append_assoc];exact ho))
 rw [hE.read k hk]at this
 exact this.mono fun e w' ⟨p,c,h1,h2,h3⟩=>⟨p,c,h1,h2,gc,key,st,mv,L,hE,h3,hci⟩
theorem volT.rekey {w1 w:World}{g gt gb gs gr:Nat}{al:Int}{x:Nat→List Byte}{j r n:Nat}(h:volT w1 g gt gs gr al x j r n w)(key:List Byte)(hk:SchOk al key)(p:Option Addr)(c:Nat)(hc:key.length≤c)(hr:RdB w1 p key)(ht:TabR gt gb w1)(hcb:CoefB w1):
   Calls Tryz.prog 7 #[.pointer (some ⟨g,0,none⟩), .slice p key.length c] w fun e w'=>e= .returned (.int .i64 0)∧∃(gc:Nat)(st:List Byte)(L:List Blk),EncS al key x st∧Own w1 w' (⟨gs,5,st.map v8⟩::⟨g,52,volN gt al gc none 4 gs (ldW r n)⟩::⟨gr,30,rdC x j⟩::L)∧∀wx M,Own w1 wx (M++L)→CipR wx gc al key:=by
 obtain⟨gc,key0,st,mv,L,hE,hm,hci⟩:=h
 refine(vrekey_any g gt gb gc gs al mv key0 key st hE.1 hk (ldW r n) p c hc w1 w (⟨gr,30,rdC x j⟩::L) hm (fun wx M ho=>hci wx (M++[_]) (by rw [List.append_assoc];exact ho)) hr ht hcb).mono ?_
 rintro e w' ⟨gn,N,h1,h2,h3⟩
 exact⟨h1,gn,_,N++L,hE.rekey key,h2.perm (List.Perm.cons _ (List.Perm.cons _ List.perm_middle)),fun wx M ho=>h3 wx (fun b hb=>ho.rows b (List.mem_append_right _ (List.mem_append_left _ hb))) (ht.ext ho.x)⟩
theorem volT.of {w1 w:World}{g gt gs gr gc:Nat}{al mv:Int}{x:Nat→List Byte}{j r n:Nat}{key st:List Byte}{L:List Blk}(hE:EncS al key x st)(hm:Own w1 w (⟨gs,5,st.map v8⟩::⟨g,52,volN gt al gc none mv gs (ldW r n)⟩::⟨gr,30,rdC x j⟩::L))(hc:∀wx M,Own w1 wx (M++L)→CipR wx gc al key):volT w1 g gt gs gr al x j r n w:=
 ⟨gc,key,st,mv,L,hE,hm,hc⟩
theorem volT.x {w1 w:World}{g gt gs gr:Nat}{al:Int}{x:Nat→List Byte}{j r n:Nat}(h:volT w1 g gt gs gr al x j r n w):Ext w1 w:=by
 obtain⟨_,_,_,_,_,_,hm,_⟩:=h;exact hm.x
theorem volT.ext {w1 w w':World}{g gt gs gr:Nat}{al:Int}{x:Nat→List Byte}{j r n:Nat}(h:volT w1 g gt gs gr al x j r n w)(hx:Ext w w'):volT w1 g gt gs gr al x j r n w':=by
 obtain⟨a,b,c,d,e,f,hm,k⟩:=h;exact⟨a,b,c,d,e,f,hm.ext hx,k⟩
end Go.Proofs.YtllnjbiebdkmbaaGreatDoor
