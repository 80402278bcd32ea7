/-
  Texts of the program, walked, and plain ones. Conditions: those written in each theorem.
-/
import Derived.Test.YtllnjbiebdkmbaaGreatDoorZTopReturns0
import Derived.Test.YtllnjbiebdkmbaaGreatDoorZTopReturns5
import Derived.Test.YtllnjbiebdkmbaaGreatDoorZTopReturns4
import Derived.Test.YtllnjbiebdkmbaaGreatDoorZTopReturns3
set_option linter.unusedSimpArgs false
set_option linter.unusedVariables false
set_option maxHeartbeats 16000000
namespace Go.Proofs.YtllnjbiebdkmbaaGreatDoor
open Go
def mixesL:List Byte:=[2#8,3#8,1#8,1#8]
def unmixesL:List Byte:=[14#8,11#8,13#8,9#8]
def brg(by_:List Byte)(row:Nat)(a:Byte):Nat→BitVec 32
 |0=>0#32
 |r+1=>brg by_ row a r|||((tms (nth by_ ((row+4-r)%4)) a).setWidth 32<<<(8*r))
def mixF(i:Nat):BitVec 32:=brg mixesL (i/256) (bxTo (BitVec.ofNat 8 (i%256))) 4
def unmixF(i:Nat):BitVec 32:=brg unmixesL (i/256) (BitVec.ofNat 8 (i%256)) 4
def mixT:List (BitVec 32):=tab 1024 mixF
def unmixT:List (BitVec 32):=tab 1024 unmixF
theorem mixT_length:mixT.length=1024:=tab_length
theorem unmixT_length:unmixT.length=1024:=tab_length
theorem mixT_nth(row:Nat)(a:Byte)(h:row<4):nth mixT (row*256+a.toNat)=brg mixesL row (bxTo a) 4:=by
 have ha:a.toNat<256:=a.isLt
 rw [mixT,nth_tab (by omega),mixF,show(row*256+a.toNat)/256=row from by omega,show(row*256+a.toNat)%256=a.toNat from by omega]
 simp
theorem unmixT_nth(row:Nat)(a:Byte)(h:row<4):nth unmixT (row*256+a.toNat)=brg unmixesL row a 4:=by
 have ha:a.toNat<256:=a.isLt
 rw [unmixT,nth_tab (by omega),unmixF,show(row*256+a.toNat)/256=row from by omega,show(row*256+a.toNat)%256=a.toNat from by omega]
 simp
def byteW(n:BitVec 32)(r:Nat):Byte:=(n>>>(8*r)).setWidth 8
theorem byteW_xor(n m:BitVec 32)(r:Nat):byteW (n^^^m) r=byteW n r^^^byteW m r:=by
 simp only [byteW,BitVec.ushiftRight_xor_distrib,BitVec.setWidth_xor]
theorem byteW_or(n m:BitVec 32)(r:Nat):byteW (n|||m) r=byteW n r|||byteW m r:=by
 apply BitVec.eq_of_getLsbD_eq;intro i hi;simp [byteW,hi]
theorem byteW_shl(x:Byte)(s r:Nat)(hs:s<4)(hr:r<4):byteW (x.setWidth 32<<<(8*s)) r=if s=r then x else 0#8:=by
 apply BitVec.eq_of_getLsbD_eq
 intro i hi
 simp only [byteW,BitVec.getLsbD_setWidth,BitVec.getLsbD_ushiftRight,BitVec.getLsbD_shiftLeft,hi,decide_true,Bool.true_and]
 by_cases e:s=r
 · subst e
   rw [if_pos rfl,show decide (8*s+i<8*s)=false from by simp,show 8*s+i-8*s=i from by omega]
   simp [show i<32 by omega];intro _;omega
 · rw [if_neg e]
   by_cases h:8*r+i<8*s
   · simp [h]
   · have:x.getLsbD (8*r+i-8*s)=false:=BitVec.getLsbD_of_ge _ _ (by omega)
     simp [this]
theorem byteW_brg(by_:List Byte)(row:Nat)(a:Byte)(r:Nat)(hr:r<4):byteW (brg by_ row a 4) r=tms (nth by_ ((row+4-r)%4)) a:=by
 have key:∀k,k≤4→byteW (brg by_ row a k) r=if r<k then tms (nth by_ ((row+4-r)%4)) a else 0#8:=by
   intro k
   induction k with
   |zero=>intro _;simp [brg,byteW]
   | succ k ih=>
     intro hk
     rw [brg,byteW_or,ih (by omega),byteW_shl _ _ _ (by omega) hr]
     by_cases h1:r<k
     · rw [if_pos h1,if_neg (by omega),if_pos (by omega)];simp
     · by_cases h2:k=r
       · subst h2;rw [if_neg (by omega),if_pos rfl,if_pos (by omega)];simp
       · rw [if_neg h1,if_neg h2,if_neg (by omega)];simp
 rw [key 4 (by omega),if_pos hr]
def shp(row col:Nat):Nat:=row+4*((col+row)%4)
theorem shp_lt(row col:Nat)(h:row<4):shp row col<16:=by unfold shp;omega
def colW(b key:List Byte)(col:Nat):Nat→BitVec 32
 |0=>(nth key (4*col)).setWidth 32|||((nth key (4*col+1)).setWidth 32<<<8)|||((nth key (4*col+2)).setWidth 32<<<16)|||((nth key (4*col+3)).setWidth 32<<<24)
 |row+1=>colW b key col row^^^brg mixesL row (bxTo (nth b (shp row col))) 4
def rndB(b key:List Byte)(i:Nat):Byte:=byteW (colW b key (i/4) 4) (i%4)
def rnd(b key:List Byte):List Byte:=tab 16 (rndB b key)
def lastB(b key:List Byte)(i:Nat):Byte:=bxTo (nth b (shp (i%4) (i/4)))^^^nth key i
def last(b key:List Byte):List Byte:=tab 16 (lastB b key)
def rnds(b:List Byte):List (List Byte)→List Byte
 |[]=>b
 |k::ks=>rnds (rnd b k) ks
theorem rnd_length(b key:List Byte):(rnd b key).length=16:=tab_length
theorem last_length(b key:List Byte):(last b key).length=16:=tab_length
theorem rnd_nth(b key:List Byte)(i:Nat)(h:i<16):nth (rnd b key) i=nth key i^^^(((tms (nth mixesL ((0+4-i%4)%4)) (bxTo (nth b (shp 0 (i/4))))^^^tms (nth mixesL ((1+4-i%4)%4)) (bxTo (nth b (shp 1 (i/4)))))^^^tms (nth mixesL ((2+4-i%4)%4)) (bxTo (nth b (shp 2 (i/4)))))^^^tms (nth mixesL ((3+4-i%4)%4)) (bxTo (nth b (shp 3 (i/4))))):=by
 rw [rnd,nth_tab h,rndB]
 have hr:i%4<4:=Nat.mod_lt _ (by omega)
 have hk:byteW (colW b key (i/4) 0) (i%4)=nth key i:=by
   have b0:byteW ((nth key (4*(i/4))).setWidth 32) (i%4)=if 0=i%4 then nth key (4*(i/4))else 0#8:=by
     have:=byteW_shl (nth key (4*(i/4))) 0 (i%4) (by omega) hr;simpa using this
   have b1:byteW ((nth key (4*(i/4)+1)).setWidth 32<<<8) (i%4)=if 1=i%4 then nth key (4*(i/4)+1)else 0#8:=byteW_shl _ 1 (i%4) (by omega) hr
   have b2:byteW ((nth key (4*(i/4)+2)).setWidth 32<<<16) (i%4)=if 2=i%4 then nth key (4*(i/4)+2)else 0#8:=byteW_shl _ 2 (i%4) (by omega) hr
   have b3:byteW ((nth key (4*(i/4)+3)).setWidth 32<<<24) (i%4)=if 3=i%4 then nth key (4*(i/4)+3)else 0#8:=byteW_shl _ 3 (i%4) (by omega) hr
   rw [colW,byteW_or,byteW_or,byteW_or,b0,b1,b2,b3]
   have hi:i=4*(i/4)+i%4:=by omega
   rcases (show i%4=0∨i%4=1∨i%4=2∨i%4=3 by omega)with e|e|e|e<;>rw [e]at hi⊢<;>simp<;>exact congrArg (nth key) (by omega)
 simp only [colW]at hk⊢
 simp only [byteW_xor,hk,byteW_brg _ _ _ _ hr]
 ac_rfl
def unbF(b:List Byte):Nat→List Byte
 |0=>zer 16
 |k+1=>setN (unbF b k) (shp (k%4) (k/4)) (bxBack (nth b k))
def unbL(b:List Byte):List Byte:=unbF b 16
theorem unbF_length(b:List Byte)(k:Nat):(unbF b k).length=16:=by
 induction k with
 |zero=>exact zer_length
 |succ k ih=>rw [unbF,setN_length,ih]
theorem unbL_length(b:List Byte):(unbL b).length=16:=unbF_length b 16
def ush(j:Nat):Nat:=j%4+4*((j/4+4-j%4)%4)
theorem ush_lt(j:Nat)(h:j<16):ush j<16:=by unfold ush;omega
theorem shp_ush(j:Nat)(h:j<16):shp (ush j%4) (ush j/4)=j:=by unfold ush shp;omega
theorem shp_is(k j:Nat)(hk:k<16)(hj:j<16):(shp (k%4) (k/4)=j)↔(ush j=k):=by unfold ush shp;omega
theorem unbF_nth(b:List Byte)(j:Nat)(hj:j<16):∀k,k≤16→nth (unbF b k) j=if ush j<k then bxBack (nth b (ush j))else 0#8:=by
 intro k
 induction k with
 |zero=>intro _;rw [if_neg (by omega),unbF,zer,nth_tab hj];rfl
 | succ k ih=>
   intro hk
   rw [unbF,nth_set (by rw [unbF_length];exact hj),ih (by omega)]
   by_cases e:ush j=k
   · rw [if_pos ((shp_is k j (by omega) hj).2 e),if_pos (by omega),e]
   · rw [if_neg (fun h=>e ((shp_is k j (by omega) hj).1 h))]
     by_cases h:ush j<k
     · rw [if_pos h,if_pos (by omega)]
     · rw [if_neg h,if_neg (by omega)]
theorem unbL_nth(b:List Byte)(j:Nat)(h:j<16):nth (unbL b) j=bxBack (nth b (ush j)):=by rw [unbL,unbF_nth b j h 16 (Nat.le_refl _),if_pos (ush_lt j h)]
def cmb(by_:List Byte)(r:Nat)(x:Nat→Byte):Byte:=((tms (nth by_ ((0+4-r)%4)) (x 0)^^^tms (nth by_ ((1+4-r)%4)) (x 1))^^^tms (nth by_ ((2+4-r)%4)) (x 2))^^^tms (nth by_ ((3+4-r)%4)) (x 3)
theorem xor16(a b c d e f g h i j k l m n o p:Byte):(((((a^^^b)^^^c)^^^d)^^^(((e^^^f)^^^g)^^^h))^^^(((i^^^j)^^^k)^^^l))^^^(((m^^^n)^^^o)^^^p)=(((((a^^^e)^^^i)^^^m)^^^(((b^^^f)^^^j)^^^n))^^^(((c^^^g)^^^k)^^^o))^^^(((d^^^h)^^^l)^^^p):=by ac_rfl
theorem cmb_two(u m:List Byte)(r:Nat)(x:Nat→Byte)(q:Nat)(hq:q<4)
   (h:∀k,k<4→∀y:Byte,((tms (nth u ((0+4-r)%4)) (tms (nth m ((k+4-0)%4)) y)^^^tms (nth u ((1+4-r)%4)) (tms (nth m ((k+4-1)%4)) y))^^^tms (nth u ((2+4-r)%4)) (tms (nth m ((k+4-2)%4)) y))^^^tms (nth u ((3+4-r)%4)) (tms (nth m ((k+4-3)%4)) y)=if k=q then y else 0#8):
   cmb u r (fun k=>cmb m k x)=x q:=by
 unfold cmb
 simp only [tms_xb]
 rw [xor16,h 0 (by omega),h 1 (by omega),h 2 (by omega),h 3 (by omega)]
 rcases (show q=0∨q=1∨q=2∨q=3 by omega)with rfl|rfl|rfl|rfl<;>simp
theorem unmix_mix(r:Nat)(hr:r<4)(x:Nat→Byte):cmb unmixesL r (fun k=>cmb mixesL k x)=x r:=by
 refine cmb_two _ _ r x r hr fun k hk=> ?_
 rcases (show r=0∨r=1∨r=2∨r=3 by omega)with rfl|rfl|rfl|rfl<;>rcases (show k=0∨k=1∨k=2∨k=3 by omega)with rfl|rfl|rfl|rfl<;>decide+kernel
def uncW(b:List Byte)(col:Nat):Nat→BitVec 32
 |0=>0#32
 |r+1=>uncW b col r^^^brg unmixesL r (nth b (r+4*col)) 4
def uncB(b:List Byte)(i:Nat):Byte:=byteW (uncW b (i/4) 4) (i%4)
def uncL(b:List Byte):List Byte:=tab 16 (uncB b)
theorem uncL_length(b:List Byte):(uncL b).length=16:=tab_length
theorem uncB_cmb(b:List Byte)(i:Nat):uncB b i=cmb unmixesL (i%4) fun k=>nth b (k+4*(i/4)):=by
 have hr:i%4<4:=Nat.mod_lt _ (by omega)
 have h0:byteW 0#32 (i%4)=0#8:=by simp [byteW]
 simp only [uncB,uncW,byteW_xor,byteW_brg _ _ _ _ hr,h0,BitVec.zero_xor,cmb]
theorem uncL_nth(b:List Byte)(i:Nat)(h:i<16):nth (uncL b) i=cmb unmixesL (i%4) fun k=>nth b (k+4*(i/4)):=by rw [uncL,nth_tab h,uncB_cmb]
theorem rnd_cmb(b key:List Byte)(i:Nat)(h:i<16):nth (rnd b key) i=nth key i^^^cmb mixesL (i%4) fun k=>bxTo (nth b (shp k (i/4))):=rnd_nth b key i h
def unr(b key:List Byte):List Byte:=unbL (uncL (bothL b key))
def unl(b key:List Byte):List Byte:=unbL (bothL b key)
theorem unr_length(b key:List Byte):(unr b key).length=16:=unbL_length _
theorem unl_length(b key:List Byte):(unl b key).length=16:=unbL_length _
theorem xor_back(k x:Byte):(k^^^x)^^^k=x:=by rw [BitVec.xor_comm k x,BitVec.xor_assoc,BitVec.xor_self,BitVec.xor_zero]
theorem cmb_congr(by_:List Byte)(r:Nat)(x y:Nat→Byte)(h:∀k,k<4→x k=y k):cmb by_ r x=cmb by_ r y:=by
 unfold cmb;rw [h 0 (by omega),h 1 (by omega),h 2 (by omega),h 3 (by omega)]
theorem unr_rnd(b key:List Byte)(hb:b.length=16):unr (rnd b key) key=b:=by
 apply nth_ext (by rw [unr_length,hb])
 intro j hj
 rw [unr_length]at hj
 have hu:=ush_lt j hj
 have h4:ush j%4<4:=Nat.mod_lt _ (by omega)
 rw [unr,unbL_nth _ _ hj,uncL_nth _ _ hu]
 have:(cmb unmixesL (ush j%4) fun k=>nth (bothL (rnd b key) key) (k+4*(ush j/4)))=cmb unmixesL (ush j%4) fun k=>cmb mixesL k fun q=>bxTo (nth b (shp q (ush j/4))):=by
   apply cmb_congr
   intro k hk
   rw [bothL_nth _ _ _ (by omega),rnd_cmb _ _ _ (by omega),xor_back,show(k+4*(ush j/4))%4=k from by omega,show(k+4*(ush j/4))/4=ush j/4 from by omega]
 rw [this,unmix_mix _ h4,back_to,shp_ush j hj]
theorem unl_last(b key:List Byte)(hb:b.length=16):unl (last b key) key=b:=by
 apply nth_ext (by rw [unl_length,hb])
 intro j hj
 rw [unl_length]at hj
 have hu:=ush_lt j hj
 rw [unl,unbL_nth _ _ hj,bothL_nth _ _ _ hu,last,nth_tab hu,lastB,BitVec.xor_assoc,BitVec.xor_self,BitVec.xor_zero,back_to,shp_ush j hj]
/-! ### Rounds, one after the other -/
theorem rnds_length(ks:List (List Byte)):∀b:List Byte,b.length=16→(rnds b ks).length=16:=by
 induction ks with
 |nil=>intro b h;exact h
 |cons k ks ih=>intro b _;exact ih _ (rnd_length b k)
theorem rnds_append(ks ls:List (List Byte)):∀b:List Byte,rnds b (ks++ls)=rnds (rnds b ks) ls:=by
 induction ks with
 |nil=>intro b;rfl
 |cons k ks ih=>intro b;exact ih _
theorem rnds_take(b:List Byte)(ks:List (List Byte))(k:Nat)(h:k<ks.length):rnds b (ks.take (k+1))=rnd (rnds b (ks.take k)) (ks.getD k []):=by
 rw [List.take_succ_eq_append_getElem h,rnds_append]
 simp [rnds,h]
open Go Go.RowKit
set_option maxRecDepth 100000
def fillTo(r:List Byte)(k:Nat):List Byte:=r.take k++List.replicate (r.length-k) 0
theorem fillTo_length(r:List Byte)(k:Nat)(h:k≤r.length):(fillTo r k).length=r.length:=by simp [fillTo];omega
theorem fillTo_zero(r:List Byte):fillTo r 0=zeros r.length:=by simp [fillTo,zeros]
theorem fillTo_all(r:List Byte):fillTo r r.length=r:=by simp [fillTo]
theorem fillTo_set(r:List Byte)(k:Nat)(h:k<r.length):(fillTo r k).set k (r.getD k 0)=fillTo r (k+1):=by
 apply List.ext_getElem
 · rw [List.length_set,fillTo_length _ _ (by omega),fillTo_length _ _ (by omega)]
 · intro i h1 h2
   rw [List.getElem_set]
   rw [List.length_set,fillTo_length _ _ (by omega)]at h1
   by_cases e:k=i
   · subst e
     rw [if_pos rfl]
     simp only [fillTo]
     rw [List.getElem_append_left (by simp;omega)]
     simp [h]
   · rw [if_neg e]
     simp only [fillTo]
     by_cases hik:i<k
     · rw [List.getElem_append_left (by simp;omega),List.getElem_append_left (by simp;omega)]
       simp
     · rw [List.getElem_append_right (by simp;omega),List.getElem_append_right (by simp;omega)]
       simp
def xorL(a b:List Byte):List Byte:=List.zipWith (fun x y=>x^^^y) a b
theorem xorL_length(a b:List Byte):(xorL a b).length=min a.length b.length:=by simp [xorL]
theorem xorL_getD(a b:List Byte)(k:Nat)(h:k<(xorL a b).length):(xorL a b).getD k 0=a.getD k 0^^^b.getD k 0:=by
 rw [xorL_length]at h
 have h1:k<a.length:=by omega
 have h2:k<b.length:=by omega
 simp [xorL,List.getElem?_zipWith,h1,h2]
theorem xor_any(a b:List Byte)(p q:Option Addr)(c d:Nat)(w:World)(ha:RdB w p a)(hb:RdB w q b)(hla:a.length≤140737488355328)(hlb:b.length≤140737488355328):
   GivesR Tryz.prog 57 #[.slice p a.length c, .slice q b.length d] w (BytesS (xorL a b)):=by
 unfold GivesR
 have hn:=xorL_length a b
 generalize hN:(xorL a b).length=n at*
 have hx:Ext w (w.alloc (.cells ((zeros n).map v8).toArray 5)):=(Ext.refl w).alloc _
 have hrow:=row_new w 5 ((zeros n).map v8)
 have HN:=Lib.hid hN
 have Hn:=Lib.hid hn
 have hn1:n≤a.length:=by omega
 have hn2:n≤b.length:=by omega
 clear hN hn
 rcases Nat.lt_or_ge b.length a.length with hab|hab
 all_goals
   go_enter Tryz.func57,Tryz.ntmps57
   go_wp2_with (with_reducible show wpList _ _ _ _ _ _;refine make_b n rfl rfl rfl rfl (by have:=Hn.out;omega) (by have:=Hn.out;omega) (by omega) ?_)
   go_loopw [6,15] (fun _ i wr=>∃k:Nat,k≤n∧i= .int .i64 k∧Row wr w.heap.size 5 ((fillTo (xorL a b) k).map v8)∧Ext w wr) (fun _ i _=>n-(intOf i).toNat)
   case atStart=>exact⟨0,Nat.zero_le _,rfl,by rw [fillTo_zero,HN.out];exact hrow,hx⟩
   case round =>
     obtain⟨k,hk,rfl,hr,hxr⟩:=hrel
     by_cases hlt:k<n
     · have hka:k<a.length:=by omega
       have hkb:k<b.length:=by omega
       have hpa:=(ha.ext hxr).isSome k (by omega)
       have hpb:=(hb.ext hxr).isSome k (by omega)
       have hca:=fun wx (hwx:Ext wr wx)=>((ha.ext hxr).ext hwx).at k (by omega)
       have hcb:=fun wx (hwx:Ext wr wx)=>((hb.ext hxr).ext hwx).at k (by omega)
       have hset:=fillTo_set (xorL a b) k (by rw [HN.out];exact hlt)
       have e:a.getD k 0^^^b.getD k 0=a[k]^^^b[k]:=by simp [hka,hkb]
       rw [xorL_getD a b k (by rw [HN.out];exact hlt),e]at hset
       have Hset:=Lib.hid hset
       clear hset e
       go_wp2
       refine region_at 12 (fun w'=>Ext wr w') 32 (by kernel_rfl) (by kernel_rfl) rfl (fun _ _ h k=>h.trans k) (drew_ext _) ?_
       simp only [tSC,List.take_zero,dSC,List.drop_zero,List.map_cons,List.map_nil]
       repeat (first
           | (apply walk_is rfl rfl rfl
              · (intro wx hwx;go_simp;(try go_bits);first|exact gives_same|exact gives_skip)
              · (simp only [Act.put,sIB,sCS,sCZ];rfl))
           | (apply walk_not rfl rfl rfl
              · (simp only [Act.put,sIB,sCS,sCZ];rfl)))
       intro wz hwz
       simp only [zCC,zNR]
       repeat (first|rw [fin_is]|(rw [fin_cons];intro _ _))
       rw [fin_nil]
       try (replace hm:=hm.ext hwz)
       simp only [Act.put,sIB,sCS,sCZ]
       have hr':=row_ext hr hwz
       have hc:=row_v8 hr' k (by rw [fillTo_length _ _ (by rw [HN.out];omega),HN.out];exact hlt)
       have hf:=row_free hr' k
       have hrs:=row_set hr' k (v8 (a[k]^^^b[k]))
       rw [←List.map_set,Hset.out]at hrs
       have hxz:=ext_setCell (hxr.trans hwz) ⟨w.heap.size,k,none⟩ (v8 (a[k]^^^b[k])) (Nat.le_refl _)
       go_wp2
       go_roundw
       case rel=>exact⟨k+1,by omega,by go_num,hrs,hxz⟩
       case measure=>simp [intOf]<;>omega
     · obtain rfl:k=n:=by omega
       go_wp2
       go_ret
       have hr':Row wr w.heap.size 5 ((xorL a b).map v8):=by rw [←HN.out,fillTo_all]at hr;exact hr
       exact⟨_,rfl,⟨_,_,by rw [HN.out];rfl,by rw [HN.out];exact Nat.le_refl _,RdB.of_row hr'⟩,hxr⟩
def orL(a b:List Byte):Nat→Byte
 |0=>0#8
 |k+1=>orL a b k|||(a.getD k 0^^^b.getD k 0)
def putL(n:BitVec 64)(m:Nat):List Byte:=(List.range m).map fun k=>(n>>>(8*k)).setWidth 8
theorem putL_length(n:BitVec 64)(m:Nat):(putL n m).length=m:=by simp [putL]
theorem putL_getD(n:BitVec 64)(m k:Nat)(h:k<m):(putL n m).getD k 0=(n>>>(8*k)).setWidth 8:=by simp [putL,h]
theorem fillTo_zero'(r:List Byte)(n:Nat)(h:r.length=n):(fillTo r 0).map v8=(List.replicate n (0:Byte)).map v8:=by
 rw [fillTo_zero,h];rfl
@[local go_sem] theorem conv_32_8 (x : BitVec 32) (w : World) : (convert 74 5 (v32 x)).run Tryz.prog w = .ok (v8 (x.setWidth 8)) w := conv32_8 x _ _ _ w rfl rfl
theorem zeros4:(#[Value.int IntKind.u8 0,Value.int IntKind.u8 0,Value.int IntKind.u8 0,Value.int IntKind.u8 0]:Array Value)=((List.replicate 4 (0:Byte)).map v8).toArray:=rfl
theorem put32_byte(n:BitVec 32)(k:Nat):((n.setWidth 64)>>>(8*k)).setWidth 8=(n>>>(8*k)).setWidth 8:=by
 apply BitVec.eq_of_getLsbD_eq;intro i hi
 simp [hi]
 intro h;exact Classical.byContradiction fun h2=>by
   have:=BitVec.getLsbD_of_ge n (8*k+i) (by omega)
   rw [this]at h;cases h
theorem putword_any(n:BitVec 32)(w:World):
   Gives Tryz.prog 59 #[v32 n] w (A8 (putL (n.setWidth 64) 4)):=by
 unfold Gives
 have hl:=putL_length (n.setWidth 64) 4
 have hb:∀k,k<4→(fillTo (putL (n.setWidth 64) 4) k).set k ((n>>>(8*k)).setWidth 8)=fillTo (putL (n.setWidth 64) 4) (k+1):=by
   intro k hk
   rw [←put32_byte,←putL_getD (n.setWidth 64) 4 k hk]
   exact fillTo_set _ k (by rw [hl];exact hk)
 have h0:=fillTo_zero' (putL (n.setWidth 64) 4) 4 hl
 have h1:fillTo (putL (n.setWidth 64) 4) 4=putL (n.setWidth 64) 4:=by have:=fillTo_all (putL (n.setWidth 64) 4);rwa [hl]at this
 have hlen:∀k,k≤4→(fillTo (putL (n.setWidth 64) 4) k).length=4:=fun k hk=>by rw [fillTo_length _ _ (by rw [hl];exact hk),hl]
 generalize putL (n.setWidth 64) 4=r at*
 have H0:=Lib.hid h0
 have H1:=Lib.hid h1
 have HB:=Lib.hid hb
 have HL:=Lib.hid hlen
 have Hl:=Lib.hid hl
 clear h0 h1 hb hlen hl
 go_enter Tryz.func59,Tryz.ntmps59
 go_wp2
 rw [zeros4]
 go_loopw [4,5] (fun _ i wr=>∃k:Nat,k≤4∧i= .int .i64 k∧Row wr (w.heap.size+1) 87 ((fillTo r k).map v8)∧Row wr w.heap.size 87 ((List.replicate 4 (0:Byte)).map v8)∧Ext w wr) (fun _ i _=>4-(intOf i).toNat)
 case atStart=>exact⟨0,Nat.zero_le _,rfl,by rw [H0.out];exact heap_alloc2_new _ _ _,heap_alloc2_old _ _ _,((Ext.refl w).alloc _).alloc _⟩
 case round=>
   obtain⟨k,hk,rfl,hr1,hr0,hx⟩:=hrel
   by_cases hlt:k<4
   · have hc:=row_v8 hr1 k (by rw [HL.out k hk];exact hlt)
     have hf:=row_free hr1 k
     have hrs:=row_set hr1 k (v8 ((n>>>(8*k)).setWidth 8))
     rw [←List.map_set,HB.out k hlt]at hrs
     go_wp2
     go_roundw
     case rel=>exact⟨k+1,by omega,by go_num,hrs,row_other hr0 _ _ (by simp),ext_setCell hx _ _ (by simp)⟩
     case measure=>simp [intOf]<;>omega
   · obtain rfl:k=4:=by omega
     rw [H1.out]at hr1
     go_wp2_with (first|(with_reducible show wpList _ _ _ _ _ _;refine wpl_load_row rfl rfl rfl hr1 rfl rfl (by simp only [List.length_map,Hl.out];kernel_rfl) ?_)|(with_reducible show wpList _ _ _ _ _ _;refine wpl_store_row (cs:=r.map v8) rfl rfl rfl rfl hr0 (by simp [Hl.out]) (by simp only [List.length_map,Hl.out];kernel_rfl) (one_v8 _) ?_))
     refine ret_row rfl rfl (row_setRow hr0 _) rfl rfl (by simp only [List.length_map,Hl.out];kernel_rfl) rfl ⟨rfl, ?_⟩
     exact ext_setRow hx _ _ (by omega)
@[local go_sem] theorem conv_64_8 (x : BitVec 64) (w : World) : (convert 69 5 (v64 x)).run Tryz.prog w = .ok (v8 (x.setWidth 8)) w := conv64_8 x _ _ _ w rfl rfl
theorem zeros8:(#[Value.int IntKind.u8 0,Value.int IntKind.u8 0,Value.int IntKind.u8 0,Value.int IntKind.u8 0,Value.int IntKind.u8 0,Value.int IntKind.u8 0,Value.int IntKind.u8 0,Value.int IntKind.u8 0]:Array Value)=((List.replicate 8 (0:Byte)).map v8).toArray:=rfl
theorem put64_byte(n:BitVec 64)(k:Nat):((n.setWidth 64)>>>(8*k)).setWidth 8=(n>>>(8*k)).setWidth 8:=by
 apply BitVec.eq_of_getLsbD_eq;intro i hi
 simp [hi]
theorem putlong_any(n:BitVec 64)(w:World):
   Gives Tryz.prog 43 #[v64 n] w (A8 (putL (n.setWidth 64) 8)):=by
 unfold Gives
 have hl:=putL_length (n.setWidth 64) 8
 have hb:∀k,k<8→(fillTo (putL (n.setWidth 64) 8) k).set k ((n>>>(8*k)).setWidth 8)=fillTo (putL (n.setWidth 64) 8) (k+1):=by
   intro k hk
   rw [←put64_byte,←putL_getD (n.setWidth 64) 8 k hk]
   exact fillTo_set _ k (by rw [hl];exact hk)
 have h0:=fillTo_zero' (putL (n.setWidth 64) 8) 8 hl
 have h1:fillTo (putL (n.setWidth 64) 8) 8=putL (n.setWidth 64) 8:=by have:=fillTo_all (putL (n.setWidth 64) 8);rwa [hl]at this
 have hlen:∀k,k≤8→(fillTo (putL (n.setWidth 64) 8) k).length=8:=fun k hk=>by rw [fillTo_length _ _ (by rw [hl];exact hk),hl]
 generalize putL (n.setWidth 64) 8=r at*
 have H0:=Lib.hid h0
 have H1:=Lib.hid h1
 have HB:=Lib.hid hb
 have HL:=Lib.hid hlen
 have Hl:=Lib.hid hl
 clear h0 h1 hb hlen hl
 go_enter Tryz.func43,Tryz.ntmps43
 go_wp2
 rw [zeros8]
 go_loopw [4,5] (fun _ i wr=>∃k:Nat,k≤8∧i= .int .i64 k∧Row wr (w.heap.size+1) 94 ((fillTo r k).map v8)∧Row wr w.heap.size 94 ((List.replicate 8 (0:Byte)).map v8)∧Ext w wr) (fun _ i _=>8-(intOf i).toNat)
 case atStart=>exact⟨0,Nat.zero_le _,rfl,by rw [H0.out];exact heap_alloc2_new _ _ _,heap_alloc2_old _ _ _,((Ext.refl w).alloc _).alloc _⟩
 case round=>
   obtain⟨k,hk,rfl,hr1,hr0,hx⟩:=hrel
   by_cases hlt:k<8
   · have hc:=row_v8 hr1 k (by rw [HL.out k hk];exact hlt)
     have hf:=row_free hr1 k
     have hrs:=row_set hr1 k (v8 ((n>>>(8*k)).setWidth 8))
     rw [←List.map_set,HB.out k hlt]at hrs
     go_wp2
     go_roundw
     case rel=>exact⟨k+1,by omega,by go_num,hrs,row_other hr0 _ _ (by simp),ext_setCell hx _ _ (by simp)⟩
     case measure=>simp [intOf]<;>omega
   · obtain rfl:k=8:=by omega
     rw [H1.out]at hr1
     go_wp2_with (first|(with_reducible show wpList _ _ _ _ _ _;refine wpl_load_row rfl rfl rfl hr1 rfl rfl (by simp only [List.length_map,Hl.out];kernel_rfl) ?_)|(with_reducible show wpList _ _ _ _ _ _;refine wpl_store_row (cs:=r.map v8) rfl rfl rfl rfl hr0 (by simp [Hl.out]) (by simp only [List.length_map,Hl.out];kernel_rfl) (one_v8 _) ?_))
     refine ret_row rfl rfl (row_setRow hr0 _) rfl rfl (by simp only [List.length_map,Hl.out];kernel_rfl) rfl ⟨rfl, ?_⟩
     exact ext_setRow hx _ _ (by omega)
theorem rtO {P:Program}{w0 w:World}{L:List Blk}{T t:TypeId}{g:Nat}{cs:List Value}{a:Act}{fn:Func}{R:Ending→World→Prop}{p:Tmp}{n:Nat}(hm:Own w0 w L)(h:fn.results= #[.cell p T])(hp:a.tmps.getD p undef= .pointer (some ⟨g,0,none⟩))(hT:Many P T n:=by infer_instance)(hh:Has L ⟨g,t,cs⟩:=by repeat (first|exact Has.hd|assumption|apply Has.tl|apply Has.app))(hn:cs.length=n:=by first|rfl|omega|(simp only [zeros_length,zer_length,tab_length,part_length,setN_length,List.length_map,List.length_cons,List.length_nil,List.length_append,List.length_take,List.length_drop,List.length_replicate,blk_length,putL_length]<;>omega))(hf:a.defers=[]:=by rfl)(hR:R (.returned (.agg cs.toArray)) w):bodyPost P fn R .ret a w:=ret_own hm h hp hT hh hn hf hR
end Go.Proofs.YtllnjbiebdkmbaaGreatDoor
