/-
  Texts of the program, walked, and plain ones. Conditions: those written in each theorem.
-/
import Derived.Test.YtneacgpmjlocjaaGreatDoorZTopWrapped0
import Derived.Test.YtneacgpmjlocjaaGreatDoorZTopWrapped5
import Derived.Test.YtneacgpmjlocjaaGreatDoorZTopWrapped4
import Derived.Test.YtneacgpmjlocjaaGreatDoorZTopWrapped3
set_option linter.unusedSimpArgs false
set_option linter.unusedVariables false
set_option maxHeartbeats 16000000
open Go.Lib (hid)
namespace Go.Proofs.YtneacgpmjlocjaaGreatDoor
open Go Go.RowKit
set_option maxRecDepth 100000
def nbk(n:Nat):Nat:=(n-1)/128
theorem nbk_le(n:Nat):128*nbk n≤n:=by unfold nbk;omega
theorem nbk_rest(n:Nat):n-128*nbk n≤128:=by unfold nbk;omega
theorem nbk_lt(n k:Nat)(h:k<nbk n):128<n-128*k:=by unfold nbk at h;omega
theorem nbk_ge(n k:Nat)(h:nbk n≤k):n-128*k≤128:=by unfold nbk at h;omega
theorem nbk_mono {n m:Nat}(h:n≤m):nbk n≤nbk m:=by unfold nbk;omega
def bkAt(l:List Byte)(k:Nat):List Byte:=(l.drop (128*k)).take 128
def chF(h:List (BitVec 64))(l:List Byte):Nat→List (BitVec 64)
 |0=>h
 |k+1=>compL (chF h l k) (mL (bkAt l k)) (BitVec.ofNat 64 (128*(k+1))) 0#64 false
theorem chF_length(h:List (BitVec 64))(l:List Byte)(hh:h.length=8)(k:Nat):(chF h l k).length=8:=by
 cases k with
 |zero=>exact hh
 |succ k=>exact compL_length _ _ _ _ _
theorem bkAt_append(l m:List Byte)(k:Nat)(h:128*(k+1)≤l.length):bkAt (l++m) k=bkAt l k:=by
 unfold bkAt
 rw [List.drop_append_of_le_length (by omega),List.take_append_of_le_length (by simp;omega)]
theorem chF_append(h:List (BitVec 64))(l m:List Byte):∀k,128*k≤l.length→chF h (l++m) k=chF h l k:=by
 intro k
 induction k with
 |zero=>intro _;rfl
 |succ k ih=>intro hk;rw [chF,chF,ih (by omega),bkAt_append l m k hk]
def finL(h:List (BitVec 64))(l:List Byte):List (BitVec 64):=compL (chF h l (nbk l.length)) (mL (l.drop (128*nbk l.length))) (BitVec.ofNat 64 l.length) 0#64 true
theorem finL_length(h:List (BitVec 64))(l:List Byte):(finL h l).length=8:=compL_length _ _ _ _ _
def outL(h:List (BitVec 64)):List Byte:=(h.map fun n=>putL n 8).flatten
theorem flat8:∀(h:List (BitVec 64)),((h.map fun n=>putL n 8).flatten).length=8*h.length
 |[]=>rfl
 |n::h=>by simp [putL_length,flat8 h];omega
theorem outL_length(h:List (BitVec 64)):(outL h).length=8*h.length:=flat8 h
def startL(size key:Nat):List (BitVec 64):=setN firstL 0 (nth firstL 0^^^(((0x01010000#64)^^^(BitVec.ofNat 64 key<<<8))^^^BitVec.ofNat 64 size))
theorem startL_length(size key:Nat):(startL size key).length=8:=by rw [startL,setN_length];rfl
def keyL(key:List Byte):List Byte:=if key.length=0 then []else pad key 128
def sumL(size:Nat)(key b:List Byte):List Byte:=(outL (finL (startL size key.length) (keyL key++b))).take size
theorem sumL_length(size:Nat)(key b:List Byte)(h:size≤64):(sumL size key b).length=size:=by
 rw [sumL,List.length_take,outL_length,finL_length];omega
theorem carry_none(n m:Nat)(h:n+m<18446744073709551616):carryB (BitVec.ofNat 64 n) (BitVec.ofNat 64 m) 0#64=0#64:=by
 have e:((BitVec.ofNat 64 n).toNat+(BitVec.ofNat 64 m).toNat+(0#64).toNat)/2^64=0:=by
   rw [BitVec.toNat_ofNat,BitVec.toNat_ofNat]
   show(n%18446744073709551616+m%18446744073709551616+0)/18446744073709551616=0
   omega
 rw [carryB,e]
theorem ofNat_plus(n m:Nat):BitVec.ofNat 64 n+BitVec.ofNat 64 m=BitVec.ofNat 64 (n+m):=(BitVec.ofNat_add n m).symm
def hashC(h:List (BitVec 64))(n:Nat)(v:Value)(sz:Int):List Value:=h.map v64++([v64 (BitVec.ofNat 64 n),v64 0#64]++([v]++[.int .i64 sz]))
section
variable {h h':List (BitVec 64)} {n n':Nat} {v v':Value} {sz:Int} (hh:h.length=8)
include hh
theorem hashC_length:(hashC h n v sz).length=12:=by simp [hashC,hh]
theorem hashC_h:((hashC h n v sz).drop 0).take 8=h.map v64:=by
 unfold hashC;rw [dZe,List.take_append_of_le_length (by simp [hh]),List.take_of_length_le (by simp [hh])]
theorem hashC_cnt:((hashC h n v sz).drop 8).take 2=[v64 (BitVec.ofNat 64 n),v64 0#64]:=by
 unfold hashC;rw [List.drop_append,List.drop_eq_nil_of_le (by simp [hh]),List.nil_append,List.length_map,hh];rfl
theorem hashC_rest:(hashC h n v sz)[10]? =some v:=by
 unfold hashC;rw [List.getElem?_append_right (by simp [hh])];simp [hh]
theorem hashC_size:(hashC h n v sz)[11]? =some (.int .i64 sz):=by
 unfold hashC;rw [List.getElem?_append_right (by simp [hh])];simp [hh]
theorem hashC_set_h(k:h'.length=8):(hashC h n v sz).take 0++h'.map v64++(hashC h n v sz).drop (0+8)=hashC h' n v sz:=by
 unfold hashC;rw [tZe,List.nil_append,Nat.zero_add,List.drop_append,List.drop_eq_nil_of_le (by simp [hh]),List.nil_append,List.length_map,hh,Nat.sub_self,dZe]
theorem hashC_set_cnt:(hashC h n v sz).take 8++[v64 (BitVec.ofNat 64 n'),v64 0#64]++(hashC h n v sz).drop (8+2)=hashC h n' v sz:=by
 unfold hashC;rw [List.take_append_of_le_length (by simp [hh]),List.take_of_length_le (by simp [hh]),List.drop_append,List.drop_eq_nil_of_le (by simp [hh]),List.nil_append,List.length_map,hh,List.append_assoc];rfl
theorem hashC_set_rest:(hashC h n v sz).set 10 v'=hashC h n v' sz:=by
 unfold hashC;rw [List.set_append_right _ _ (by simp [hh]),List.length_map,hh];rfl
end
section
variable {P:Program} {ops:Array Oper} {Q:Exit→Act→World→Prop} {rest:List Oper} {dst:Option Tmp} {ty:TypeId} {pos:String} {aft:Array Edge} {gd:Option (Nat×Bool)} {a:Act} {w0 w:World} {L L':List Blk} {T t:TypeId} {x y:Operand} {g k n:Nat} {cs cs' vs:List Value}
theorem wq_stA(hm:Own w0 w L)(hgd:Region.wanted (Oper.mk dst (.store T x y) ty pos aft gd) (yielded ops a.tmps)=true)(hT:Many P T n)(hx:a.eval x= .pointer (some ⟨g,k,none⟩))(hy:a.eval y= .agg vs.toArray)(hs:Swap L ⟨g,t,cs⟩ ⟨g,t,cs'⟩ L')(he:cs.take k++vs++cs.drop (k+n)=cs')(hl:vs.length=n)(hk:k+n≤cs.length)(h1:∀v∈vs,v.oneCell'=true)
   (hr:∀w',Own w0 w' L'→wpList P ops Q rest (a.put dst undef) w'):wpList P ops Q ((Oper.mk dst (.store T x y) ty pos aft gd)::rest) a w:=wpl_stA hm hgd rfl hx hy hs hl hk h1 he hr
end
def blkN(b:List Byte):List Byte:=over (zer 128) 0 (b.take 128)
theorem blkN_length(b:List Byte):(blkN b).length=128:=by rw [blkN,over_length _ _ _ (by simp;omega)];exact zer_length
theorem gb_blkN(b:List Byte)(hb:b.length≤128)(j:Int):gb (blkN b) j=gb b j:=by
 unfold gb blkN over
 split
 · rename_i h0
   generalize j.toNat=i
   rw [tZe,List.nil_append,List.take_of_length_le hb,Nat.zero_add,List.getD_eq_getElem?_getD,List.getD_eq_getElem?_getD]
   by_cases hi:i<b.length
   · rw [List.getElem?_append_left hi]
   · rw [List.getElem?_append_right (by omega),List.getElem?_drop,List.getElem?_eq_none (l:=b) (by omega)]
     have:(zer (n:=8) 128)[b.length+(i-b.length)]?.getD 0=0:=by
       have:=nth_tab_ge (n:=8) (m:=128) (f:=fun _=>0) (i:=b.length+(i-b.length))
       by_cases hx:b.length+(i-b.length)<128
       · have:=nth_tab (n:=8) (m:=128) (f:=fun _=>0) hx
         simpa [nth,zer]using this
       · have:=this (by omega)
         simpa [nth,zer]using this
     simpa using this
 · rfl
theorem num_blkN(b:List Byte)(hb:b.length≤128):∀(r:Nat)(at_:Int),num (blkN b) at_ r=num b at_ r:=by
 intro r at_
 induction r with
 |zero=>rfl
 |succ r ih=>simp only [num,gb_blkN b hb,ih]
theorem mL_blkN(b:List Byte)(hb:b.length≤128):mL (blkN b)=mL b:=tab_ext fun i _=>num_blkN b hb 8 _
theorem plus_N(n m:Nat)(h:n+m<18446744073709551616)(w:World):Gives Tryz.prog 132 #[.agg #[v64 (BitVec.ofNat 64 n),v64 0#64], .agg #[v64 (BitVec.ofNat 64 m),v64 0#64]] w (.agg #[v64 (BitVec.ofNat 64 (n+m)),v64 0#64]):=by
 have:=oplus_any (BitVec.ofNat 64 n) 0#64 (BitVec.ofNat 64 m) 0#64 w
 rwa [carry_none n m h,ofNat_plus]at this
theorem natv64 {a:Nat}(h:a<18446744073709551616):Value.int .u64 (a:Int)=v64 (BitVec.ofNat 64 a):=by
 have:(BitVec.ofNat 64 a).toNat=a:=by simp;omega
 rw [v64,this]
theorem plus_M(n m:Nat)(h:n+m<18446744073709551616)(w:World):Gives Tryz.prog 132 #[.agg #[v64 (BitVec.ofNat 64 n),v64 0#64], .agg #[.int .u64 (m:Int), .int .u64 0]] w (.agg #[v64 (BitVec.ofNat 64 (n+m)),v64 0#64]):=by
 have:=plus_N n m h w
 rw [natv64 (a:=m) (by omega)];exact this
theorem hblock_any(g:Nat)(h:List (BitVec 64))(n:Nat)(v:Value)(sz:Int)(b:List Byte)(p:Option Addr)(c many:Nat)(last:Bool)(hh:h.length=8)(hb:b.length≤128)(hn:n+many<9223372036854775808)(w0 w:World)(R:List Blk)(hr:∀w' M,Own w0 w' (M++R)→RdB w' p b)(hc:CoefB w0)(hv:v.oneCell'=true)(hm:Own w0 w (⟨g,193,hashC h n v sz⟩::R)):
   Calls Tryz.prog 110 #[.pointer (some ⟨g,0,none⟩), .slice p b.length c, .int .i64 many, .bool last] w fun e w'=>e= .returned (.tuple #[])∧Own w0 w' (⟨g,193,hashC (compL h (mL b) (BitVec.ofNat 64 (n+many)) 0#64 last) (n+many) v sz⟩::R):=by
 have HC:=hid hc
 have HR:=hid hr
 have lB:=blkN_length b
 have CC:=hid fun wx hx=>compress_any h (blkN b) (BitVec.ofNat 64 (n+many)) 0#64 last hh lB wx hx
 rw [mL_blkN b hb]at CC
 have CP:=hid fun wx=>plus_M n many (by omega) wx
 have lC:(compL h (mL b) (BitVec.ofNat 64 (n+many)) 0#64 last).length=8:=compL_length _ _ _ _ _
 generalize compL h (mL b) (BitVec.ofNat 64 (n+many)) 0#64 last=C at*
 have EB:=hid (show over (zer 128) 0 (b.take 128)=blkN b from rfl)
 generalize blkN b=B at*
 have HH:=hid hh
 have LC:=hid lC
 have lc1:=hashC_length (n:=n) (v:=v) (sz:=sz) hh
 have lc2:=hashC_length (n:=n+many) (v:=v) (sz:=sz) hh
 clear hc hr hh lC
 go_enter Tryz.func110,Tryz.ntmps110
 go_wp2_with (first|((with_reducible show wpList _ _ _ (Oper.mk _ (Op.call _) _ _ _ _::_) _ _);refine wpl_cp8 hm rfl rfl rfl rfl Tryz.underlying22 (by kernel_rfl) (by repeat (first|exact Swap.hd|assumption|apply Swap.tl)) (HR.out _ [_,_] hm) rfl (EB.out) (by simp) ?_;clear hm;intro w hm)|((with_reducible apply wq_ldN hm);exact rfl;infer_instance;exact rfl;(focus (repeat first|exact .hd|assumption|apply Has.tl);done);(exact hashC_cnt HH.out);exact rfl)|(go_at_call 132;(with_reducible refine(CP.out _).mono ?_);rintro e_ w ⟨rfl,hx_⟩;replace hm:=hm.ext hx_;clear hx_)|((with_reducible apply wq_stA hm);exact rfl;infer_instance;exact rfl;exact rfl;(focus (repeat first|exact .hd|assumption|apply Swap.tl);done);(exact hashC_set_cnt HH.out);exact rfl;(exact(by rw [lc1];decide));(exact(by simp [one64]));clear hm;intro w hm)|(((with_reducible show qAl);refine zG hm ?_);clear hm;intro gx_;intro w hm))
 have HX:=hid hm.x
 refine rgE 14 37 ?_
 simp only [zTa]
 repeat (first
     |(apply walk_is rfl rfl rfl;(intro wx hwx;(with_reducible apply gq_ldN (hm.ext hwx));infer_instance;exact rfl;(focus (repeat first|exact .hd|assumption|apply Has.tl);done);(exact hashC_h HH.out);(exact(List.length_map ..).trans HH.out));(simp only [zPu];rfl))
     |(apply walk_is rfl rfl rfl;(intro wx hwx;(with_reducible apply gq_ldN (hm.ext hwx));infer_instance;exact rfl;(focus (repeat first|exact .hd|assumption|apply Has.tl);done);(exact hashC_cnt HH.out);exact rfl);(simp only [zPu];rfl))
     | (apply walk_is rfl rfl rfl
        · (intro wx hwx;first|((with_reducible show qGl);exact zK (hm.ext hwx))|(go_simp;(try go_bits);first|exact gives_same|exact gives_skip|with_reducible exact gives_call (CC.out wx (HC.out.ext (HX.out.trans hwx)))))
        · (simp only [zPu];rfl))
     | (apply walk_not rfl rfl rfl
        · (simp only [zPu];rfl)))
 intro wz hwz
 simp only [zZi]
 repeat (first|rw [fin_is]|(rw [fin_cons];intro _ _))
 rw [fin_nil]
 try (replace hm:=hm.ext hwz)
 simp only [zPu]
 go_wp2_with (first|((with_reducible apply wq_stA hm);exact rfl;infer_instance;exact rfl;exact rfl;(focus (repeat first|exact .hd|assumption|apply Swap.tl);done);(exact hashC_set_h HH.out LC.out);(exact(List.length_map ..).trans LC.out);(exact(by rw [lc2];decide));(exact(one_map _));clear hm;intro w hm))
 go_end0
 exact⟨rfl,hm.drop⟩
instance elem8:Elem Tryz.prog 5 1 1:=Elem.of (by kernel_rfl) (by omega)
def hashK(h0:List (BitVec 64))(d:List Byte)(k:Nat)(v:Value)(sz:Int):List Value:=hashC (chF h0 d k) (128*k) v sz
def RestO(M:List Blk)(d:List Byte)(k:Nat)(v:Value):Prop:=SlO M 5 1 v (d.length-128*k) ((d.drop (128*k)).map v8)
theorem RestO.rdB {M R N:List Blk}{d:List Byte}{k:Nat}{p:Option Addr}{n c:Nat}{w0 w:World}(h:RestO M d k (.slice p n c))(hm:Own w0 w (N++(M++R))):RdB w p (d.drop (128*k)):=by
 obtain⟨p',c',hv,_,_,h0,hc⟩:=SlO.cells h hm.dropN
 cases hv
 refine⟨fun hl=>h0 (by simpa using hl),fun i hi=> ?_⟩
 obtain⟨a,rfl,ha⟩:=hc i (v8 ((d.drop (128*k)).getD i 0)) (by rw [List.getElem?_map,List.getElem?_eq_getElem hi,List.getD_eq_getElem?_getD,List.getElem?_eq_getElem hi];rfl)
 exact ha
theorem RestO.len {M:List Blk}{d:List Byte}{k:Nat}{p:Option Addr}{n c:Nat}(h:RestO M d k (.slice p n c)):n=d.length-128*k∧n≤c∧c≤maxLen:=by
 rcases h.2 with ⟨h1,h2,_⟩|⟨g,o,cap,cur,h1,_,h2,h3,_⟩
 · cases h1;exact⟨h2.symm,Nat.le_refl _,by simp⟩
 · cases h1;exact⟨rfl,h2,h3⟩
theorem RestO.one {M:List Blk}{d:List Byte}{k:Nat}{v:Value}(h:RestO M d k v):v.oneCell'=true∧v.cells= #[v]:=by
 rcases h.2 with ⟨h1,_⟩|⟨g,o,cap,cur,h1,_⟩<;>subst h1<;>exact⟨rfl,rfl⟩
theorem RestO.slice {M:List Blk}{d:List Byte}{k:Nat}{v:Value}(h:RestO M d k v):∃p n c,v= .slice p n c:=by
 rcases h.2 with ⟨h1,_⟩|⟨g,o,cap,cur,h1,_⟩<;>exact⟨_,_,_,h1⟩
def restLen(g:Nat)(w:World):Nat:=match w.cell? ⟨g,10,none⟩with|some (.slice _ n _)=>n|_=>0
theorem restLen_is {g:Nat}{w:World}{p:Option Addr}{n c:Nat}(h:w.cell? ⟨g,10,none⟩=some (.slice p n c)):restLen g w=n:=by rw [restLen,h]
theorem hashK_rest {h0:List (BitVec 64)}{d:List Byte}{k:Nat}{v:Value}{sz:Int}(hh:h0.length=8):(hashK h0 d k v sz)[10]? =some v:=hashC_rest (chF_length h0 d hh k)
theorem hashK_set {h0:List (BitVec 64)}{d:List Byte}{k:Nat}{v v':Value}{sz:Int}(hh:h0.length=8):(hashK h0 d k v sz).set 10 v'=hashK h0 d k v' sz:=hashC_set_rest (chF_length h0 d hh k)
theorem hashK_length {h0:List (BitVec 64)}{d:List Byte}{k:Nat}{v:Value}{sz:Int}(hh:h0.length=8):(hashK h0 d k v sz).length=12:=hashC_length (chF_length h0 d hh k)
theorem hashK_append {h0:List (BitVec 64)}{d b:List Byte}{k:Nat}{v:Value}{sz:Int}(hk:128*k≤d.length):hashK h0 (d++b) k v sz=hashK h0 d k v sz:=by rw [hashK,chF_append _ _ _ _ hk];rfl
theorem cells_b {w:World}{p:Option Addr}{b:List Byte}(h:RdB w p b):∀(j:Nat)(u:Value),(b.map v8)[j]? =some u→∃a,p=some a∧w.cell? (a.add j)=some u:=by
 intro j u hj
 rw [List.getElem?_map]at hj
 obtain⟨x,hx,rfl⟩:=Option.map_eq_some_iff.1 hj
 obtain⟨hlt,hx'⟩:=List.getElem?_eq_some_iff.1 hx
 obtain⟨a,rfl⟩:=Option.isSome_iff_exists.1 (h.1 (by omega))
 refine⟨a,rfl, ?_⟩
 have:=h.2 j hlt
 simp only [Option.getD_some]at this
 rw [this,List.getD_eq_getElem?_getD,hx];rfl
theorem write_any(g:Nat)(h0:List (BitVec 64))(d:List Byte)(sz:Int)(b:List Byte)(p:Option Addr)(c:Nat)(hh:h0.length=8)(hlen:d.length+b.length≤70368744177664)(w0 w:World)(M R:List Blk)(v:Value)(hc:CoefB w0)(hb:RdB w p b)
   (hm:Own w0 w (⟨g,193,hashK h0 d (nbk d.length) v sz⟩::(M++R))) (hsl:RestO M d (nbk d.length) v):
   Calls Tryz.prog 93 #[.pointer (some ⟨g,0,none⟩), .slice p b.length c] w fun e w'=>e= .returned (.tuple #[])∧∃v' M',Own w0 w' (⟨g,193,hashK h0 (d++b) (nbk (d++b).length) v' sz⟩::(M'++R))∧RestO M' (d++b) (nbk (d++b).length) v':=by
 have HC:=hid hc
 have HH:=hid hh
 have HB:=hid hb
 have HS:=hid hsl
 have l1:=hashK_length (d:=d) (k:=nbk d.length) (v:=v) (sz:=sz) hh
 have LEN:=hid hlen
 have k0:=nbk_le d.length
 clear hc hh hb hsl hlen
 go_enter Tryz.func93,Tryz.ntmps93
 have FIT:=hid (show(d.length-128*nbk d.length+b.length)*(1+1)≤140737488355328 by have:=LEN.out;omega)
 obtain⟨D,hD⟩:∃D,d++b=D:=⟨_,rfl⟩
 have lD:D.length=d.length+b.length:=by rw [←hD,List.length_append]
 have hD46:D.length≤70368744177664:=by have:=LEN.out;omega
 have HD:=hid hD
 have hk0:nbk d.length≤nbk D.length:=nbk_mono (by omega)
 rw [hD]
 refine wp_scope_goto 0 (fun a_ w_=>∃(k:Nat)(v:Value)(M:List Blk)(u2 u3 u4 u5 u6 u7 u8 u9 u10 u11 u12 u13 u14 u15 u16 u17 u18 u19 u20 u21 u22 u23 u24 u25 u26 u27 u28 u29 u30 u31 u32 u33 u34 u35:Value),a_={tmps:= #[(.pointer (some ⟨g,0,none⟩)),(.slice p b.length c),u2,u3,u4,u5,u6,u7,u8,u9,u10,u11,u12,u13,u14,u15,u16,u17,u18,u19,u20,u21,u22,u23,u24,u25,u26,u27,u28,u29,u30,u31,u32,u33,u34,u35],defers:=[]}∧k≤nbk D.length∧Own w0 w_ (⟨g,193,hashK h0 D k v sz⟩::(M++R))∧RestO M D k v) (fun _ w_=>restLen g w_) rfl ?_ ?_
 · clear hm
   rintro a' w ⟨k,v,M,u2,u3,u4,u5,u6,u7,u8,u9,u10,u11,u12,u13,u14,u15,u16,u17,u18,u19,u20,u21,u22,u23,u24,u25,u26,u27,u28,u29,u30,u31,u32,u33,u34,u35,rfl,⟨hk,hm,hsl⟩⟩
   obtain⟨q,n,cap,rfl⟩:=hsl.slice
   obtain⟨hn,hnc,hcm⟩:=hsl.len
   have hrl:restLen g w=n:=restLen_is (by rw [row_cell (hm.row (by repeat (first|exact Has.hd|assumption|apply Has.tl)))];exact hashK_rest HH.out)
   have HRL:=hid hrl
   have lk:=nbk_le D.length
   have HK:=hid hk
   have HL:=hid lk
   have HN:=hid hn
   have LD:=hid lD
   have HS2:=hid hsl
   have lh:=hashK_length (d:=D) (k:=k) (v:= .slice q n cap) (sz:=sz) HH.out
   clear hrl hk lk hn lD hsl
   by_cases hle:n≤128
   · have hke:k=nbk D.length:=by
       have h1:=HK.out
       have h2:=HN.out
       rcases Nat.lt_or_ge k (nbk D.length)with h|h
       · have:=nbk_lt _ k h;omega
       · omega
     have hd:decide ((n:Int)≤128)=true:=by simp;omega
     have hd2:(n:Int)≤128:=by omega
     go_wp2_with (first|((with_reducible apply wq_ld1 hm);exact rfl;infer_instance;exact rfl;(focus (repeat first|exact .hd|assumption|apply Has.tl);done);(exact hashK_rest HH.out)))
     simp only [Exit.jump]
     refine bodyPost_ret (results_none rfl _ _ _) rfl ?_
     subst hke
     exact⟨rfl,_,_,hm,HS2.out⟩
   · have hd:decide ((n:Int)≤128)=false:=by simp;omega
     have hd2:¬(n:Int)≤128:=by omega
     have hcap:128≤(cap:Int):=by omega
     have hc128:¬cap=128:=by omega
     have lh2:=hashK_length (d:=D) (k:=k+1) (v:= .slice q n cap) (sz:=sz) HH.out
     have hn128:(128:Int)≤(n:Int):=by omega
     have hcap2:(cap:Int)≤9223372036854775807:=by unfold maxLen at hcm;omega
     have lb:(bkAt D k).length=128:=by have:=HN.out;unfold bkAt;rw [List.length_take,List.length_drop];omega
     have hkl:k<nbk D.length:=by
       rcases Nat.lt_or_ge k (nbk D.length)with h|h
       · exact h
       · have:=nbk_ge D.length k h;have:=HN.out;omega
     have CB:=fun wx hx=>hblock_any g (chF h0 D k) (128*k) (.slice q n cap) sz (bkAt D k) q cap 128 false (chF_length h0 D HH.out k) (by omega) (by have:=HL.out;have:=hD46;omega) w0 wx (M++R) (fun w' N h=>(HS2.out.rdB h).take 128) HC.out rfl hx
     rw [lb,show((128:Nat):Int)=128 from rfl]at CB
     have CB2:=hid CB
     obtain⟨g',o,rfl⟩:∃g' o,q=some ⟨g',o,none⟩:=by
       rcases HS2.out.2 with ⟨h1,h2,_⟩|⟨g',o,cap',cur,h1,_⟩
       · cases h1;omega
       · cases h1;exact⟨_,_,rfl⟩
     clear CB lb
     go_wp2_with (first|((with_reducible apply wq_ld1 hm);exact rfl;infer_instance;exact rfl;(focus (repeat first|exact .hd|assumption|apply Has.tl);done);(exact hashK_rest HH.out))|(go_at_call 110;(with_reducible refine(CB2.out _ hm).mono ?_);clear hm;rintro e_ w ⟨rfl,hm⟩;replace hm:Own w0 w (⟨g,193,hashK h0 D (k+1) (.slice (some ⟨g',o,none⟩) n cap) sz⟩::(M++R)):=hm)|((with_reducible show qSt);refine zF hm ?_;clear hm;intro w hm))
     have hm2:Own w0 w (⟨g,193,hashK h0 D (k+1) (.slice (some ⟨g',o+128,none⟩) (n-128) (cap-128)) sz⟩::(M++R)):=by
       rw [hashK_set HH.out]at hm;exact hm
     have hs3:RestO M D (k+1) (.slice (some ⟨g',o+128,none⟩) (n-128) (cap-128)):=by
       have h1:=HN.out
       have h2:SlO M 5 1 (.slice (some ⟨g',o,none⟩) n cap) n ((D.drop (128*k)).map v8):=by have:=HS2.out;unfold RestO at this;rwa [←h1]at this
       have h3:=h2.behind (k:=128) (by omega)
       unfold RestO
       rw [show D.length-128*(k+1)=n-128 from by omega,show 128*(k+1)=128*k+128 from by omega,←List.drop_drop,List.map_drop]
       exact h3
     have hrl:restLen g w=n-128:=restLen_is (by rw [row_cell (hm2.row (by repeat (first|exact Has.hd|assumption|apply Has.tl)))];exact hashK_rest HH.out)
     have HRL2:=hid hrl
     clear hrl hm
     go_step3
     exact⟨rfl,⟨_,_,_,_,_,_,_,_,_,_,_,_,_,_,_,_,_,_,_,_,_,_,_,_,_,_,_,_,_,_,_,_,_,_,_,_,_,rfl,⟨hkl,hm2,hs3⟩⟩,by rw [HRL.out,HRL2.out];omega⟩
 · intro hp
   go_wp2_with (first|((with_reducible apply wq_ld1 hm);exact rfl;infer_instance;exact rfl;(focus (repeat first|exact .hd|assumption|apply Has.tl);done);(exact hashK_rest HH.out))|((with_reducible show wpList _ _ _ (Oper.mk _ (Op.call _) _ _ _ _::_) _ _);refine wplO_app (M:=M) (R:=⟨g,193,hashK h0 d (nbk d.length) v sz⟩::R) (ds:=b.map v8) (hm.perm (List.perm_middle.symm)) HS.out rfl rfl rfl rfl Tryz.underlying22 (by simp) (cells_b HB.out) (one_map _) FIT.out ?_;clear hm;intro v1 w M1 hm hs1;obtain⟨p_v1,c_v1,rfl⟩:=hs1.form;replace hm:=hm.perm (List.perm_middle))|((with_reducible show qSt);refine zF hm ?_;clear hm;intro w hm))
   have hm2:Own w0 w (⟨g,193,hashK h0 d (nbk d.length) (.slice p_v1 (d.length-128*nbk d.length+b.length) c_v1) sz⟩::(M1++R)):=by
     rw [hashK_set HH.out]at hm;exact hm
   rw [←hashK_append (b:=b) k0,HD.out]at hm2
   have hs2:RestO M1 D (nbk d.length) (.slice p_v1 (d.length-128*nbk d.length+b.length) c_v1):=by
     unfold RestO
     rw [←HD.out,List.drop_append_of_le_length k0,List.map_append,List.length_append,show d.length+b.length-128*nbk d.length=d.length-128*nbk d.length+b.length from by omega]
     exact hs1
   go_step3
   rename_i hK
   exact hK _ _ (hp _ _ ⟨_,_,_,_,_,_,_,_,_,_,_,_,_,_,_,_,_,_,_,_,_,_,_,_,_,_,_,_,_,_,_,_,_,_,_,_,_,rfl,⟨hk0,hm2,hs2⟩⟩)
structure KeyP where
 i:List Byte
 j:List Byte
 l:List Byte
structure KeyP.Ok (K:KeyP):Prop where
 hi:K.i.length=16
 hj:K.j.length=16
 hl:K.l.length=16
def keyB(key:List Byte):List Byte:=if key.length=48 then key else sumL 48 [] key
theorem keyB_length(key:List Byte):(keyB key).length=48:=by
 unfold keyB;split
 · assumption
 · exact sumL_length _ _ _ (by omega)
def keyOf(key:List Byte):KeyP:=⟨blk (keyB key),blk ((keyB key).drop 16),blk ((keyB key).drop 32)⟩
theorem keyOf_ok(key:List Byte):(keyOf key).Ok:=⟨blk_length _,blk_length _,blk_length _⟩
theorem gb_nth(l:List Byte)(i:Nat):gb l i=nth l i:=gb_in l i
theorem blk_nth(l:List Byte)(i:Nat)(h:i<16):nth (blk l) i=nth l i:=by
 rw [←gb_nth l i];simp [nth,blk,h]
theorem blk_eq(l m:List Byte)(h:∀i,i<16→nth l i=nth m i):blk l=blk m:=nth_ext (by rw [blk_length,blk_length]) fun i hi=>by
 rw [blk_length]at hi;rw [blk_nth _ _ hi,blk_nth _ _ hi,h i hi]
theorem nth_take(l:List Byte)(k i:Nat)(h:i<k):nth (l.take k) i=nth l i:=by simp [nth,List.getElem?_take,h]
theorem blk_take(l:List Byte)(k:Nat):blk ((l.drop k).take 16)=blk (l.drop k):=blk_eq _ _ fun i hi=>nth_take _ _ _ hi
theorem blk_self(l:List Byte)(h:l.length=16):blk l=l:=nth_ext (by rw [blk_length,h]) fun i hi=>by rw [blk_length]at hi;exact blk_nth _ _ hi
theorem blk_sub(l:List Byte)(k:Nat)(h:k+16≤l.length):blk (l.drop k)=(l.drop k).take 16:=by
 rw [←blk_take,blk_self];rw [List.length_take,List.length_drop];omega
def KeyP.at(K:KeyP)(n:Int):List Byte:=if n=0 then K.i else if n=1 then K.j else if n=2 then K.l else zer 16
theorem KeyP.at_length {K:KeyP}(h:K.Ok)(n:Int):(K.at n).length=16:=by
 unfold KeyP.at;split
 · exact h.hi
 · split
   · exact h.hj
   · split
     · exact h.hl
     · exact zer_length
def upN(i:Nat):Nat:=i/8+min (i%8) 1
def offN(K:KeyP)(j i:Nat):List Byte:=bothL (bothL (mulL (BitVec.ofNat 64 j) K.j) (dblN K.i (upN i))) (mulL (BitVec.ofNat 64 (i%8)) K.l)
theorem offN_length(K:KeyP)(j i:Nat):(offN K j i).length=16:=bothL_length _ _
def fourK(K:KeyP):List (List Byte):=[K.j,K.i,K.l,zer 16]
def tenK(K:KeyP):List (List Byte):=[K.i,K.j,K.l,K.i,K.j,K.l,K.i,K.j,K.l,K.i]
def eN(K:KeyP)(j i:Nat)(x:List Byte):List Byte:=rnds (bothL x (offN K j i)) (fourK K)
def eT(K:KeyP)(i:Nat)(x:List Byte):List Byte:=rnds (bothL x (mulL (BitVec.ofNat 64 i) K.l)) (tenK K)
def eZ(K:KeyP)(j i:Int)(x:List Byte):List Byte:=if j< -1∨i<0 then zer 16 else if j<0 then eT K i.toNat x else eN K j.toNat i.toNat x
def offZ(K:KeyP)(j i:Int):List Byte:=if j<0∨i<0 then zer 16 else offN K j.toNat i.toNat
theorem eN_length(K:KeyP)(j i:Nat)(x:List Byte):(eN K j i x).length=16:=rnds_length _ _ (bothL_length _ _)
theorem eT_length(K:KeyP)(i:Nat)(x:List Byte):(eT K i x).length=16:=rnds_length _ _ (bothL_length _ _)
theorem eZ_length(K:KeyP)(j i:Int)(x:List Byte):(eZ K j i x).length=16:=by
 unfold eZ;split
 · exact zer_length
 · split
   · exact eT_length _ _ _
   · exact eN_length _ _ _ _
def partF(F:Int→List Byte→List Byte)(b:List Byte):Nat→List Byte
 |0=>zer 16
 |n+1=>bothL (partF F b n) (F ((n:Int)+1) (blk (b.drop (16*n))))
theorem partF_length(F:Int→List Byte→List Byte)(b:List Byte):∀n,(partF F b n).length=16
 |0=>zer_length
 |_+1=>bothL_length _ _
def partG(F:Int→List Byte→List Byte)(b:List Byte):List Byte:=
 if b.length=0∨b.length%16≠0 then bothL (partF F b (b.length/16)) (F 0 (blk (b.drop (16*(b.length/16))++[128#8])))else partF F b (b.length/16)
theorem partG_length(F:Int→List Byte→List Byte)(b:List Byte):(partG F b).length=16:=by
 unfold partG;split
 · exact bothL_length _ _
 · exact partF_length _ _ _
theorem blk_marked(l:List Byte)(h:l.length<16):blk (marked l 128#8 16)=blk (l++[128#8]):=blk_eq _ _ fun i _=>by
 unfold marked pad
 by_cases h1:i<(l++[128#8]).length
 · simp only [nth,List.getD_eq_getElem?_getD]
   rw [List.getElem?_append_left h1]
 · rw [nth_ge (l:=l++[128#8]) (by omega)]
   simp only [nth,List.getD_eq_getElem?_getD]
   rw [List.getElem?_append_right (by omega),List.getElem?_replicate]
   split<;>rfl
def hashF(F:Int→Int→List Byte→List Byte)(ls:List (List Byte)):Nat→List Byte
 |0=>zer 16
 |n+1=>bothL (hashF F ls n) (partG (F ((n:Int)+3)) (ls.getD n []))
theorem hashF_length(F:Int→Int→List Byte→List Byte)(ls:List (List Byte)):∀n,(hashF F ls n).length=16
 |0=>zer_length
 |_+1=>bothL_length _ _
def hashG(F:Int→Int→List Byte→List Byte)(ls:List (List Byte)):List Byte:=hashF F ls ls.length
theorem hashG_length(F:Int→Int→List Byte→List Byte)(ls:List (List Byte)):(hashG F ls).length=16:=hashF_length _ _ _
def cntL(h:List Byte)(n:Nat):List Byte:=tab 16 fun q=>if 8≤q then nth h q^^^nth (putL (BitVec.ofNat 64 n) 8) (15-q)else nth h q
def prfF(E:List Byte→List Byte)(h:List Byte):Nat→List Byte
 |0=>[]
 |i+1=>prfF E h i++E (cntL h i)
def prfN(n:Nat):Nat:=(n+15)/16
def prfL(E:List Byte→List Byte)(h:List Byte)(n:Nat):List Byte:=(prfF E h (prfN n)).take n
instance elemK:Elem Tryz.prog 132 16 16:=Elem.of (by kernel_rfl) (by omega)
def KeysS(ks:List (List Byte)):Slot:=fun v w=>∃p c,v= .slice p ks.length c∧ks.length≤c∧RdK w p 16 ks
theorem KeysS.stable(ks:List (List Byte)):Stable (KeysS ks):=fun _ _ _ ⟨p,c,h1,h2,h3⟩ hx=>⟨p,c,h1,h2,h3.ext hx⟩
theorem keys_new(w:World)(e:TypeId)(ks:List (List Byte))(h:∀k∈ks,k.length=16):KeysS ks (.slice (some ⟨w.heap.size,0,none⟩) ks.length ks.length) (w.alloc (.cells (catV ks).toArray e)):=
 ⟨_,_,rfl,Nat.le_refl _,h,RdB.of_row (row_new w e (catV ks))⟩
theorem len16(b:List Byte)(h:b.length=16):∃x0 x1 x2 x3 x4 x5 x6 x7 x8 x9 x10 x11 x12 x13 x14 x15,b=[x0,x1,x2,x3,x4,x5,x6,x7,x8,x9,x10,x11,x12,x13,x14,x15]:=by
 match b,h with
 |[x0,x1,x2,x3,x4,x5,x6,x7,x8,x9,x10,x11,x12,x13,x14,x15],_=>exact⟨x0,x1,x2,x3,x4,x5,x6,x7,x8,x9,x10,x11,x12,x13,x14,x15,rfl⟩
theorem slo_rdK {w0 w:World}{M R:List Blk}{p:Option Addr}{n c:Nat}{e:TypeId}{ks:List (List Byte)}(h:SlO M e 16 (.slice p n c) n (catV ks))(hk:∀k∈ks,k.length=16)(hm:Own w0 w (M++R)):RdK w p 16 ks∧n=ks.length∧n≤c:=by
 have hl:=h.1
 rw [catV_length 16 ks hk]at hl
 obtain⟨_,_,hv,hnc,_,h0,hcell⟩:=h.cells hm
 cases hv
 have hn:n=ks.length:=by omega
 refine⟨⟨hk,fun hp=>h0 ?_,fun i hi=> ?_⟩,hn,hnc⟩
 · rcases Nat.eq_zero_or_pos ks.length with h1|h1
   · rw [List.eq_nil_of_length_eq_zero h1]at hp;simp at hp
   · omega
 · obtain⟨a,rfl,ha⟩:=hcell i (v8 (ks.flatten.getD i 0)) (by rw [catV,List.getElem?_map,List.getElem?_eq_getElem hi,List.getD_eq_getElem?_getD,List.getElem?_eq_getElem hi];rfl)
   exact ha
theorem bs_run1(a:List Byte)(ha:a.length=16)(w:World):(Instr.buildSlice 161 1 #[(0,A8 a)]).run Tryz.prog w= .ok (.slice (some ⟨w.heap.size,0,none⟩) 1 1) (w.alloc (.cells (catV [a]).toArray 132)):=by
 obtain⟨a0,a1,a2,a3,a4,a5,a6,a7,a8,a9,a10,a11,a12,a13,a14,a15,rfl⟩:=len16 a ha
 kernel_rfl
theorem bs_run2(a b:List Byte)(ha:a.length=16)(hb:b.length=16)(w:World):(Instr.buildSlice 161 2 #[(0,A8 a),(1,A8 b)]).run Tryz.prog w= .ok (.slice (some ⟨w.heap.size,0,none⟩) 2 2) (w.alloc (.cells (catV [a,b]).toArray 132)):=by
 obtain⟨a0,a1,a2,a3,a4,a5,a6,a7,a8,a9,a10,a11,a12,a13,a14,a15,rfl⟩:=len16 a ha
 obtain⟨b0,b1,b2,b3,b4,b5,b6,b7,b8,b9,b10,b11,b12,b13,b14,b15,rfl⟩:=len16 b hb
 kernel_rfl
theorem bs_run4(a b c d:List Byte)(ha:a.length=16)(hb:b.length=16)(hc:c.length=16)(hd:d.length=16)(w:World):(Instr.buildSlice 161 4 #[(0,A8 a),(1,A8 b),(2,A8 c),(3,A8 d)]).run Tryz.prog w= .ok (.slice (some ⟨w.heap.size,0,none⟩) 4 4) (w.alloc (.cells (catV [a,b,c,d]).toArray 132)):=by
 obtain⟨a0,a1,a2,a3,a4,a5,a6,a7,a8,a9,a10,a11,a12,a13,a14,a15,rfl⟩:=len16 a ha
 obtain⟨b0,b1,b2,b3,b4,b5,b6,b7,b8,b9,b10,b11,b12,b13,b14,b15,rfl⟩:=len16 b hb
 obtain⟨c0,c1,c2,c3,c4,c5,c6,c7,c8,c9,c10,c11,c12,c13,c14,c15,rfl⟩:=len16 c hc
 obtain⟨d0,d1,d2,d3,d4,d5,d6,d7,d8,d9,d10,d11,d12,d13,d14,d15,rfl⟩:=len16 d hd
 kernel_rfl
section
variable {P:Program} {ops:Array Oper} {Q:Exit→Act→World→Prop} {rest:List Oper} {dst:Option Tmp} {ty:TypeId} {pos:String} {aft:Array Edge} {gd:Option (Nat×Bool)} {a:Act} {w0 w:World} {L:List Blk} {T e:TypeId}
theorem gq_bs1 {u0:Value}{x0:Operand}{ks:List (List Byte)}(hk:∀k∈ks,k.length=16)(hb:(Instr.buildSlice T 1 #[(0,u0)]).run P w= .ok (.slice (some ⟨w.heap.size,0,none⟩) ks.length ks.length) (w.alloc (.cells (catV ks).toArray e)))(hx0:a.eval x0=u0):gives P w (KeysS ks) ((execOp a.eval (Oper.mk dst (.buildSlice T 1 #[(0,x0)]) ty pos aft gd)).run P w):=by
 unfold execOp
 simp [hx0,hb]
 exact gives_val (Ext.alloc (Ext.refl _) _) (keys_new w e ks hk)
theorem wq_bs1 {u0:Value}{x0:Operand}{ks:List (List Byte)}(hm:Own w0 w L)(hb:(Instr.buildSlice T 1 #[(0,u0)]).run P w= .ok (.slice (some ⟨w.heap.size,0,none⟩) 1 1) (w.alloc (.cells (catV ks).toArray e)))(hgd:Region.wanted (Oper.mk dst (.buildSlice T 1 #[(0,x0)]) ty pos aft gd) (yielded ops a.tmps)=true)(hx0:a.eval x0=u0)(hr:∀g w',Own w0 w' (⟨g,e,catV ks⟩::L)→wpList P ops Q rest (a.put dst (.slice (some ⟨g,0,none⟩) 1 1)) w'):wpList P ops Q ((Oper.mk dst (.buildSlice T 1 #[(0,x0)]) ty pos aft gd)::rest) a w:=
 wpList_want hgd fun K hK=>by
   unfold Oper.wp execOp
   simp [hx0,hb,Sem.run_bind,Result.andThen_ok,Sem.run_pure]
   exact hK _ _ (hr _ _ (hm.alloc e (catV ks)))
theorem gq_bs2 {u0 u1:Value}{x0 x1:Operand}{ks:List (List Byte)}(hk:∀k∈ks,k.length=16)(hb:(Instr.buildSlice T 2 #[(0,u0),(1,u1)]).run P w= .ok (.slice (some ⟨w.heap.size,0,none⟩) ks.length ks.length) (w.alloc (.cells (catV ks).toArray e)))(hx0:a.eval x0=u0)(hx1:a.eval x1=u1):gives P w (KeysS ks) ((execOp a.eval (Oper.mk dst (.buildSlice T 2 #[(0,x0),(1,x1)]) ty pos aft gd)).run P w):=by
 unfold execOp
 simp [hx0,hx1,hb]
 exact gives_val (Ext.alloc (Ext.refl _) _) (keys_new w e ks hk)
theorem wq_bs2 {u0 u1:Value}{x0 x1:Operand}{ks:List (List Byte)}(hm:Own w0 w L)(hb:(Instr.buildSlice T 2 #[(0,u0),(1,u1)]).run P w= .ok (.slice (some ⟨w.heap.size,0,none⟩) 2 2) (w.alloc (.cells (catV ks).toArray e)))(hgd:Region.wanted (Oper.mk dst (.buildSlice T 2 #[(0,x0),(1,x1)]) ty pos aft gd) (yielded ops a.tmps)=true)(hx0:a.eval x0=u0)(hx1:a.eval x1=u1)(hr:∀g w',Own w0 w' (⟨g,e,catV ks⟩::L)→wpList P ops Q rest (a.put dst (.slice (some ⟨g,0,none⟩) 2 2)) w'):wpList P ops Q ((Oper.mk dst (.buildSlice T 2 #[(0,x0),(1,x1)]) ty pos aft gd)::rest) a w:=
 wpList_want hgd fun K hK=>by
   unfold Oper.wp execOp
   simp [hx0,hx1,hb,Sem.run_bind,Result.andThen_ok,Sem.run_pure]
   exact hK _ _ (hr _ _ (hm.alloc e (catV ks)))
theorem gq_bs4 {u0 u1 u2 u3:Value}{x0 x1 x2 x3:Operand}{ks:List (List Byte)}(hk:∀k∈ks,k.length=16)(hb:(Instr.buildSlice T 4 #[(0,u0),(1,u1),(2,u2),(3,u3)]).run P w= .ok (.slice (some ⟨w.heap.size,0,none⟩) ks.length ks.length) (w.alloc (.cells (catV ks).toArray e)))(hx0:a.eval x0=u0)(hx1:a.eval x1=u1)(hx2:a.eval x2=u2)(hx3:a.eval x3=u3):gives P w (KeysS ks) ((execOp a.eval (Oper.mk dst (.buildSlice T 4 #[(0,x0),(1,x1),(2,x2),(3,x3)]) ty pos aft gd)).run P w):=by
 unfold execOp
 simp [hx0,hx1,hx2,hx3,hb]
 exact gives_val (Ext.alloc (Ext.refl _) _) (keys_new w e ks hk)
end
theorem ring_double(a:List Byte)(ha:a.length=16)(w0:World):Gives Tryz.prog 143 #[A8 a] w0 (A8 (dblL a)):=by
 unfold Gives
 have hm:=Own.start w0
 have ha1:=Nat.le_of_eq ha
 have ha2:=Nat.le_of_eq ha.symm
 have E15:=hid (show(nth a 15<<<1)^^^((nth a 0>>>7)*135#8)=dblF a 15 by rw [dblF,if_neg (by omega)])
 have EF:=hid (fun k (h:k<15)=>show(nth a k<<<1)|||(nth a (k+1)>>>7)=dblF a k by rw [dblF,if_pos h])
 have ED:=hid (show part 16 16 (dblF a) (fun _=>0)=dblL a from part_all)
 clear ha
 go_enter Tryz.func143,Tryz.ntmps143
 go_wp2_with (first|((first|((with_reducible show qAl);refine zG hm ?_)|((with_reducible show qBx);refine zH hm ?_));clear hm;(first|(have hx_:=g1;clear hx_;(first|(have hx_:=g2;clear hx_;(first|(have hx_:=g3;clear hx_;intro gx_)|intro g3))|intro g2))|intro g1);intro w hm))
 go_loopw [5] (fun i wr=>∃k:Nat,k≤15∧i= .int .i64 k∧Own w0 wr [⟨g3,132,(part 16 k (dblF a) fun _=>0).map v8⟩,⟨g2,132,(zer 16).map v8⟩,⟨g1,132,a.map v8⟩]) (fun i _=>15-(intOf i).toNat)
 case atStart=>exact⟨0,by omega,rfl,by rw [←zer_start];exact hm⟩
 case round =>
   obtain⟨k,hk,rfl,hm⟩:=hrel
   by_cases hlt:k<15
   · have hd:decide ((k:Int)<15)=true:=decide_eq_true (by omega)
     have h1:(k:Int)<16:=by omega
     have h2:(k:Int)+1<16:=by omega
     have h3:0≤(k:Int)+1:=by omega
     have h4:((k:Int)+1).toNat=k+1:=by omega
     have EK:=hid (EF.out k hlt)
     go_wp2_with fail
     refine rgE 12 31 ?_
     simp only [zTa]
     repeat (first
         | (apply walk_is rfl rfl rfl
            · (intro wx hwx;first|((with_reducible show qGl);exact zJ (hm.ext hwx))|(go_simp;(try go_bits);first|exact gives_same|exact gives_skip))
            · (simp only [zPu];rfl))
         | (apply walk_not rfl rfl rfl
            · (simp only [zPu];rfl)))
     intro wz hwz
     simp only [zZi]
     repeat (first|rw [fin_is]|(rw [fin_cons];intro _ _))
     rw [fin_nil]
     try (replace hm:=hm.ext hwz)
     simp only [zPu]
     go_wp2_with (first|((with_reducible show qSt);refine zD hm ?_;clear hm;intro w hm))
     go_roundw
     case rel=>
       rw [part_set' (show k<16 by omega) EK.out]at hm
       exact⟨k+1,by omega,by go_num,hm⟩
     case measure=>simp [intOf]<;>omega
   · obtain rfl:k=15:=by omega
     have hd:decide (((15:Nat):Int)<15)=false:=decide_eq_false (by omega)
     have l15:(part 16 15 (dblF a) fun _=>0).length=16:=part_length
     go_wp2_with (first|((with_reducible show qLd);first|(refine zA hm ?_)|(refine zB hm ?_))|((((with_reducible show qSt);first|(refine zD hm ?_)|(refine zE hm ?_)));clear hm;intro w hm))
     rw [part_set' (show 15<16 by omega) E15.out,ED.out]at hm
     have l1:(dblL a).length=16:=dblL_length a
     generalize dblL a=D at*
     go_wp2_with fail
     refine rtO hm rfl rfl ⟨rfl,hm.x⟩
theorem ring_sum(a b:List Byte)(c:Bool)(ha:a.length=16)(hb:b.length=16)(w0:World):Gives Tryz.prog 142 #[A8 a,A8 b, .bool c] w0 (A8 (if c=true then bothL a b else a)):=by
 unfold Gives
 have hm:=Own.start w0
 cases c with
 | false=>
   rw [if_neg (by decide)]
   have ha1:=Nat.le_of_eq ha
   have ha2:=Nat.le_of_eq ha.symm
   go_enter Tryz.func142,Tryz.ntmps142
   go_wp2_with (first|((with_reducible show qLd);refine zB hm ?_)|((with_reducible show qSt);refine zE hm ?_;clear hm;intro w hm)|((first|((with_reducible show qAl);refine zG hm ?_)|((with_reducible show qBx);refine zH hm ?_));clear hm;(first|(have hx_:=g1;clear hx_;(first|(have hx_:=g2;clear hx_;intro gx_)|intro g2))|intro g1);intro w hm))
   refine rtO hm rfl rfl ⟨rfl,hm.x⟩
 | true=>
   rw [if_pos rfl]
   have C1:=hid fun (w wx:World)(p q:Option Addr)(h1:RdB wx p a)(h2:RdB wx q b)=>by
     have h:=xor_any a b p q 16 16 wx h1 h2 (by omega) (by omega)
     rw [ha,hb]at h;exact h
   have lX:(xorL a b).length=16:=by rw [xorL_length,ha,hb];rfl
   have eX:blk (xorL a b)=bothL a b:=by
     refine nth_ext (by rw [blk_length,bothL_length]) fun i hi=> ?_
     rw [blk_length]at hi
     rw [bothL_nth _ _ _ hi]
     have h1:nth (blk (xorL a b)) i=nth (xorL a b) i:=by
       rw [show nth (xorL a b) i=gb (xorL a b) i from(gb_in _ i).symm];simp [nth,blk,hi]
     rw [h1]
     exact xorL_getD a b i (by rw [lX];exact hi)
   have C2:=hid fun (wx:World)(p:Option Addr)(c:Nat)(h:RdB wx p (xorL a b))=>eX ▸ oblock_any (xorL a b) p c wx h
   have lZ:(bothL a b).length=16:=bothL_length _ _
   generalize bothL a b=Z at*
   generalize xorL a b=X at*
   have ha1:=Nat.le_of_eq ha
   have ha2:=Nat.le_of_eq ha.symm
   have hb1:=Nat.le_of_eq hb
   have hb2:=Nat.le_of_eq hb.symm
   clear lX eX
   go_enter Tryz.func142,Tryz.ntmps142
   go_wp2_with (first|((first|((with_reducible show qAl);refine zG hm ?_)|((with_reducible show qBx);refine zH hm ?_));clear hm;(first|(have hx_:=g1;clear hx_;(first|(have hx_:=g2;clear hx_;intro gx_)|intro g2))|intro g1);intro w hm))
   have c1:=fun wx (hwx:Ext _ wx)=>C1.out wx wx _ _ ((hm.ext hwx).rdB (g:=g1) (l:=a) (by repeat (first|exact Has.hd|assumption|apply Has.tl))) ((hm.ext hwx).rdB (g:=g2) (l:=b) (by repeat (first|exact Has.hd|assumption|apply Has.tl)))
   refine rgE 4 14 ?_
   simp only [zTa]
   repeat (first
       | (apply walk_some (BytesS X) 12 (BytesS.stable _) rfl rfl rfl rfl
          · (intro wx hwx;go_simp;with_reducible exact gives_callR (c1 wx hwx)))
       | (apply walk_from (T:=[(12,BytesS X)]) rfl rfl
          · (intro wx hwx;simp only [withS];(rintro x ⟨p,c,rfl,hlc,hb'⟩);refine⟨rfl, ?_⟩;go_simp;with_reducible exact gives_call (C2.out wx p c hb'))
          · (simp only [zPu];rfl))
       | (apply walk_is rfl rfl rfl
          · (intro wx hwx;go_simp;(try go_bits);first|exact gives_same|exact gives_skip)
          · (simp only [zPu];rfl))
       | (apply walk_not rfl rfl rfl
          · (simp only [zPu];rfl)))
   intro wz hwz
   simp only [zZi]
   repeat (first|rw [fin_is]|(rw [fin_cons];intro _ _))
   rw [fin_nil]
   try (replace hm:=hm.ext hwz)
   simp only [zPu]
   clear c1
   go_wp2_with (first|((with_reducible show qSt);refine zE hm ?_;clear hm;intro w hm))
   refine rtO hm rfl rfl ⟨rfl,hm.x⟩
theorem shr_one(n:BitVec 64)(k:Nat):(n>>>k)>>>1=n>>>(k+1):=by rw [BitVec.shiftRight_add]
theorem and_one(n:BitVec 64)(k:Nat):((n>>>k)&&&1#64==1#64)=n.getLsbD k:=by
 have h:(n>>>k)&&&1#64=if n.getLsbD k=true then 1#64 else 0#64:=by
   apply BitVec.eq_of_getLsbD_eq
   intro i hi
   rw [BitVec.getLsbD_and,BitVec.getLsbD_ushiftRight,BitVec.getLsbD_one]
   rcases Nat.eq_zero_or_pos i with rfl|h0
   · cases h:n.getLsbD k<;>simp [h]
   · have:i≠0:=by omega
     cases h:n.getLsbD k<;>simp [this,BitVec.getLsbD_one]
 rw [h];cases n.getLsbD k<;>rfl
theorem shr_less(n:BitVec 64)(h:n≠0#64):(n>>>1).toNat<n.toNat:=by
 have h0:n.toNat≠0:=fun e=>h (BitVec.eq_of_toNat_eq (by simpa using e))
 rw [BitVec.toNat_ushiftRight,Nat.shiftRight_eq_div_pow];omega
theorem shr_64(n:BitVec 64)(k:Nat)(h:n>>>k≠0#64):k<64:=by
 rcases Nat.lt_or_ge k 64 with h1|h1
 · exact h1
 · exact absurd (BitVec.ushiftRight_eq_zero h1) h
theorem ring_mul(n:BitVec 64)(a:List Byte)(ha:a.length=16)(w0:World):Gives Tryz.prog 128 #[v64 n,A8 a] w0 (A8 (mulL n a)):=by
 unfold Gives
 have hm:=Own.start w0
 have HA:=hid ha
 have ha1:=Nat.le_of_eq ha
 have ha2:=Nat.le_of_eq ha.symm
 clear ha
 go_enter Tryz.func128,Tryz.ntmps128
 go_wp2_with (first|((first|((with_reducible show qAl);refine zG hm ?_)|((with_reducible show qBx);refine zH hm ?_));clear hm;(first|(have hx_:=g1;clear hx_;(first|(have hx_:=g2;clear hx_;(first|(have hx_:=g3;clear hx_;intro gx_)|intro g3))|intro g2))|intro g1);intro w hm))
 simp only [zPu]
 go_loopw [0] (fun v wr=>∃k:Nat,k≤64∧v=v64 (n>>>k)∧Own w0 wr [⟨g3,132,(msum n.getLsbD a k).map v8⟩,⟨g2,132,(zer 16).map v8⟩,⟨g1,132,(dblN a k).map v8⟩]) (fun v _=>(intOf v).toNat)
 case atStart=>exact⟨0,by omega,by simp,hm⟩
 case round=>
   obtain⟨k,hk,rfl,hm⟩:=hrel
   by_cases h0:n>>>k=0#64
   · have E:=hid (mul_end n a k hk h0)
     rw [E.out]at hm
     rw [h0]
     have l1:(mulL n a).length=16:=mulL_length _ _
     clear h0
     go_wp2_with (first|((with_reducible show qLd);refine zB hm ?_)|((with_reducible show qSt);refine zE hm ?_;clear hm;intro w hm))
     refine rtO hm rfl rfl ⟨rfl,hm.x⟩
   · have hk1:=shr_64 n k h0
     have HL:=hid (shr_less (n>>>k) h0)
     have hn0:(n>>>k).toNat≠0:=fun e=>h0 (BitVec.eq_of_toNat_eq (by simpa using e))
     have hp:0<(n>>>k).toNat:=by omega
     have hp1:(0:Int)<((n>>>k).toNat:Int):=by omega
     have hp2:decide ((0:Int)<((n>>>k).toNat:Int))=true:=decide_eq_true hp1
     have hp3:decide (((n>>>k).toNat:Int)>0)=true:=decide_eq_true hp1
     have EA:=hid (and_one n k)
     have ES:=hid (show msum n.getLsbD a (k+1)=if n.getLsbD k=true then bothL (msum n.getLsbD a k) (dblN a k)else msum n.getLsbD a k from rfl)
     have ER:=hid (shr_one n k)
     have l1:=msum_length n.getLsbD a k
     have l2:=dblN_length a HA.out k
     have l3:=msum_length n.getLsbD a (k+1)
     have l4:=dblN_length a HA.out (k+1)
     have cs:=fun wx=>ring_sum (msum n.getLsbD a k) (dblN a k) (n.getLsbD k) l1 l2 wx
     rw [←ES.out,←EA.out]at cs
     have CS:=hid cs
     have CD:Hid (∀wx,Gives Tryz.prog 143 #[A8 (dblN a k)] wx (A8 (dblN a (k+1)))):=hid fun wx=>ring_double (dblN a k) l2 wx
     clear cs
     generalize msum n.getLsbD a k=B at*
     generalize dblN a k=A at*
     generalize hB2:msum n.getLsbD a (k+1)=B2 at*
     generalize hA2:dblN a (k+1)=A2 at*
     have HB2:=hid hB2
     have HA2:=hid hA2
     clear hB2 hA2
     generalize hX:n>>>k=X at*
     clear h0 hn0
     go_wp2_with (first|(go_at_call 142;(with_reducible refine(CS.out _).mono ?_);rintro e_ w ⟨rfl,hx_⟩;replace hm:=hm.ext hx_;clear hx_)|(go_at_call 143;(with_reducible refine(CD.out _).mono ?_);rintro e_ w ⟨rfl,hx_⟩;replace hm:=hm.ext hx_;clear hx_)|((with_reducible show qLd);refine zB hm ?_)|((with_reducible show qSt);refine zE hm ?_;clear hm;intro w hm))
     go_roundw
     case rel=>exact⟨k+1,by omega,by rw [ER.out],by rw [HB2.out,HA2.out];exact hm⟩
     case measure=>
       show(((X>>>1).toNat:Int)).toNat<((X.toNat:Int)).toNat
       rw [Int.toNat_natCast,Int.toNat_natCast];exact HL.out
theorem and_one8:∀(x:Byte)(r:Fin 8),((x>>>r.val)&&&1#8==1#8)=x.getLsbD r.val:=by decide+kernel
theorem bit_at(b:List Byte)(k q r:Nat)(hq:k/8=q)(hr:k%8=r):((nth b (15-q)>>>r)&&&1#8==1#8)=bitA b k:=by
 subst hq hr
 exact and_one8 _ ⟨k%8,Nat.mod_lt _ (by omega)⟩
theorem ring_prod(a b:List Byte)(ha:a.length=16)(hb:b.length=16)(w0:World):Gives Tryz.prog 150 #[A8 a,A8 b] w0 (A8 (prodL a b)):=by
 unfold Gives
 have hm:=Own.start w0
 have HA:=hid ha
 have ha1:=Nat.le_of_eq ha
 have ha2:=Nat.le_of_eq ha.symm
 have hb1:=Nat.le_of_eq hb
 have hb2:=Nat.le_of_eq hb.symm
 clear ha hb
 go_enter Tryz.func150,Tryz.ntmps150
 go_wp2_with (first|((first|((with_reducible show qAl);refine zG hm ?_)|((with_reducible show qBx);refine zH hm ?_));clear hm;(first|(have hx_:=g1;clear hx_;(first|(have hx_:=g2;clear hx_;(first|(have hx_:=g3;clear hx_;(first|(have hx_:=g4;clear hx_;intro gx_)|intro g4))|intro g3))|intro g2))|intro g1);intro w hm))
 go_loopw [7] (fun i wr=>∃k:Nat,k≤128∧i= .int .i64 k∧Own w0 wr [⟨g4,132,(msum (bitA b) a k).map v8⟩,⟨g3,132,(zer 16).map v8⟩,⟨g2,132,b.map v8⟩,⟨g1,132,(dblN a k).map v8⟩]) (fun i _=>128-(intOf i).toNat)
 case atStart=>exact⟨0,by omega,rfl,hm⟩
 case round =>
   obtain⟨k,hk,rfl,hm⟩:=hrel
   by_cases hlt:k<128
   · have hd:decide ((k:Int)<128)=true:=decide_eq_true (by omega)
     obtain⟨q,hq,hq4⟩:∃q:Nat,k/8=q∧q<16:=⟨_,rfl,by omega⟩
     obtain⟨r,hr,hr4⟩:∃r:Nat,k%8=r∧r<8:=⟨_,rfl,Nat.mod_lt _ (by omega)⟩
     have a1:(k:Int)%8=(r:Int):=by omega
     have a2:(k:Int).tmod 8=(r:Int):=by rw [Int.tmod_eq_emod_of_nonneg (by omega)];exact a1
     have a3:(k:Int)/8=(q:Int):=by omega
     have a4:(k:Int).tdiv 8=(q:Int):=by rw [Int.tdiv_eq_ediv_of_nonneg (by omega)];exact a3
     have a5:(15:Int)-(q:Int)<16:=by omega
     have a6:0≤(15:Int)-(q:Int):=by omega
     have a7:((15:Int)-(q:Int)).toNat=15-q:=by omega
     have a8:(q:Int)≤15:=by omega
     have EA:=bit_at b k q r hq hr
     have ES:msum (bitA b) a (k+1)=if bitA b k=true then bothL (msum (bitA b) a k) (dblN a k)else msum (bitA b) a k:=rfl
     have l1:=msum_length (bitA b) a k
     have l2:=dblN_length a HA.out k
     have l3:=msum_length (bitA b) a (k+1)
     have l4:=dblN_length a HA.out (k+1)
     have cs:=fun wx=>ring_sum (msum (bitA b) a k) (dblN a k) (bitA b k) l1 l2 wx
     rw [←ES,←EA]at cs
     have CS:=hid cs
     have CD:Hid (∀wx,Gives Tryz.prog 143 #[A8 (dblN a k)] wx (A8 (dblN a (k+1)))):=hid fun wx=>ring_double (dblN a k) l2 wx
     clear cs ES EA hq hr
     generalize msum (bitA b) a k=B at*
     generalize dblN a k=A at*
     generalize hB2:msum (bitA b) a (k+1)=B2 at*
     generalize hA2:dblN a (k+1)=A2 at*
     have HB2:=hid hB2
     have HA2:=hid hA2
     clear hB2 hA2
     go_wp2_with fail
     refine rgE 13 27 ?_
     simp only [zTa]
     repeat (first
         | (apply walk_is rfl rfl rfl
            · (intro wx hwx;first|((with_reducible show qGl);first|(exact zJ (hm.ext hwx))|(exact zK (hm.ext hwx)))|(go_simp;(try go_bits);first|exact gives_same|exact gives_skip|with_reducible exact gives_call (CS.out wx)))
            · (simp only [zPu];rfl))
         | (apply walk_not rfl rfl rfl
            · (simp only [zPu];rfl)))
     intro wz hwz
     simp only [zZi]
     repeat (first|rw [fin_is]|(rw [fin_cons];intro _ _))
     rw [fin_nil]
     try (replace hm:=hm.ext hwz)
     simp only [zPu]
     go_wp2_with (first|(go_at_call 143;(with_reducible refine(CD.out _).mono ?_);rintro e_ w ⟨rfl,hx_⟩;replace hm:=hm.ext hx_;clear hx_)|((with_reducible show qLd);refine zB hm ?_)|((with_reducible show qSt);refine zE hm ?_;clear hm;intro w hm))
     go_roundw
     case rel=>exact⟨k+1,by omega,by go_num,by rw [HB2.out,HA2.out];exact hm⟩
     case measure=>simp [intOf]<;>omega
   · obtain rfl:k=128:=by omega
     have hd:decide (((128:Nat):Int)<128)=false:=decide_eq_false (by omega)
     rw [show msum (bitA b) a 128=prodL a b from rfl]at hm
     have l1:=prodL_length a b
     go_wp2_with (first|((with_reducible show qLd);refine zB hm ?_)|((with_reducible show qSt);refine zE hm ?_;clear hm;intro w hm))
     refine rtO hm rfl rfl ⟨rfl,hm.x⟩
def byL:List Byte:=[0#8,0#8,0#8,0#8,0#8,0#8,0#8,0#8,0#8,0#8,0#8,0#8,0#8,0#8,0#8,135#8]
theorem byL_top:byL=dblN oneL 128:=by
 rw [one_128]
 refine bits_ext rfl topL_length fun i hi=> ?_
 rw [topL,bit_msum _ 128 (Nat.le_refl _) i hi,decide_eq_true hi,Bool.true_and]
 have h:∀i:Fin 128,bitA byL i.val=spec i.val:=by decide+kernel
 exact h ⟨i,hi⟩
theorem build_by(w:World):(Instr.build 132 #[(15, .int .u8 135)]).run Tryz.prog w= .ok (A8 byL) w:=by kernel_rfl
theorem pow_step(q j:Nat):q%2^(j+1)=if (q/2^j)%2=1 then q%2^j+2^j else q%2^j:=by
 rw [Nat.pow_succ,Nat.mod_mul]
 split
 · next h=>rw [h];omega
 · next h=>
   have:q/2^j%2=0:=by omega
   rw [this];omega
def RzF(a:List Byte)(r q N:Nat)(A B:List Byte):Prop:=∃j,N=q/2^j∧A=dblN a (r+128*(q%2^j))∧B=dblN oneL (128*2^j)
section
variable {a:List Byte} {r q N:Nat} {A B:List Byte}
theorem RzF.start(a:List Byte)(r q:Nat):RzF a r q q (dblN a r) byL:=⟨0,by simp,by simp [Nat.mod_one],by rw [byL_top]⟩
theorem RzF.lenA(h:RzF a r q N A B)(ha:a.length=16):A.length=16:=by obtain⟨j,_,rfl,_⟩:=h;exact dblN_length a ha _
theorem RzF.lenB(h:RzF a r q N A B):B.length=16:=by obtain⟨j,_,_,rfl⟩:=h;exact dblN_length oneL oneL_length _
theorem RzF.done(h:RzF a r q 0 A B):A=dblN a (r+128*q):=by
 obtain⟨j,h0,rfl,_⟩:=h
 have:=Nat.div_add_mod q (2^j)
 rw [←h0,Nat.mul_zero,Nat.zero_add]at this
 rw [this]
theorem RzF.sq(h:RzF a r q N A B):∃j,N=q/2^j∧A=dblN a (r+128*(q%2^j))∧B=dblN oneL (128*2^j)∧prodL B B=dblN oneL (128*2^(j+1))∧N/2=q/2^(j+1):=by
 obtain⟨j,rfl,rfl,rfl⟩:=h
 refine⟨j,rfl,rfl,rfl, ?_, ?_⟩
 · rw [prod_pow _ (dblN_length oneL oneL_length _),←dblN_add,Nat.pow_succ];congr 1;omega
 · rw [Nat.pow_succ,Nat.div_div_eq_div_mul]
theorem RzF.odd(h:RzF a r q N A B)(ha:a.length=16)(h1:N%2=1):RzF a r q (N/2) (prodL A B) (prodL B B):=by
 have lA:=h.lenA ha
 obtain⟨j,rfl,hA,hB,e1,e2⟩:=h.sq
 refine⟨j+1,e2, ?_,e1⟩
 rw [hB,prod_pow _ lA,hA,←dblN_add,pow_step,if_pos h1];congr 1;omega
theorem RzF.even(h:RzF a r q N A B)(h1:¬N%2=1):RzF a r q (N/2) A (prodL B B):=by
 obtain⟨j,rfl,hA,hB,e1,e2⟩:=h.sq
 refine⟨j+1,e2, ?_,e1⟩
 rw [hA,pow_step,if_neg h1]
theorem RzF.le(h:RzF a r q N A B):N≤q:=by obtain⟨j,rfl,_⟩:=h;exact Nat.div_le_self _ _
end
theorem ring_raised(n:Nat)(a:List Byte)(ha:a.length=16)(hn:n≤9223372036854775807)(w0:World):Gives Tryz.prog 141 #[.int .i64 n,A8 a] w0 (A8 (dblN a n)):=by
 unfold Gives
 have hm:=Own.start w0
 have HA:=hid ha
 have ha1:=Nat.le_of_eq ha
 have ha2:=Nat.le_of_eq ha.symm
 clear ha
 have n0:decide ((n:Int)<0)=false:=decide_eq_false (by omega)
 have n1:¬(n:Int)<0:=by omega
 obtain⟨r,hr,hr8⟩:∃r:Nat,n%128=r∧r<128:=⟨_,rfl,Nat.mod_lt _ (by omega)⟩
 obtain⟨q,hq,hq8⟩:∃q:Nat,n/128=q∧q≤72057594037927935:=⟨_,rfl,by omega⟩
 have a1:(n:Int)%128=(r:Int):=by omega
 have a2:(n:Int).tmod 128=(r:Int):=by rw [Int.tmod_eq_emod_of_nonneg (by omega)];exact a1
 have a3:(n:Int)/128=(q:Int):=by omega
 have a4:(n:Int).tdiv 128=(q:Int):=by rw [Int.tdiv_eq_ediv_of_nonneg (by omega)];exact a3
 have hnq:n=r+128*q:=by omega
 have HN:=hid hnq
 clear hr hq hnq
 go_enter Tryz.func141,Tryz.ntmps141
 go_wp2_with (first|((first|((with_reducible show qAl);refine zG hm ?_)|((with_reducible show qBx);refine zH hm ?_));clear hm;(first|(have hx_:=g1;clear hx_;(first|(have hx_:=g2;clear hx_;intro gx_)|intro g2))|intro g1);intro w hm))
 refine wp_scope_goto 0 (fun a_ w_=>∃(N:Nat)(gq:Nat)(A B:List Byte)(u1 u2 u6 u7 u8 u9 u10 u11 u12 u13 u14 u15 u16 u17 u18 u19 u20 u21 u22 u23 u24 u25 u26 u27 u28 u29 u30 u31 u32:Value),a_={tmps:= #[(.int .i64 (N:Int)),u1,u2,(.pointer (some ⟨g1,0,none⟩)),(.pointer (some ⟨g2,0,none⟩)),(.pointer (some ⟨gq,0,none⟩)),u6,u7,u8,u9,u10,u11,u12,u13,u14,u15,u16,u17,u18,u19,u20,u21,u22,u23,u24,u25,u26,u27,u28,u29,u30,u31,u32],defers:=[]}∧RzF a r q N A B∧Own w0 w_ [⟨gq,132,B.map v8⟩,⟨g2,132,(zer 16).map v8⟩,⟨g1,132,A.map v8⟩]) (fun a_ _=>(intOf (a_.tmps.getD 0 undef)).toNat) rfl ?_ ?_
 · clear hm
   rintro a' w ⟨N,gq,A,B,u1,u2,u6,u7,u8,u9,u10,u11,u12,u13,u14,u15,u16,u17,u18,u19,u20,u21,u22,u23,u24,u25,u26,u27,u28,u29,u30,u31,u32,rfl,⟨hf,hm⟩⟩
   have HF:=hid hf
   have lA:=hf.lenA HA.out
   have lB:=hf.lenB
   have hNq:=hf.le
   clear hf
   cases N with
   | zero=>
     have e:=HF.out.done
     rw [←HN.out]at e
     subst e
     go_wp2_with (first|((with_reducible show qLd);refine zB hm ?_)|((with_reducible show qSt);refine zE hm ?_;clear hm;intro w hm))
     simp only [Exit.jump]
     refine rtO hm rfl rfl ⟨rfl,hm.x⟩
   | succ N=>
     have hne:(((N+1:Nat):Int)==0)=false:=by simp;omega
     generalize hN:N+1=N' at*
     have HL:Hid (N'/2<N'):=hid (by omega)
     have hNm:N'≤9223372036854775807:=by omega
     have CB:=hid fun wx=>ring_prod B B lB lB wx
     have lB2:=prodL_length B B
     clear hN
     by_cases hodd:N'%2=1
     · have HR:=hid (HF.out.odd HA.out hodd)
       have hbits:bits .and .i64 (N':Int) 1=1:=by rw [bits_and1,hodd];rfl
       have CA:=hid fun wx=>ring_prod A B lA lB wx
       have lA2:=prodL_length A B
       generalize prodL A B=A2 at*
       generalize prodL B B=B2 at*
       clear hodd
       go_wp2_with (first|(go_at_call 150;(with_reducible refine(CA.out _).mono ?_);clear CA;rintro e_ w ⟨rfl,hx_⟩;replace hm:=hm.ext hx_;clear hx_)|(go_at_call 150;(with_reducible refine(CB.out _).mono ?_);rintro e_ w ⟨rfl,hx_⟩;replace hm:=hm.ext hx_;clear hx_)|((with_reducible show qLd);refine zB hm ?_)|((with_reducible show qSt);refine zE hm ?_;clear hm;intro w hm))
       go_step3
       exact⟨rfl,⟨_,_,_,_,_,_,_,_,_,_,_,_,_,_,_,_,_,_,_,_,_,_,_,_,_,_,_,_,_,_,_,_,_,rfl,⟨HR.out,hm⟩⟩,by have hq:=HL.out;first|(simpa [intOf]using hq)|(simp [intOf];omega)⟩
     · have HR:=hid (HF.out.even hodd)
       have hev:N'%2=0:=by omega
       have hbits:bits .and .i64 (N':Int) 1=0:=by rw [bits_and1,hev];rfl
       generalize prodL B B=B2 at*
       clear hodd
       go_wp2_with (first|(go_at_call 150;(with_reducible refine(CB.out _).mono ?_);rintro e_ w ⟨rfl,hx_⟩;replace hm:=hm.ext hx_;clear hx_)|((with_reducible show qLd);refine zB hm ?_)|((with_reducible show qSt);refine zE hm ?_;clear hm;intro w hm))
       go_step3
       exact⟨rfl,⟨_,_,_,_,_,_,_,_,_,_,_,_,_,_,_,_,_,_,_,_,_,_,_,_,_,_,_,_,_,_,_,_,_,rfl,⟨HR.out,hm⟩⟩,by have hq:=HL.out;first|(simpa [intOf]using hq)|(simp [intOf];omega)⟩
 · intro hp
   go_wp2_with fail
   go_loopw [11] (fun i wr=>∃k:Nat,k≤r∧i= .int .i64 k∧Own w0 wr [⟨g2,132,(zer 16).map v8⟩,⟨g1,132,(dblN a k).map v8⟩]) (fun i _=>r-(intOf i).toNat)
   case atStart=>exact⟨0,by omega,rfl,hm⟩
   case round=>
     obtain⟨k,hk,rfl,hm⟩:=hrel
     by_cases hlt:k<r
     · have hd:decide ((k:Int)<(r:Int))=true:=decide_eq_true (by omega)
       have l2:=dblN_length a HA.out k
       have l4:=dblN_length a HA.out (k+1)
       have CD:Hid (∀wx,Gives Tryz.prog 143 #[A8 (dblN a k)] wx (A8 (dblN a (k+1)))):=hid fun wx=>ring_double (dblN a k) l2 wx
       generalize dblN a k=A at*
       generalize hA2:dblN a (k+1)=A2 at*
       have HA2:=hid hA2
       clear hA2
       go_wp2_with (first|(go_at_call 143;(with_reducible refine(CD.out _).mono ?_);rintro e_ w ⟨rfl,hx_⟩;replace hm:=hm.ext hx_;clear hx_)|((with_reducible show qLd);refine zB hm ?_)|((with_reducible show qSt);refine zE hm ?_;clear hm;intro w hm))
       go_roundw
       case rel=>exact⟨k+1,by omega,by go_num,by rw [HA2.out];exact hm⟩
       case measure=>simp [intOf]<;>omega
     · obtain rfl:k=r:=by omega
       have hd:decide ((k:Int)<(k:Int))=false:=decide_eq_false (by omega)
       have RS:=hid (RzF.start a k q)
       have lK:=dblN_length a HA.out k
       have lY:byL.length=16:=rfl
       have BY:=hid build_by
       generalize byL=Y at*
       generalize dblN a k=D0 at*
       go_wp2_with (first|((with_reducible apply wq_build1 BY.out);exact rfl;exact rfl)|((with_reducible show qSt);refine zE hm ?_;clear hm;intro w hm)|(((with_reducible show qAl);refine zG hm ?_);clear hm;(first|(have hx_:=g1;clear hx_;(first|(have hx_:=g2;clear hx_;intro gx_)|intro g2))|intro g1);intro w hm))
       go_step3
       rename_i hK
       exact hK _ _ (hp _ _ ⟨_,_,_,_,_,_,_,_,_,_,_,_,_,_,_,_,_,_,_,_,_,_,_,_,_,_,_,_,_,_,_,_,_,rfl,⟨RS.out,hm⟩⟩)
end Go.Proofs.YtneacgpmjlocjaaGreatDoor
