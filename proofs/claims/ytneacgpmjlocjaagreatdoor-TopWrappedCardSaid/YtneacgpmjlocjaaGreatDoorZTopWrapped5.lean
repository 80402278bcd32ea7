/-
  Texts of the program, walked, and plain ones. Conditions: those written in each theorem.
-/
import Derived.Test.YtneacgpmjlocjaaGreatDoorZTopWrapped0
import Derived.Test.YtneacgpmjlocjaaGreatDoorZTopWrapped2
import Derived.Test.YtneacgpmjlocjaaGreatDoorZTopWrapped4
import Derived.Test.YtneacgpmjlocjaaGreatDoorZTopWrapped3
import Derived.RegionTactic
set_option linter.unusedSimpArgs false
set_option linter.unusedVariables false
set_option maxHeartbeats 16000000
open Go.Lib (hid)
namespace Go.Proofs.YtneacgpmjlocjaaGreatDoor
open Go
def rotr(x:BitVec 64)(k:Nat):BitVec 64:=(x<<<(64-k))|||(x>>>k)
def half1(v:List (BitVec 64))(a b:Nat)(x:BitVec 64):List (BitVec 64):=setN v a (nth v a+(nth v b+x))
def half2(v:List (BitVec 64))(a d m:Nat):List (BitVec 64):=setN v d (rotr (nth v d^^^nth v a) m)
def half3(v:List (BitVec 64))(c d:Nat):List (BitVec 64):=setN v c (nth v c+nth v d)
def halfL(v:List (BitVec 64))(a b c d:Nat)(x:BitVec 64)(m n:Nat):List (BitVec 64):=half2 (half3 (half2 (half1 v a b x) a d m) c d) c b n
theorem halfL_length(v:List (BitVec 64))(a b c d:Nat)(x:BitVec 64)(m n:Nat):(halfL v a b c d x m n).length=v.length:=by simp [halfL,half1,half2,half3]
def stirL(v:List (BitVec 64))(i by_:Nat)(x y:BitVec 64):List (BitVec 64):=
 halfL (halfL v i (4+(i+by_)%4) (8+(i+2*by_)%4) (12+(i+3*by_)%4) x 32 24) i (4+(i+by_)%4) (8+(i+2*by_)%4) (12+(i+3*by_)%4) y 16 63
theorem stirL_length(v:List (BitVec 64))(i by_:Nat)(x y:BitVec 64):(stirL v i by_ x y).length=v.length:=by rw [stirL,halfL_length,halfL_length]
def firstL:List (BitVec 64):=[0x6a09e667f3bcc908#64,0xbb67ae8584caa73b#64,0x3c6ef372fe94f82b#64,0xa54ff53a5f1d36f1#64,0x510e527fade682d1#64,0x9b05688c2b3e6c1f#64,0x1f83d9abfb41bd6b#64,0x5be0cd19137e2179#64]
theorem firstL_length:firstL.length=8:=rfl
def rowsL:List (List Byte):=[
 [0#8,1#8,2#8,3#8,4#8,5#8,6#8,7#8,8#8,9#8,10#8,11#8,12#8,13#8,14#8,15#8],
 [14#8,10#8,4#8,8#8,9#8,15#8,13#8,6#8,1#8,12#8,0#8,2#8,11#8,7#8,5#8,3#8],
 [11#8,8#8,12#8,0#8,5#8,2#8,15#8,13#8,10#8,14#8,3#8,6#8,7#8,1#8,9#8,4#8],
 [7#8,9#8,3#8,1#8,13#8,12#8,11#8,14#8,2#8,6#8,5#8,10#8,4#8,0#8,15#8,8#8],
 [9#8,0#8,5#8,7#8,2#8,4#8,10#8,15#8,14#8,1#8,11#8,12#8,6#8,8#8,3#8,13#8],
 [2#8,12#8,6#8,10#8,0#8,11#8,8#8,3#8,4#8,13#8,7#8,5#8,15#8,14#8,1#8,9#8],
 [12#8,5#8,1#8,15#8,14#8,13#8,4#8,10#8,0#8,7#8,6#8,3#8,9#8,2#8,8#8,11#8],
 [13#8,11#8,7#8,14#8,12#8,1#8,3#8,9#8,5#8,0#8,15#8,4#8,8#8,6#8,2#8,10#8],
 [6#8,15#8,14#8,9#8,11#8,3#8,0#8,8#8,12#8,2#8,13#8,7#8,1#8,4#8,10#8,5#8],
 [10#8,2#8,8#8,4#8,7#8,6#8,1#8,5#8,15#8,11#8,9#8,14#8,3#8,12#8,13#8,0#8]]
theorem rowsL_length:rowsL.length=10:=rfl
theorem rowsL_each:∀k∈rowsL,k.length=16:=by decide
theorem rowsL_lt:∀k∈rowsL,∀x∈k,x.toNat<16:=by decide
def rowL(r:Nat):List Byte:=rowsL.getD (r%10) []
theorem rowL_length(r:Nat):(rowL r).length=16:=by
 have h:r%10<rowsL.length:=Nat.mod_lt _ (by decide)
 rw [rowL,List.getD_eq_getElem?_getD,List.getElem?_eq_getElem h];exact rowsL_each _ (List.getElem_mem h)
theorem rowL_lt(r i:Nat):(nth (rowL r) i).toNat<16:=by
 have h:r%10<rowsL.length:=Nat.mod_lt _ (by decide)
 by_cases hi:i<(rowL r).length
 · rw [nth_get hi]
   refine rowsL_lt (rowL r) ?_ _ (List.getElem_mem hi)
   rw [rowL,List.getD_eq_getElem?_getD,List.getElem?_eq_getElem h];exact List.getElem_mem h
 · rw [nth_ge (by omega)];decide
def stepF(m:List (BitVec 64))(row:List Byte)(v:List (BitVec 64)):Nat→List (BitVec 64)
 |0=>v
 |i+1=>stirL (stepF m row v i) (i%4) (i/4) (nth m (nth row (2*i)).toNat) (nth m (nth row (2*i+1)).toNat)
theorem stepF_length(m:List (BitVec 64))(row:List Byte)(v:List (BitVec 64))(i:Nat):(stepF m row v i).length=v.length:=by
 induction i with
 |zero=>rfl
 |succ i ih=>rw [stepF,stirL_length,ih]
def roundF(m v:List (BitVec 64)):Nat→List (BitVec 64)
 |0=>v
 |r+1=>stepF m (rowL r) (roundF m v r) 8
theorem roundF_length(m v:List (BitVec 64))(r:Nat):(roundF m v r).length=v.length:=by
 induction r with
 |zero=>rfl
 |succ r ih=>rw [roundF,stepF_length,ih]
def startF(h:List (BitVec 64)):Nat→List (BitVec 64)
 |0=>zer 16
 |k+1=>setN (setN (startF h k) k (nth h k)) (k+8) (nth firstL k)
theorem startF_length(h:List (BitVec 64))(k:Nat):(startF h k).length=16:=by
 induction k with
 |zero=>exact zer_length
 |succ k ih=>rw [startF,setN_length,setN_length,ih]
def xorN(v:List (BitVec 64))(i:Nat)(x:BitVec 64):List (BitVec 64):=setN v i (nth v i^^^x)
def notN(v:List (BitVec 64))(i:Nat):List (BitVec 64):=setN v i (~~~ (nth v i))
def initL(h:List (BitVec 64))(lo hi:BitVec 64)(last:Bool):List (BitVec 64):=
 let v:=xorN (xorN (startF h 8) 12 lo) 13 hi
 if last then notN v 14 else v
theorem initL_length(h:List (BitVec 64))(lo hi:BitVec 64)(last:Bool):(initL h lo hi last).length=16:=by
 unfold initL;cases last<;>simp [xorN,notN,startF_length]
def compL(h m:List (BitVec 64))(lo hi:BitVec 64)(last:Bool):List (BitVec 64):=
 tab 8 fun i=>nth h i^^^(nth (roundF m (initL h lo hi last) 12) i^^^nth (roundF m (initL h lo hi last) 12) (i+8))
theorem compL_length(h m:List (BitVec 64))(lo hi:BitVec 64)(last:Bool):(compL h m lo hi last).length=8:=tab_length
open Go Go.RowKit
set_option maxRecDepth 100000
theorem neg_mask(n:Nat)(h0:0<n)(h1:n≤63):bits BinOp.and IntKind.u64 (IntKind.u64.wrap (-(n:Int))) 63=((64-n:Nat):Int)∧IntKind.u64.wrap (64-((64-n:Nat):Int))=(n:Int):=by
 have:∀k:Fin 64,0<k.val→bits BinOp.and IntKind.u64 (IntKind.u64.wrap (-(k.val:Int))) 63=((64-k.val:Nat):Int)∧IntKind.u64.wrap (64-((64-k.val:Nat):Int))=(k.val:Int):=by decide+kernel
 exact this ⟨n,by omega⟩ h0
theorem rot64_any(x:BitVec 64)(n:Nat)(h0:0<n)(h1:n≤63)(w:World):Calls Tryz.prog 155 #[v64 x, .int .i64 (-(n:Int))] w fun e w'=>e= .returned (v64 (rotr x n))∧w=w':=by
 obtain⟨hb,hw⟩:=neg_mask n h0 h1
 obtain⟨q,hq⟩:∃q:Nat,64-n=q:=⟨_,rfl⟩
 rw [hq]at hb hw
 have E:=hid (show rotr x n=(x<<<q)|||(x>>>n)by rw [rotr,hq])
 clear hq
 go_enter Tryz.func155,Tryz.ntmps155
 go_wp2
 go_ret
 exact⟨by rw [E.out];rfl,rfl⟩
theorem rot64_G(x:BitVec 64)(n:Nat)(h0:0<n)(h1:n≤63)(w:World):Gives Tryz.prog 155 #[v64 x, .int .i64 (-(n:Int))] w (v64 (rotr x n)):= .of_same (rot64_any x n h0 h1 w)
theorem half_any(g:Nat)(l:List (BitVec 64))(a b c d:Nat)(x:BitVec 64)(m n:Nat)(hl:l.length=16)(ha:a<16)(hb:b<16)(hc:c<16)(hd:d<16)(hm0:0<m)(hm1:m≤63)(hn0:0<n)(hn1:n≤63)(w0 w:World)(L L':List Blk)(hm:Own w0 w L)(hs:Swap L ⟨g,233,l.map v64⟩ ⟨g,233,(halfL l a b c d x m n).map v64⟩ L'):
   Calls Tryz.prog 152 #[.pointer (some ⟨g,0,none⟩), .int .i64 a, .int .i64 b, .int .i64 c, .int .i64 d,v64 x, .int .i64 m, .int .i64 n] w fun e w'=>e= .returned (.tuple #[])∧Own w0 w' L':=by
 obtain⟨R,p1,p2⟩:=hs.front
 replace hm:=hm.perm p1
 have P2:=hid p2.symm
 have HE:=hid (show halfL l a b c d x m n=half2 (half3 (half2 (half1 l a b x) a d m) c d) c b n from rfl)
 have hl1:l.length=16:=hl
 have l1:(half1 l a b x).length=16:=by simp [half1,hl]
 have l2:(half2 (half1 l a b x) a d m).length=16:=by simp [half1,half2,hl]
 have l3:(half3 (half2 (half1 l a b x) a d m) c d).length=16:=by simp [half1,half2,half3,hl]
 have ai:(a:Int)<16:=by omega
 have bi:(b:Int)<16:=by omega
 have ci:(c:Int)<16:=by omega
 have di:(d:Int)<16:=by omega
 have D1:=hid fun y wx=>rot64_G y m hm0 hm1 wx
 have D2:=hid fun y wx=>rot64_G y n hn0 hn1 wx
 have hmi:(m:Int)≤63:=by omega
 have hni:(n:Int)≤63:=by omega
 clear hs p1 p2 hl
 go_enter Tryz.func152,Tryz.ntmps152
 go_wp2_with fail
 refine rgE 15 80 ?_
 simp only [zTa]
 repeat (first
     | (apply walk_is rfl rfl rfl
        · (intro wx hwx;first|((with_reducible show qGl);exact zJ (hm.ext hwx))|(go_simp;(try go_bits);first|exact gives_same|exact gives_skip))
        · (simp only [zPu];rfl))
     | (apply walk_not rfl rfl rfl
        · (simp only [zPu];rfl)))
 intro wz hwz
 simp only [zZi]
 repeat (first|rw [fin_is]|(rw [fin_cons];intro _ _))
 rw [fin_nil]
 try (replace hm:=hm.ext hwz)
 simp only [zPu]
 go_wp2_with (first|((with_reducible show qSt);refine zD hm ?_;clear hm;intro w hm))
 replace hm:Own w0 w (⟨g,233,(half1 l a b x).map v64⟩::R):=hm
 generalize half1 l a b x=v1 at*
 refine rgE 18 80 ?_
 simp only [zTa]
 repeat (first
     | (apply walk_is rfl rfl rfl
        · (intro wx hwx;first|((with_reducible show qGl);exact zJ (hm.ext hwx))|(go_simp;(try go_bits);first|exact gives_same|exact gives_skip|with_reducible exact gives_call (D1.out _ wx)))
        · (simp only [zPu];rfl))
     | (apply walk_not rfl rfl rfl
        · (simp only [zPu];rfl)))
 intro wz hwz
 simp only [zZi]
 repeat (first|rw [fin_is]|(rw [fin_cons];intro _ _))
 rw [fin_nil]
 try (replace hm:=hm.ext hwz)
 simp only [zPu]
 go_wp2_with (first|((with_reducible show qSt);refine zD hm ?_;clear hm;intro w hm))
 replace hm:Own w0 w (⟨g,233,(half2 v1 a d m).map v64⟩::R):=hm
 generalize half2 v1 a d m=v2 at*
 refine rgE 13 80 ?_
 simp only [zTa]
 repeat (first
     | (apply walk_is rfl rfl rfl
        · (intro wx hwx;first|((with_reducible show qGl);exact zJ (hm.ext hwx))|(go_simp;(try go_bits);first|exact gives_same|exact gives_skip))
        · (simp only [zPu];rfl))
     | (apply walk_not rfl rfl rfl
        · (simp only [zPu];rfl)))
 intro wz hwz
 simp only [zZi]
 repeat (first|rw [fin_is]|(rw [fin_cons];intro _ _))
 rw [fin_nil]
 try (replace hm:=hm.ext hwz)
 simp only [zPu]
 go_wp2_with (first|((with_reducible show qSt);refine zD hm ?_;clear hm;intro w hm))
 replace hm:Own w0 w (⟨g,233,(half3 v2 c d).map v64⟩::R):=hm
 generalize half3 v2 c d=v3 at*
 refine rgE 18 80 ?_
 simp only [zTa]
 repeat (first
     | (apply walk_is rfl rfl rfl
        · (intro wx hwx;first|((with_reducible show qGl);exact zJ (hm.ext hwx))|(go_simp;(try go_bits);first|exact gives_same|exact gives_skip|with_reducible exact gives_call (D2.out _ wx)))
        · (simp only [zPu];rfl))
     | (apply walk_not rfl rfl rfl
        · (simp only [zPu];rfl)))
 intro wz hwz
 simp only [zZi]
 repeat (first|rw [fin_is]|(rw [fin_cons];intro _ _))
 rw [fin_nil]
 try (replace hm:=hm.ext hwz)
 simp only [zPu]
 go_wp2_with (first|((with_reducible show qSt);refine zD hm ?_;clear hm;intro w hm))
 go_end0
 refine⟨rfl, ?_⟩
 rw [HE.out]at P2
 exact hm.perm P2.out
theorem stir_any(g:Nat)(l:List (BitVec 64))(i by_:Nat)(x y:BitVec 64)(hl:l.length=16)(hi:i<4)(hb:by_<2)(w0 w:World)(L L':List Blk)(hm:Own w0 w L)(hs:Swap L ⟨g,233,l.map v64⟩ ⟨g,233,(stirL l i by_ x y).map v64⟩ L'):
   Calls Tryz.prog 147 #[.pointer (some ⟨g,0,none⟩), .int .i64 i, .int .i64 by_,v64 x,v64 y] w fun e w'=>e= .returned (.tuple #[])∧Own w0 w' L':=by
 obtain⟨q1,h1,h14⟩:∃q:Nat,(i+by_)%4=q∧q<4:=⟨_,rfl,Nat.mod_lt _ (by omega)⟩
 obtain⟨q2,h2,h24⟩:∃q:Nat,(i+2*by_)%4=q∧q<4:=⟨_,rfl,Nat.mod_lt _ (by omega)⟩
 obtain⟨q3,h3,h34⟩:∃q:Nat,(i+3*by_)%4=q∧q<4:=⟨_,rfl,Nat.mod_lt _ (by omega)⟩
 have a1:((i:Int)+(by_:Int))%4=(q1:Int):=by omega
 have a2:((i:Int)+(by_:Int)).tmod 4=(q1:Int):=by rw [Int.tmod_eq_emod_of_nonneg (by omega)];exact a1
 have a3:((i:Int)+2*(by_:Int))%4=(q2:Int):=by omega
 have a4:((i:Int)+2*(by_:Int)).tmod 4=(q2:Int):=by rw [Int.tmod_eq_emod_of_nonneg (by omega)];exact a3
 have a5:((i:Int)+3*(by_:Int))%4=(q3:Int):=by omega
 have a6:((i:Int)+3*(by_:Int)).tmod 4=(q3:Int):=by rw [Int.tmod_eq_emod_of_nonneg (by omega)];exact a5
 obtain⟨M,m1,m2⟩:=hs.split ⟨g,233,(halfL l i (4+q1) (8+q2) (12+q3) x 32 24).map v64⟩
 have e:stirL l i by_ x y=halfL (halfL l i (4+q1) (8+q2) (12+q3) x 32 24) i (4+q1) (8+q2) (12+q3) y 16 63:=by rw [stirL,h1,h2,h3]
 rw [e]at m2
 have C1:=fun wa hma=>half_any g l i (4+q1) (8+q2) (12+q3) x 32 24 hl (by omega) (by omega) (by omega) (by omega) (by omega) (by omega) (by omega) (by omega) w0 wa L M hma m1
 have C2:=fun wa hma=>half_any g _ i (4+q1) (8+q2) (12+q3) y 16 63 (by rw [halfL_length,hl]) (by omega) (by omega) (by omega) (by omega) (by omega) (by omega) (by omega) (by omega) w0 wa M L' hma m2
 push_cast at C1 C2
 have D1:=hid C1
 have D2:=hid C2
 clear C1 C2 hs m1 m2 e h1 h2 h3
 go_enter Tryz.func147,Tryz.ntmps147
 go_wp2_with fail
 refine(D1.out _ hm).mono ?_
 rintro e w1 ⟨rfl,hm1⟩
 go_wp2_with fail
 refine(D2.out _ hm1).mono ?_
 rintro e w2 ⟨rfl,hm2⟩
 go_wp2
 go_end0
 exact⟨rfl,hm2⟩
abbrev A64(l:List (BitVec 64)):Value:= .agg (l.map v64).toArray
def CoefB(w:World):Prop:=(∀i,i<8→w.cell? ⟨3,i,none⟩=some (v64 (nth firstL i)))∧RdK w (some ⟨4,0,none⟩) 16 rowsL
theorem CoefB.ext {w w':World}(h:CoefB w)(hx:Ext w w'):CoefB w':=⟨fun i hi=>hx.cell (h.1 i hi),h.2.ext hx⟩
theorem CoefB.row {w:World}(h:CoefB w)(q:Nat)(hq:q<10):RdB w (some ⟨4,q*16,none⟩) (rowL q):=by
 have:=(h.2.at (by omega) q (by rw [rowsL_length];exact hq)).1
 have e:((some (⟨4,0,none⟩:Addr)).getD default).add (q*16)=⟨4,q*16,none⟩:=by simp [Addr.add];omega
 rw [e]at this
 rwa [rowL,Nat.mod_eq_of_lt hq]
theorem long_G(b:List Byte)(p:Option Addr)(c n:Nat)(i:Int)(w:World)(hb:b.length=n)(hn:n≤140737488355328)(h0: -9223372036854775808≤i)(h1:i≤9223372036854775807)(hr:RdB w p b):Gives Tryz.prog 146 #[.slice p n c, .int .i64 i] w (v64 (num b i 8)):=by
 subst hb;exact long_any b p c i w hr hn h0 h1
theorem Own.turn64 {w0 w:World}{L L':List Blk}{g k:Nat}{t:TypeId}{l:List (BitVec 64)}{b:BitVec 64}(h:Own w0 w L)(hs:Swap L ⟨g,t,l.map v64⟩ ⟨g,t,(setN l k b).map v64⟩ L'):Own w0 (w.setCell ⟨g,k,none⟩ (v64 b)) L':=by
 rw [←mapv_set]at hs;exact h.turnC hs
def mF(b:List Byte)(i:Nat):BitVec 64:=num b (8*(i:Int)) 8
def mL(b:List Byte):List (BitVec 64):=tab 16 (mF b)
attribute [local simp] compL_length
theorem compress_any (h : List (BitVec 64))(b:List Byte)(lo hi:BitVec 64)(last:Bool)(hh:h.length=8)(hb:b.length=128)(w0:World)(hc:CoefB w0):
   Gives Tryz.prog 133 #[A64 h,A8 b, .agg #[v64 lo,v64 hi], .bool last] w0 (A64 (compL h (mL b) lo hi last)):=by
 unfold Gives
 have hm:=Own.start w0
 have HC:=hid hc
 have HB:=hid hb
 have HH:=hid hh
 have hb1:=Nat.le_of_eq hb
 have hb2:=Nat.le_of_eq hb.symm
 have hh1:=Nat.le_of_eq hh
 have hh2:=Nat.le_of_eq hh.symm
 obtain⟨V,hV⟩:∃V,initL h lo hi last=V:=⟨_,rfl⟩
 have HV:=hid hV
 have HI:=hid (hV ▸ initL_length h lo hi last)
 have EC:=hid (show compL h (mL b) lo hi last=tab 8 fun i=>nth h i^^^(nth (roundF (mL b) V 12) i^^^nth (roundF (mL b) V 12) (i+8))by rw [compL,hV])
 have lC:(compL h (mL b) lo hi last).length=8:=compL_length _ _ _ _ _
 generalize compL h (mL b) lo hi last=CL at*
 clear hc hb hh hV
 go_enter Tryz.func133,Tryz.ntmps133
 go_wp2_with (first|((first|((with_reducible show qAl);refine zG hm ?_)|((with_reducible show qBx);refine zH hm ?_));clear hm;(first|(have hx_:=g1;clear hx_;(first|(have hx_:=g2;clear hx_;(first|(have hx_:=g3;clear hx_;(first|(have hx_:=g4;clear hx_;(first|(have hx_:=g5;clear hx_;(first|(have hx_:=g6;clear hx_;(first|(have hx_:=g7;clear hx_;intro gx_)|intro g7))|intro g6))|intro g5))|intro g4))|intro g3))|intro g2))|intro g1);intro w hm))
 go_loopw [17] (fun i wr=>∃k:Nat,k≤16∧i= .int .i64 k∧Own w0 wr [⟨g6,233,(zer (n:=64) 16).map v64⟩,⟨g5,233,(part 16 k (mF b) fun _=>0).map v64⟩,⟨g4,189,(zer (n:=64) 8).map v64⟩,⟨g3,191,[v64 lo,v64 hi]⟩,⟨g2,215,b.map v8⟩,⟨g1,189,h.map v64⟩]) (fun i _=>16-(intOf i).toNat)
 case atStart=>exact⟨0,by omega,rfl,by rw [←zer_start];exact hm⟩
 case round =>
   obtain⟨k,hk,rfl,hm⟩:=hrel
   by_cases hlt:k<16
   · go_wp2_with (first|(go_at_call 146;(with_reducible refine(long_G b _ _ _ _ _ HB.out (by omega) (by omega) (by omega) (hm.rdB (by repeat (first|exact Has.hd|assumption|apply Has.tl)))).mono ?_);rintro e_ w ⟨rfl,hx_⟩;replace hm:=hm.ext hx_;clear hx_)|((with_reducible show qSt);refine zD hm ?_;clear hm;intro w hm))
     go_roundw
     case rel=>
       rw [part_set' (f:=mF b) (x:=num b (8*(k:Int)) 8) hlt rfl]at hm
       exact⟨k+1,by omega,by go_num,hm⟩
     case measure=>simp [intOf]<;>omega
   · obtain rfl : k = 16 :=by omega
     rw [part_all]at hm
     go_wp2_with fail
     go_loopw [27] (fun i wr=>∃k:Nat,k≤8∧i= .int .i64 k∧Own w0 wr [⟨g6,233,(startF h k).map v64⟩,⟨g5,233,(mL b).map v64⟩,⟨g4,189,(zer (n:=64) 8).map v64⟩,⟨g3,191,[v64 lo,v64 hi]⟩,⟨g2,215,b.map v8⟩,⟨g1,189,h.map v64⟩]) (fun i _=>8-(intOf i).toNat)
     case atStart=>exact⟨0,by omega,rfl,hm⟩
     case round =>
       obtain⟨k,hk,rfl,hm⟩:=hrel
       by_cases hlt:k<8
       · have hd:decide ((k:Int)<8)=true:=by simp;omega
         go_wp2_with fail
         have sl:=startF_length h k
         have o1:=hm.turn64 (g:=g6) (k:=k) (b:=nth h k) (by repeat (first|exact Swap.hd|assumption|apply Swap.tl))
         have o2:=o1.turn64 (g:=g6) (k:=k+8) (b:=nth firstL k) (by repeat (first|exact Swap.hd|assumption|apply Swap.tl))
         have r6:=hm.row (g:=g6) (by repeat (first|exact Has.hd|assumption|apply Has.tl))
         have hcH:wr.cell? ⟨g1,k,none⟩=some (v64 (nth h k)):=by rw [row_cell (hm.row (g:=g1) (by repeat (first|exact Has.hd|assumption|apply Has.tl))),map64_at h (by omega)]
         have hcF:=(HC.out.ext hm.x).1 k hlt
         have hcV:wr.cell? ⟨g6,k,none⟩=some (v64 (nth (startF h k) k)):=by rw [row_cell r6,map64_at _ (by omega)]
         have hcW:wr.cell? ⟨g6,k+8,none⟩=some (v64 (nth (startF h k) (k+8))):=by rw [row_cell r6,map64_at _ (by omega)]
         have hf1:=row_free r6 k
         have hf2:=row_free r6 (k+8)
         have hne:¬k=k+8:=by omega
         have hk8:(k:Int)<8:=by omega
         have O2:=hid o2
         clear o1 o2 r6 hm
         go_region
         all_goals
           go_wp2_with fail
           go_roundw
           case rel=>exact⟨k+1,by omega,by go_num,O2.out.drew⟩
           case measure=>simp [intOf]<;>omega
       · obtain rfl : k = 8:=by omega
         have hs:=startF_length h 8
         have hmb:(mL b).length=16:=tab_length
         have hi0:=HI.out
         have REST:=hid (show roundF (mL b) V 0=V from rfl)
         have e2:∀v0,startF h 8=v0→V=if last then notN (xorN (xorN v0 12 lo) 13 hi) 14 else xorN (xorN v0 12 lo) 13 hi:=by rintro v0 rfl;rw [←HV.out];rfl
         obtain⟨v0,hv0⟩:∃v0,startF h 8=v0:=⟨_,rfl⟩
         have e3:=e2 v0 hv0
         rw [hv0]at hm hs
         clear e2 hv0
         cases last
         all_goals
           simp only [Bool.false_eq_true,if_true,if_false]at e3
           have E3:=hid e3
           clear e3
           go_wp2_with (first|((with_reducible show qLd);first|(refine zA hm ?_)|(refine zC hm ?_))|((with_reducible show qSt);refine zD hm ?_;clear hm;intro w hm))
           first
             | (replace hm:Own w0 w [⟨g6,233,(xorN (xorN v0 12 lo) 13 hi).map v64⟩,⟨g5,233,(mL b).map v64⟩,⟨g4,189,(zer (n:=64) 8).map v64⟩,⟨g3,191,[v64 lo,v64 hi]⟩,⟨g2,215,b.map v8⟩,⟨g1,189,h.map v64⟩]:=hm
                rw [←E3.out]at hm)
             | (replace hm:Own w0 w [⟨g6,233,(notN (xorN (xorN v0 12 lo) 13 hi) 14).map v64⟩,⟨g5,233,(mL b).map v64⟩,⟨g4,189,(zer (n:=64) 8).map v64⟩,⟨g3,191,[v64 lo,v64 hi]⟩,⟨g2,215,b.map v8⟩,⟨g1,189,h.map v64⟩]:=hm
                rw [←E3.out]at hm)
           rw [←REST.out]at hm
           clear REST E3
           generalize mL b=M at*
           have hm1:=Nat.le_of_eq hmb
           have hm2:=Nat.le_of_eq hmb.symm
           go_wp2_with fail
           go_loopw [59] (fun i wr=>∃r:Nat,r≤12∧i= .int .i64 r∧Own w0 wr [⟨g6,233,(roundF M V r).map v64⟩,⟨g5,233,(M).map v64⟩,⟨g4,189,(zer (n:=64) 8).map v64⟩,⟨g3,191,[v64 lo,v64 hi]⟩,⟨g2,215,b.map v8⟩,⟨g1,189,h.map v64⟩]) (fun i _=>12-(intOf i).toNat)
           case atStart=>exact⟨0,by omega,rfl,hm⟩
           case round =>
             obtain⟨r,hr,rfl,hm⟩:=hrel
             by_cases hlt:r<12
             · have hd : decide ((r:Int)<12)=true:=by simp;omega
               obtain⟨q,hq,hq4⟩:∃q:Nat,r%10=q∧q<10:=⟨_,rfl,Nat.mod_lt _ (by omega)⟩
               have a1:(r:Int)%10=(q:Int):=by omega
               have a2:(r:Int).tmod 10=(q:Int):=by rw [Int.tmod_eq_emod_of_nonneg (by omega)];exact a1
               have hq10:(q:Int)<10:=by omega
               have e1:roundF M V (r+1)=stepF M (rowL q) (roundF M V r) 8:=by rw [roundF,←hq];simp only [rowL,Nat.mod_mod]
               have lR:(rowL q).length=16:=rowL_length q
               have ltR:=rowL_lt q
               have RQ:=hid (HC.out.row q hq4)
               have lv:(roundF M V r).length=16:=by rw [roundF_length,hi0]
               generalize roundF M V r=W0 at*
               generalize rowL q=RW at*
               have E1:=hid e1
               have LTR:=hid ltR
               clear e1 ltR hq
               go_wp2_with (first|((with_reducible apply wq_rdW (RQ.out.ext (hm.x)));exact rfl;infer_instance;exact rfl;exact lR)|((with_reducible show qSt);refine zE hm ?_;clear hm;intro w hm)|(((with_reducible show qAl);refine zG hm ?_);clear hm;(first|(have hx_:=g1;clear hx_;(first|(have hx_:=g2;clear hx_;(first|(have hx_:=g3;clear hx_;(first|(have hx_:=g4;clear hx_;(first|(have hx_:=g5;clear hx_;(first|(have hx_:=g6;clear hx_;(first|(have hx_:=g7;clear hx_;intro gx_)|intro g7))|intro g6))|intro g5))|intro g4))|intro g3))|intro g2))|intro g1);intro w hm))
               go_loopw [66] (fun i wr=>∃k:Nat,k≤8∧i= .int .i64 k∧Own w0 wr [⟨g7,132,RW.map v8⟩,⟨g6,233,(stepF M RW W0 k).map v64⟩,⟨g5,233,M.map v64⟩,⟨g4,189,(zer (n:=64) 8).map v64⟩,⟨g3,191,[v64 lo,v64 hi]⟩,⟨g2,215,b.map v8⟩,⟨g1,189,h.map v64⟩]) (fun i _=>8-(intOf i).toNat)
               case atStart=>exact⟨0,by omega,rfl,hm⟩
               case round =>
                 obtain⟨k,hk,rfl,hm⟩:=hrel
                 by_cases hlt:k<8
                 · have hd:decide ((k:Int)<8)=true:=by simp;omega
                   obtain⟨qi,hqi,hqi4⟩:∃q:Nat,k%4=q∧q<4:=⟨_,rfl,Nat.mod_lt _ (by omega)⟩
                   obtain⟨di,hdi,hdi4⟩:∃q:Nat,k/4=q∧q<2:=⟨_,rfl,by omega⟩
                   have a1:(k:Int)%4=(qi:Int):=by omega
                   have a2:(k:Int).tmod 4=(qi:Int):=by rw [Int.tmod_eq_emod_of_nonneg (by omega)];exact a1
                   have a3:(k:Int)/4=(di:Int):=by omega
                   have a4:(k:Int).tdiv 4=(di:Int):=by rw [Int.tdiv_eq_ediv_of_nonneg (by omega)];exact a3
                   have b1:2*(k:Int)<16:=by omega
                   have b2:0≤2*(k:Int):=by omega
                   have b3:(2*(k:Int)).toNat=2*k:=by omega
                   have b4:2*(k:Int)+1<16:=by omega
                   have b5:0≤2*(k:Int)+1:=by omega
                   have b6:(2*(k:Int)+1).toNat=2*k+1:=by omega
                   have c1:=LTR.out (2*k)
                   have c2:=LTR.out (2*k+1)
                   have c3:((nth RW (2*k)).toNat:Int)<16:=by omega
                   have c4:((nth RW (2*k+1)).toNat:Int)<16:=by omega
                   have e2:stepF M RW W0 (k+1)=stirL (stepF M RW W0 k) qi di (nth M (nth RW (2*k)).toNat) (nth M (nth RW (2*k+1)).toNat):=by rw [stepF,hqi,hdi]
                   have E2:=hid e2
                   have lsF:(stepF M RW W0 k).length=16:=by rw [stepF_length,lv]
                   clear e2 hqi hdi
                   go_wp2_with fail
                   refine rgE 17 107 ?_
                   simp only [zTa]
                   repeat (first
                       | (apply walk_is rfl rfl rfl
                          · (intro wx hwx;first|((with_reducible show qGl);exact zJ (hm.ext hwx))|(go_simp;(try go_bits);first|exact gives_same|exact gives_skip))
                          · (simp only [zPu];rfl))
                       | (apply walk_not rfl rfl rfl
                          · (simp only [zPu];rfl)))
                   intro wz hwz
                   simp only [zZi]
                   repeat (first|rw [fin_is]|(rw [fin_cons];intro _ _))
                   rw [fin_nil]
                   try (replace hm:=hm.ext hwz)
                   simp only [zPu]
                   go_wp2_with fail
                   refine(stir_any g6 (stepF M RW W0 k) qi di _ _ lsF hqi4 hdi4 w0 _ _ _ hm (by repeat (first|exact Swap.hd|assumption|apply Swap.tl))).mono ?_
                   rintro e w ⟨rfl,hm⟩
                   rw [←E2.out]at hm
                   go_wp2
                   go_roundw
                   case rel=>exact⟨k+1,by omega,by go_num,hm⟩
                   case measure=>simp [intOf]<;>omega
                 · obtain rfl:k=8:=by omega
                   rw [←E1.out]at hm
                   go_wp2_with fail
                   go_roundw
                   case rel=>exact⟨r+1,by omega,by go_num,hm.drop⟩
                   case measure=>simp [intOf]<;>omega
             · obtain rfl :r=12:=by omega
               rw [show((12:Nat):Int)=12 from rfl]
               have lv:(roundF M V 12).length=16:=by rw [roundF_length,hi0]
               generalize roundF M V 12=Z at*
               rw [part_start (f:=fun i=>nth h i^^^(nth Z i^^^nth Z (i+8))) HH.out]at hm
               go_wp2_with fail
               go_loopw [89] (fun i wr=>∃k:Nat,k≤8∧i= .int .i64 k∧Own w0 wr [⟨g6,233,Z.map v64⟩,⟨g5,233,M.map v64⟩,⟨g4,189,(zer (n:=64) 8).map v64⟩,⟨g3,191,[v64 lo,v64 hi]⟩,⟨g2,215,b.map v8⟩,⟨g1,189,(part 8 k (fun i=>nth h i^^^(nth Z i^^^nth Z (i+8))) (nth h)).map v64⟩]) (fun i _=>8-(intOf i).toNat)
               case atStart=>exact⟨0,by omega,rfl,hm⟩
               case round =>
                 obtain⟨k,hk,rfl,hm⟩:=hrel
                 by_cases hlt:k<8
                 · have e1:nth (part 8 k (fun i=>nth h i^^^(nth Z i^^^nth Z (i+8))) (nth h)) k=nth h k:=nth_part_ge hlt (Nat.le_refl _)
                   have hd:decide ((k:Int)<8)=true:=by simp;omega
                   have b1:(k:Int)<8:=by omega
                   have b2:(k:Int)<16:=by omega
                   have b3:(k:Int)+8<16:=by omega
                   have b4:0≤(k:Int)+8:=by omega
                   have b5:((k:Int)+8).toNat=k+8:=by omega
                   go_wp2_with fail
                   refine rgE 13 107 ?_
                   simp only [zTa]
                   repeat (first
                       | (apply walk_is rfl rfl rfl
                          · (intro wx hwx;first|((with_reducible show qGl);exact zJ (hm.ext hwx))|(go_simp;(try go_bits);first|exact gives_same|exact gives_skip))
                          · (simp only [zPu];rfl))
                       | (apply walk_not rfl rfl rfl
                          · (simp only [zPu];rfl)))
                   intro wz hwz
                   simp only [zZi]
                   repeat (first|rw [fin_is]|(rw [fin_cons];intro _ _))
                   rw [fin_nil]
                   try (replace hm:=hm.ext hwz)
                   simp only [zPu]
                   go_wp2_with (first|((with_reducible show qSt);refine zD hm ?_;clear hm;intro w hm))
                   go_roundw
                   case rel=>
                     rw [part_set' hlt rfl]at hm
                     exact⟨k+1,by omega,by go_num,hm⟩
                   case measure=>simp [intOf]<;>omega
                 · obtain rfl:k=8:=by omega
                   rw [part_all,←EC.out]at hm
                   go_wp2_with (first|((with_reducible show qLd);refine zB hm ?_)|((with_reducible show qSt);refine zE hm ?_;clear hm;intro w hm))
                   refine ret_own hm rfl rfl (by infer_instance) (by repeat (first|exact Has.hd|assumption|apply Has.tl)) (by first|rfl|omega|(simp only [zeros_length,zer_length,tab_length,part_length,setN_length,List.length_map,List.length_cons,List.length_nil,List.length_append,List.length_take,List.length_drop,List.length_replicate,blk_length,putL_length]<;>omega)) rfl ⟨rfl,hm.x⟩
end Go.Proofs.YtneacgpmjlocjaaGreatDoor
namespace Go.Proofs.YtneacgpmjlocjaaGreatDoor
open Go Go.RowKit
set_option maxRecDepth 100000
attribute [go_sem] putL_length
theorem rtO {P:Program}{w0 w:World}{L:List Blk}{T t:TypeId}{g:Nat}{cs:List Value}{a:Act}{fn:Func}{R:Ending→World→Prop}{p:Tmp}{n:Nat}(hm:Own w0 w L)(h:fn.results= #[.cell p T])(hp:a.tmps.getD p undef= .pointer (some ⟨g,0,none⟩))(hR:R (.returned (.agg cs.toArray)) w)(hT:Many P T n:=by infer_instance)(hh:Has L ⟨g,t,cs⟩:=by repeat (first|exact Has.hd|assumption|apply Has.tl|apply Has.app))(hn:cs.length=n:=by first|rfl|omega|(simp only [zeros_length,zer_length,tab_length,part_length,setN_length,List.length_map,List.length_cons,List.length_nil,List.length_append,List.length_take,List.length_drop,List.length_replicate,blk_length,putL_length]<;>omega))(hf:a.defers=[]:=by rfl):bodyPost P fn R .ret a w:=ret_own hm h hp hT hh hn hf hR
theorem over_low(lo:List Byte)(h:lo.length=8):over (List.replicate 16 0) 0 (lo.take 16)=lo++List.replicate 8 0:=by
 rw [List.take_of_length_le (by omega)]
 simp [over,h]
theorem over_high(lo hi:List Byte)(h:lo.length=8)(h2:hi.length=8):over (lo++List.replicate 8 0) 8 (hi.take 8)=lo++hi:=by
 rw [List.take_of_length_le (by omega)]
 simp [over,h,h2,List.drop_append]
theorem bytes_any(lo hi:BitVec 64)(w:World):
   Gives Tryz.prog 186 #[WV lo hi] w (A8 (putL lo 8++putL hi 8)):=by
 unfold Gives
 obtain⟨W,hW⟩:∃W,W=((w.alloc (.cells #[v64 lo,v64 hi] 191)).alloc (.cells #[Value.int IntKind.u8 0,Value.int IntKind.u8 0,Value.int IntKind.u8 0,Value.int IntKind.u8 0,Value.int IntKind.u8 0,Value.int IntKind.u8 0,Value.int IntKind.u8 0,Value.int IntKind.u8 0,Value.int IntKind.u8 0,Value.int IntKind.u8 0,Value.int IntKind.u8 0,Value.int IntKind.u8 0,Value.int IntKind.u8 0,Value.int IntKind.u8 0,Value.int IntKind.u8 0,Value.int IntKind.u8 0] 132)).alloc (.cells #[Value.int IntKind.u8 0,Value.int IntKind.u8 0,Value.int IntKind.u8 0,Value.int IntKind.u8 0,Value.int IntKind.u8 0,Value.int IntKind.u8 0,Value.int IntKind.u8 0,Value.int IntKind.u8 0,Value.int IntKind.u8 0,Value.int IntKind.u8 0,Value.int IntKind.u8 0,Value.int IntKind.u8 0,Value.int IntKind.u8 0,Value.int IntKind.u8 0,Value.int IntKind.u8 0,Value.int IntKind.u8 0] 132):=⟨_,rfl⟩
 have hE:Ext w W:=by rw [hW];exact(((Ext.refl w).alloc _).alloc _).alloc _
 have hsz:W.heap.size=w.heap.size+3:=by rw [hW];simp
 have hA:Row W w.heap.size 191 [v64 lo,v64 hi]:=by rw [hW];exact row_alloc (row_alloc (row_new _ _ _) _) _
 have hR:Row W (w.heap.size+1) 132 ((List.replicate 16 (0:Byte)).map v8):=by rw [hW];exact row_alloc (heap_alloc2_new _ _ _) _
 have hO:Row W (w.heap.size+2) 132 ((List.replicate 16 (0:Byte)).map v8):=by
   rw [hW]
   have:=row_new ((w.alloc (.cells #[v64 lo,v64 hi] 191)).alloc (.cells #[Value.int IntKind.u8 0,Value.int IntKind.u8 0,Value.int IntKind.u8 0,Value.int IntKind.u8 0,Value.int IntKind.u8 0,Value.int IntKind.u8 0,Value.int IntKind.u8 0,Value.int IntKind.u8 0,Value.int IntKind.u8 0,Value.int IntKind.u8 0,Value.int IntKind.u8 0,Value.int IntKind.u8 0,Value.int IntKind.u8 0,Value.int IntKind.u8 0,Value.int IntKind.u8 0,Value.int IntKind.u8 0] 132)) 132 ((List.replicate 16 (0:Byte)).map v8)
   rwa [show((w.alloc (.cells #[v64 lo,v64 hi] 191)).alloc (.cells #[Value.int IntKind.u8 0,Value.int IntKind.u8 0,Value.int IntKind.u8 0,Value.int IntKind.u8 0,Value.int IntKind.u8 0,Value.int IntKind.u8 0,Value.int IntKind.u8 0,Value.int IntKind.u8 0,Value.int IntKind.u8 0,Value.int IntKind.u8 0,Value.int IntKind.u8 0,Value.int IntKind.u8 0,Value.int IntKind.u8 0,Value.int IntKind.u8 0,Value.int IntKind.u8 0,Value.int IntKind.u8 0] 132)).heap.size=w.heap.size+2 from by simp]at this
 have HW:=hid hW
 have Hsz:=hid hsz
 clear hW hsz
 have cA:=fun wx (hwx:Ext W wx)=>row_cell (row_ext hA hwx) 0
 have cB:=fun wx (hwx:Ext W wx)=>row_cell (row_ext hA hwx) 1
 simp only [List.getElem?_cons_zero,List.getElem?_cons_succ]at cA cB
 have hB:W.heap.size≤W.heap.size:=Nat.le_refl _
 go_enter Tryz.func186,Tryz.ntmps186
 go_wp2
 rw [←HW.out]
 refine region_new 8 (fun w'=>Ext W w') 19 (by kernel_rfl) (by kernel_rfl) rfl (fun _ _ h k=>h.trans k) (drew_ext _) ?_
 simp only [zTa]
 repeat (first
     | (apply walk_some (NewS (W.heap.size) 40 ((List.replicate 8 (0:Byte)).map v8)) 4 (NewS.stable _ _ _) rfl rfl rfl rfl
        · (intro wx hwx;go_simp;exact gives_new (cs:=(List.replicate 8 (0:Byte)).map v8) hwx.size))
     | (apply walk_some (NewS (W.heap.size) 40 ((List.replicate 8 (0:Byte)).map v8)) 5 (NewS.stable _ _ _) rfl rfl rfl rfl
        · (intro wx hwx;go_simp;exact gives_new (cs:=(List.replicate 8 (0:Byte)).map v8) hwx.size))
     | (apply walk_is rfl rfl rfl
        · (intro wx hwx;go_simp;(try go_bits);first|exact gives_same|exact gives_skip|exact gives_call (putlong_any _ wx))
        · (simp only [zPu];rfl))
     | (apply walk_not rfl rfl rfl
        · (simp only [zPu];rfl)))
 intro wz hwz
 simp only [zZi]
 repeat rw [fin_is]
 rw [fin_cons];intro x4 hx4
 repeat rw [fin_is]
 rw [fin_cons];intro x5 hx5
 repeat rw [fin_is]
 rw [fin_nil];intro hap
 simp only [zPu]at hap⊢
 obtain⟨g4,rfl,hg4,hr4⟩:=hx4
 obtain⟨g5,rfl,hg5,hr5⟩:=hx5
 have hne:=apart_of hap (d:=4) (e:=5) (by decide) (by decide) (by decide) rfl rfl
 clear hap
 have hs3:=Hsz.out
 go_wp2_with (with_reducible show wpList _ _ _ _ _ _;first|(refine wpl_store_row (cs:=(putL lo 8).map v8) rfl rfl rfl rfl hr4 (by simp [putL_length]) (by simp only [List.length_map,putL_length];kernel_rfl) (one_v8 _) ?_)|(refine wpl_store_row (cs:=(putL hi 8).map v8) rfl rfl rfl rfl (row_setRow_other hr5 _ (Ne.symm hne)) (by simp [putL_length]) (by simp only [List.length_map,putL_length];kernel_rfl) (one_v8 _) ?_))
 have h4:=row_setRow_other (row_setRow hr4 ((putL lo 8).map v8)) ((putL hi 8).map v8).toArray hne
 have h5:=row_setRow (row_setRow_other hr5 ((putL lo 8).map v8).toArray (Ne.symm hne)) ((putL hi 8).map v8)
 have hO1:=row_setRow_other (row_setRow_other (row_ext hO hwz) ((putL lo 8).map v8).toArray (show w.heap.size+2≠g4 by omega)) ((putL hi 8).map v8).toArray (show w.heap.size+2≠g5 by omega)
 have hR1:=row_setRow_other (row_setRow_other (row_ext hR hwz) ((putL lo 8).map v8).toArray (show w.heap.size+1≠g4 by omega)) ((putL hi 8).map v8).toArray (show w.heap.size+1≠g5 by omega)
 have hE1:=ext_setRow (ext_setRow (hE.trans hwz) g4 ((putL lo 8).map v8).toArray (by omega)) g5 ((putL hi 8).map v8).toArray (by omega)
 generalize (wz.setRow g4 ((putL lo 8).map v8).toArray).setRow g5 ((putL hi 8).map v8).toArray=W1 at*
 clear hr4 hr5 hR hO hA cA cB hs3
 refine rgE 2 19 ?_
 simp only [zTa]
 repeat (first
     | (apply walk_is rfl rfl rfl
        · (intro wx hwx;go_simp;(try go_bits);first|exact gives_same|exact gives_skip)
        · (simp only [zPu];rfl))
     | (apply walk_not rfl rfl rfl
        · (simp only [zPu];rfl)))
 intro wz hwz
 simp only [zZi]
 repeat (first|rw [fin_is]|(rw [fin_cons];intro _ _))
 rw [fin_nil]
 try (replace hm:=hm.ext hwz)
 simp only [zPu]
 refine wpl_copy (over_low (putL lo 8) (putL_length lo 8)) rfl rfl rfl rfl (putL_length lo 8).symm rfl (by kernel_rfl) (row_ext hO1 hwz) (by simp) (RdB.of_row (row_ext h4 hwz)) ?_
 have hO2:=row_setRow (row_ext hO1 hwz) ((putL lo 8++List.replicate 8 0).map v8)
 have hR2:=row_setRow_other (row_ext hR1 hwz) ((putL lo 8++List.replicate 8 0).map v8).toArray (show w.heap.size+1≠w.heap.size+2 by omega)
 have hs3:=Hsz.out
 have h52:=row_setRow_other (row_ext h5 hwz) ((putL lo 8++List.replicate 8 0).map v8).toArray (show g5≠w.heap.size+2 by omega)
 have hE2:=ext_setRow (hE1.trans hwz) (w.heap.size+2) ((putL lo 8++List.replicate 8 0).map v8).toArray (by omega)
 generalize wz.setRow (w.heap.size+2) ((putL lo 8++List.replicate 8 0).map v8).toArray=W2 at*
 clear h4 h5 hO1 hR1 hE1 hs3
 go_wp2
 refine rgE 2 19 ?_
 simp only [zTa]
 repeat (first
     | (apply walk_is rfl rfl rfl
        · (intro wx hwx;go_simp;(try go_bits);first|exact gives_same|exact gives_skip)
        · (simp only [zPu];rfl))
     | (apply walk_not rfl rfl rfl
        · (simp only [zPu];rfl)))
 intro wz hwz
 simp only [zZi]
 repeat (first|rw [fin_is]|(rw [fin_cons];intro _ _))
 rw [fin_nil]
 try (replace hm:=hm.ext hwz)
 simp only [zPu]
 refine wpl_copy (over_high (putL lo 8) (putL hi 8) (putL_length lo 8) (putL_length hi 8)) rfl rfl rfl rfl (putL_length hi 8).symm rfl (by kernel_rfl) (row_ext hO2 hwz) (by simp [putL_length]) (RdB.of_row (row_ext h52 hwz)) ?_
 have hO3:=row_setRow (row_ext hO2 hwz) ((putL lo 8++putL hi 8).map v8)
 have hR3:=row_setRow_other (row_ext hR2 hwz) ((putL lo 8++putL hi 8).map v8).toArray (show w.heap.size+1≠w.heap.size+2 by omega)
 have hE3:=ext_setRow (hE2.trans hwz) (w.heap.size+2) ((putL lo 8++putL hi 8).map v8).toArray (by omega)
 have hl16:(putL lo 8++putL hi 8).length=16:=by simp [putL_length]
 have Hl:=hid hl16
 clear hl16
 generalize hrr:putL lo 8++putL hi 8=r at*
 have Hrr:=hid hrr
 clear hrr
 generalize wz.setRow (w.heap.size+2) (r.map v8).toArray=W3 at*
 go_wp2_with (with_reducible show wpList _ _ _ _ _ _;first|(refine wpl_load_row rfl rfl rfl hO3 rfl rfl (by simp only [List.length_map,Hl.out];kernel_rfl) ?_)|(refine wpl_store_row (cs:=r.map v8) rfl rfl rfl rfl hR3 (by simp [Hl.out]) (by simp only [List.length_map,Hl.out];kernel_rfl) (one_v8 _) ?_))
 refine ret_row rfl rfl (row_setRow hR3 _) rfl rfl (by simp only [List.length_map,Hl.out];kernel_rfl) rfl ⟨by rw [Hrr.out], ?_⟩
 exact ext_setRow hE3 _ _ (by omega)
/-! ### The reference's bytes of a number -/
@[local go_sem] theorem conv_64_8' (x : BitVec 64) (w : World) : (convert 25 5 (v64 x)).run Tryz.prog w = .ok (v8 (x.setWidth 8)) w := conv64_8 x _ _ _ w rfl rfl
theorem putlong_any'(n:BitVec 64)(w:World):Gives Tryz.prog 11 #[v64 n] w (A8 (putL n 8)):=by
 have:=putlong_any n w;rwa [BitVec.setWidth_eq]at this
def carryB(x y c:BitVec 64):BitVec 64:=BitVec.ofNat 64 ((x.toNat+y.toNat+c.toNat)/2^64)
def borrowB(x y c:BitVec 64):BitVec 64:=if x.toNat<y.toNat+c.toNat then 1 else 0
theorem carry_le(x y c:BitVec 64)(h:c.toNat≤1):(carryB x y c).toNat≤1:=by
 have:=x.isLt;have:=y.isLt
 simp only [carryB,BitVec.toNat_ofNat];omega
theorem borrow_le(x y c:BitVec 64):(borrowB x y c).toNat≤1:=by
 unfold borrowB;split<;>simp
theorem add64_run(x y c:BitVec 64)(hc:c.toNat≤1)(w:World):(callFunc 145 #[v64 x,v64 y,v64 c]).run Tryz.prog w= .ok (.value (.tuple #[v64 (x+y+c),v64 (carryB x y c)])) w:=by
 have h:=run_callFunc_extern (P:=Tryz.prog) (f:=145) (fn:=Tryz.f145) (e:=add64Entry) (by kernel_rfl) (by kernel_rfl) (by kernel_rfl) (by kernel_rfl) (by rfl) #[v64 x,v64 y,v64 c] w
 rw [h]
 unfold v64
 have hx:=x.isLt;have hy:=y.isLt
 have e1:((x.toNat:Int)+y.toNat+c.toNat)%18446744073709551616=((x+y+c).toNat:Int):=by simp only [BitVec.toNat_add];omega
 have e2:((x.toNat:Int)+y.toNat+c.toNat)/18446744073709551616=((carryB x y c).toNat:Int):=by
   simp only [carryB,BitVec.toNat_ofNat]
   rw [Nat.mod_eq_of_lt (by omega)];omega
 rw [run_add64 _ _ _ (by omega) (by omega) (by omega) (by omega),e1,e2]
 rfl
def sub64Entry:Array Value→Sem Value:=fun args=>do
 let (x, y, b) ← Extern.MathBitsCarry.three "Sub64" args
 pure (Extern.MathBitsCarry.pair ((x+Extern.MathBitsCarry.m64-y-b)%Extern.MathBitsCarry.m64) (if x<y+b then 1 else 0))
theorem sub64_run(x y c:BitVec 64)(hc:c.toNat≤1)(w:World):(callFunc 189 #[v64 x,v64 y,v64 c]).run Tryz.prog w= .ok (.value (.tuple #[v64 (x-y-c),v64 (borrowB x y c)])) w:=by
 have h:=run_callFunc_extern (P:=Tryz.prog) (f:=189) (fn:=Tryz.f189) (e:=sub64Entry) (by kernel_rfl) (by kernel_rfl) (by kernel_rfl) (by kernel_rfl) (by rfl) #[v64 x,v64 y,v64 c] w
 rw [h]
 unfold v64
 have hx:=x.isLt;have hy:=y.isLt
 have key:∀k:Nat,k≤1→(sub64Entry #[.int .u64 x.toNat, .int .u64 y.toNat, .int .u64 (k:Int)]).run Tryz.prog w=
     .ok (Extern.MathBitsCarry.pair ((x.toNat+Extern.MathBitsCarry.m64-y.toNat-k)%Extern.MathBitsCarry.m64) (if x.toNat<y.toNat+k then 1 else 0)) w:=by
   intro k hk
   have:k=0∨k=1:=by omega
   rcases this with rfl|rfl<;>rfl
 rw [key _ hc]
 simp only [Extern.MathBitsCarry.pair,Extern.MathBitsCarry.m64,Result.andThen_ok]
 have e1:(x.toNat+2^64-y.toNat-c.toNat)%2^64=(x-y-c).toNat:=by simp only [BitVec.toNat_sub];omega
 have e2:(if x.toNat<y.toNat+c.toNat then 1 else 0)=(borrowB x y c).toNat:=by unfold borrowB;split<;>rfl
 rw [e1,e2]
 rfl
theorem v64_0:Value.int .u64 0=v64 0#64:=rfl
@[local go_sem] theorem add64_run0 (x y : BitVec 64) (w : World) : (callFunc 145 #[v64 x, v64 y, .int .u64 0]).run Tryz.prog w = .ok (.value (.tuple #[v64 (x + y), v64 (carryB x y 0#64)])) w := by
 have:=add64_run x y 0 (by decide) w;simpa [v64_0]using this
@[local go_sem] theorem add64_run1 (x y a b : BitVec 64) (w : World) : (callFunc 145 #[v64 x, v64 y, v64 (carryB a b 0#64)]).run Tryz.prog w = .ok (.value (.tuple #[v64 (x + y + carryB a b 0#64), v64 (carryB x y (carryB a b 0#64))])) w :=
 add64_run x y _ (carry_le a b 0 (by decide)) w
@[local go_sem] theorem sub64_run0 (x y : BitVec 64) (w : World) : (callFunc 189 #[v64 x, v64 y, .int .u64 0]).run Tryz.prog w = .ok (.value (.tuple #[v64 (x - y), v64 (borrowB x y 0#64)])) w := by
 have:=sub64_run x y 0 (by decide) w;simpa [v64_0]using this
@[local go_sem] theorem sub64_run1 (x y a b : BitVec 64) (w : World) : (callFunc 189 #[v64 x, v64 y, v64 (borrowB a b 0#64)]).run Tryz.prog w = .ok (.value (.tuple #[v64 (x - y - borrowB a b 0#64), v64 (borrowB x y (borrowB a b 0#64))])) w :=
 sub64_run x y _ (borrow_le a b 0) w
@[local go_sem] theorem build_wide' (a b : BitVec 64) (w : World) : (Instr.build 191 #[(0, v64 a), (1, v64 b)]).run Tryz.prog w = .ok (WV a b) w := by kernel_rfl
theorem oplus_any(a b c d:BitVec 64)(w0:World):
   Gives Tryz.prog 132 #[WV a b,WV c d] w0 (WV (a+c) (b+d+carryB a c 0#64)):=by
 unfold Gives
 have hm:=Own.start w0
 go_enter Tryz.func132,Tryz.ntmps132
 go_wp2_with (first|((with_reducible show qLd);refine zC hm ?_)|((with_reducible show qSt);refine zE hm ?_;clear hm;intro w hm)|((first|((with_reducible show qAl);refine zG hm ?_)|((with_reducible show qBx);refine zH hm ?_));clear hm;intro gx_;intro w hm))
 refine rtO hm rfl rfl ⟨rfl,hm.x⟩
theorem ominus_any(a b c d:BitVec 64)(w0:World):
   Gives Tryz.prog 182 #[WV a b,WV c d] w0 (WV (a-c) (b-d-borrowB a c 0#64)):=by
 unfold Gives
 have hm:=Own.start w0
 go_enter Tryz.func182,Tryz.ntmps182
 go_wp2_with (first|((with_reducible show qLd);refine zC hm ?_)|((with_reducible show qSt);refine zE hm ?_;clear hm;intro w hm)|((first|((with_reducible show qAl);refine zG hm ?_)|((with_reducible show qBx);refine zH hm ?_));clear hm;intro gx_;intro w hm))
 refine rtO hm rfl rfl ⟨rfl,hm.x⟩
def carN(a b:List Byte):Nat→Nat
 |0=>0
 |k+1=>((nth a k).toNat+(nth b k).toNat+carN a b k)/256
def plusB(a b:List Byte)(k:Nat):Byte:=BitVec.ofNat 8 ((nth a k).toNat+(nth b k).toNat+carN a b k)
def lessN(a b:List Byte):Nat→Nat
 |0=>0
 |k+1=>1-(256+(nth a k).toNat-(nth b k).toNat-lessN a b k)/256
def minusB(a b:List Byte)(k:Nat):Byte:=BitVec.ofNat 8 (256+(nth a k).toNat-(nth b k).toNat-lessN a b k)
def padN(l:List Byte)(j:Nat):List Byte:=l++List.replicate j 0
theorem room_is(n:Nat)(s:Int)(hs:0<s):((n+roomN n s:Nat):Int)%s=0:=by
 obtain⟨k,rfl⟩:=Int.eq_ofNat_of_zero_le (show 0≤s by omega)
 have hk:0<k:=by omega
 unfold roomN
 rw [if_neg (by omega),Int.toNat_natCast,←Int.natCast_emod]
 have hlt:n%k<k:=Nat.mod_lt _ hk
 have:(n+(k-n%k)%k)%k=0:=by
   by_cases h:n%k=0
   · rw [h,Nat.sub_zero,Nat.mod_self,Nat.add_zero,h]
   · rw [Nat.mod_eq_of_lt (show k-n%k<k by omega)]
     have e:n+(k-n%k)=k*(n/k)+k:=by have:=Nat.div_add_mod n k;omega
     rw [e,Nat.mul_add_mod,Nat.mod_self]
 rw [this];rfl
abbrev RowsV(a b:List Byte)(p q:Option Addr)(c d:Nat)(m:Byte)(s:Int):Value:= .agg #[.slice p a.length c, .slice q b.length d,v8 m, .int .i64 s]
end Go.Proofs.YtneacgpmjlocjaaGreatDoor
