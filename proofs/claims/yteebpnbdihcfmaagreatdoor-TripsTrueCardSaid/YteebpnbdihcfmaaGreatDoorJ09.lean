/- code; The library's sort of numbers, at this program; loops -/
import Derived.Test.YteebpnbdihcfmaaGreatDoorJ08
import Derived.Test.YteebpnbdihcfmaaGreatDoorJ02
import Derived.Shelf.Sort.Plain
import Derived.Sort.OwnSortedInts
import Derived.Shelf.Small.Bits
import Derived.Test.YteebpnbdihcfmaaGreatDoorJ01
set_option linter.unusedVariables false
set_option linter.unusedSimpArgs false
set_option maxRecDepth 100000
set_option maxHeartbeats 20000000
namespace Go.Proofs.YteebpnbdihcfmaaGreatDoor
open Go.RowKit
theorem writes_any (x:PIns) (w:World) (hr:RowsAt w) :
 Calls Tryz.prog 94 #[InsVal x] w fun e w'=>e=.returned (.int .i64 (writesP x))/\Below w.heap.size w w':=by
 obtain⟨op,a,b,c,n⟩:=x;unfold InsVal;dsimp only;have hz:0<w.heap.size:=hr.1;by_cases hk:knownB op=true
 ·have hk':=hk;unfold knownB at hk';obtain⟨k,rfl⟩:=Int.eq_ofNat_of_zero_le (show 0<=op by grind);have hlt:k<20:=by grind
  obtain⟨_,_,_,_,_,_,q6⟩:=hr.2 k hlt;have HK:=qd hk;have hE:writesP ⟨(k:Int),a,b,c,n⟩=if(rowAt k).writes then a else -1:=by unfold writesP;dsimp only;rw[hk,Int.toNat_natCast];simp
  clear hk';rw[hE];generalize (rowAt k).writes=wr at *;cases wr
  ·go_enter Tryz.func94,Tryz.ntmps94;go_wp2_with (go_at_call 82;refine(known_any _ _).mono ?_;rintro e w1 ⟨rfl,rfl⟩)
   go_ret;go_light;exact⟨rfl,bel⟩
  ·go_enter Tryz.func94,Tryz.ntmps94;go_wp2_with (go_at_call 82;refine(known_any _ _).mono ?_;rintro e w1 ⟨rfl,rfl⟩)
   go_ret;go_light;exact⟨rfl,bel⟩
 ·have hk0:knownB op=false:=by simpa using hk
  clear hk;have hE:writesP ⟨op,a,b,c,n⟩ = -1:=by unfold writesP;dsimp only;rw[hk0];simp
  rw[hE];go_enter Tryz.func94,Tryz.ntmps94;go_wp2_with (go_at_call 82;refine(known_any _ _).mono ?_;rintro e w1 ⟨rfl,rfl⟩)
  go_ret;go_light;exact⟨rfl,bel⟩
theorem find_at {l:List Int}{p:Int->Bool}{j:Nat}(hj:j<l.length) (h:∀ i,i<j->p (l.getD i 0)=false) (hp:p (l.getD j 0)=true):l.find? p=some (l.getD j 0):=by
 rw[List.find?_eq_some_iff_getElem];have e:∀ i (hi:i<l.length),l.getD i 0=l[i]:=fun i hi=>by rw[List.getD_eq_getElem?_getD,List.getElem?_eq_getElem hi];rfl
 refine⟨hp,j,hj,(e j hj).symm,fun k hk=>?_⟩;have:=h k hk;rw[e k (by omega)]at this;simp[this]
theorem find_no {l:List Int}{p:Int->Bool}(h:∀ i,i<l.length->p (l.getD i 0)=false):l.find? p=none:=by
 rw[List.find?_eq_none];intro x hx;obtain⟨i,hi,rfl⟩:=List.getElem_of_mem hx;have:=h i hi;rw[List.getD_eq_getElem?_getD,List.getElem?_eq_getElem hi]at this;simpa using this
theorem own4 {w:World}{k:Nat}{a b c d:Value}(h:Own w k [a,b,c,d]):k<w.heap.size/\w.cell? ⟨k,0,none⟩=some a/\w.cell? ⟨k,1,none⟩=some b/\w.cell? ⟨k,2,none⟩=some c/\w.cell? ⟨k,3,none⟩=some d/\w.frozen? ⟨k,0,none⟩=false/\w.frozen? ⟨k,1,none⟩=false/\w.frozen? ⟨k,2,none⟩=false/\w.frozen? ⟨k,3,none⟩=false :=
 ⟨h.1,h.2.1 0 _ rfl,h.2.1 1 _ rfl,h.2.1 2 _ rfl,h.2.1 3 _ rfl,h.2.2 0,h.2.2 1,h.2.2 2,h.2.2 3⟩
def takeB (l:List Int) (j:Nat):Int->Bool:=fun x=>decide (x∈l.take j)
theorem takeB_zero (l:List Int):setM (takeB l 0)=fun _=>none:=by funext i;simp[setM,takeB]
theorem takeB_succ {l:List Int}{j:Nat}(hj:j<l.length):addB (takeB l j) (l.getD j 0)=takeB l (j+1):=by
 have h:l.take (j+1)=l.take j++[l.getD j 0]:=by rw[List.take_add_one,List.getD_eq_getElem?_getD,List.getElem?_eq_getElem hj];rfl
 funext x;unfold addB takeB;rw[h];simp[Bool.or_comm]
theorem takeB_full (l:List Int) (x:Int):takeB l l.length x=l.contains x:=by
 unfold takeB;rw[List.take_length];simp
def badBack (f:PFunc) (A:Int) (u:Int):Bool:=decide ((codeAt f u).op≠18)||decide ((codeAt f u).a≠A)
def badDrive (f:PFunc) (A B:Int) (bk:List Int) (u:Int):Bool:=decide (0<=writesP (codeAt f u))&&((decide (writesP (codeAt f u)=A) && !bk.contains u)||decide (writesP (codeAt f u)=B))
theorem counts_eq (f:PFunc) (l:PLoop):countsP f l=if (codeAt f l.head).op≠17 then ((71:Int),(l.head:Int))else match l.backs.find? (badBack f (codeAt f l.head).a)with
 | some u=>(72,u)
 | none=>match l.members.find? (badDrive f (codeAt f l.head).a (codeAt f l.head).b l.backs)with
  | some u=>(73,u)
  | none=>if l.members.any (fun u=>decide (u=(codeAt f l.head).n))then(74,(l.head:Int))else(0,0):=rfl
theorem counts_any (B:Nat) (hh:HF) (f:PFunc) (l:PLoop) (ma ba:Option Addr) (mc bc:Nat) (w:World) (hB:B<=w.heap.size) (hf:FuncOk B w hh f) (hr:RowsAt w)
 (hm:NumsAt B w ma l.members.length l.members) (hb:NumsAt B w ba l.backs.length l.backs) (hh1:l.head<f.code.length) (hm1:∀ x∈l.members,∃ k:Nat,x=k/\k<f.code.length) (hb1:∀ x∈l.backs,∃ k:Nat,x=k/\k<f.code.length) (hn:f.code.length<=1024) :
 Calls Tryz.prog 53 #[FuncVal hh f,.agg #[.int .i64 l.head,.int .i64 l.parent,.slice ma l.members.length mc,.slice ba l.backs.length bc]] w fun e w'=>e=.returned (.tuple #[.int .i64 (countsP f l).1,.int .i64 (countsP f l).2])/\Below w.heap.size w w':=by
 have hmm:=@run_makeMap Tryz.prog;obtain⟨pa,pl,pc,ca,cl,cc⟩:=hh;obtain⟨h1,h2,⟨hcl,hcm,cb,co,hcb,hcells⟩,h4,h5⟩:=hf;dsimp only at *;subst hcl;obtain⟨rfl,hcB⟩:=hcb oz;clear h2 h1 h4 h5;rw[counts_eq];unfold FuncVal;dsimp only;have HC:=qd hcells;clear hcells;have HR:=qd hr;have HM1:=qd hm1;have HB1:=qd hb1;have HM:=qd hm;have HBk:=qd hb;clear hr hm1 hb1 hm hb;have hx0:=HC.out l.head hh1;have hca:codeAt f (l.head:Int)=f.code.getD l.head default:=by unfold codeAt;rw[Int.toNat_natCast]
 rw[hca];generalize f.code.getD l.head default=x at *;obtain⟨op,a,b,c,n⟩:=x;obtain⟨⟨g0,g1,g2,g3,g4⟩,⟨i0,i1,i2,i3,i4⟩⟩:=hx0;dsimp only at *;obtain⟨head,parent,members,backs⟩:=l;dsimp only at *;have hhd:(head:Int)<(f.code.length:Int):=oz
 have hcbl:cb<w.heap.size:=oz
 by_cases hop:op=17
 ·subst hop;rw [if_neg (by simp)];obtain ⟨RES,hRES⟩:∃ r:Int×Int,r=(match backs.find? (badBack f a)with
   | some u=>(72,u)
   | none=>match members.find? (badDrive f a b backs)with
    | some u=>(73,u)
    | none=>if members.any (fun u=>decide (u=n))then(74,(head:Int))else(0,0)):=⟨_,rfl⟩
  rw[<-hRES];have HRES:=qd hRES;clear hRES;go_enter Tryz.func53,Tryz.ntmps53;go_upto_region 5 with(fail)
  generalize hW0:World.alloc _ _=W0;have hb0:Below w.heap.size w W0:=by rw[<-hW0];exact bel
  have hz0:W0.heap.size=w.heap.size+4:=by rw[<-hW0];simp
  have OF:Own W0 w.heap.size [.string f.name,.slice pa pl pc,.int .i64 f.regs,.int .i64 f.words,.slice (some ⟨cb,co,none⟩) f.code.length cc]:=by rw[<-hW0];exact(((Own.new _ _ _).alloc _).alloc _).alloc _
  have OL:Own W0 (w.heap.size+1) [.int .i64 head,.int .i64 parent,.slice ma members.length mc,.slice ba backs.length bc]:=by rw[<-hW0];exact((Own.new' _ _ _ _ si).alloc _).alloc _
  have OC:Own W0 (w.heap.size+1+1) [.int .i64 17,.int .i64 a,.int .i64 b,.int .i64 c,.int .i64 n]:=by rw[<-hW0];exact(Own.new' _ _ _ _ si).alloc _
  have OM:MapAt W0 (w.heap.size+1+1+1) 0 (setM (takeB backs 0)):=by
   rw[<-hW0,takeB_zero];have h:=MapAt.made (((w.alloc (.cells #[.string f.name,.slice pa pl pc,.int .i64 f.regs,.int .i64 f.words,.slice (some ⟨cb,co,none⟩) f.code.length cc] 42)).alloc (.cells #[.int .i64 head,.int .i64 parent,.slice ma members.length mc,.slice ba backs.length bc] 52)).alloc (.cells #[.int .i64 17,.int .i64 a,.int .i64 b,.int .i64 c,.int .i64 n] 55));simpa using h
  have l4:=own4 OL;clear hW0 hmm g0 g1 g2 g3 g4;obtain⟨-,hbm,bb,bo,hbb,hbc⟩:=HBk.out;have hbm':backs.length<=9223372036854775807:=hbm;have HBC:=qd hbc;have HBB:=qd hbb;clear hbc hbb;go_wp2;go_loopw [31] (fun i wr=>∃ j q:Nat,j<=backs.length/\q<=j/\i=.int .i64 j/\Hid (∀ i,i<j->badBack f a (backs.getD i 0)=false)/\Below w.heap.size w wr/\w.heap.size+4<=wr.heap.size/\Hid (Own wr w.heap.size [.string f.name,.slice pa pl pc,.int .i64 f.regs,.int .i64 f.words,.slice (some ⟨cb,co,none⟩) f.code.length cc])/\Hid (Own wr (w.heap.size+1) [.int .i64 head,.int .i64 parent,.slice ma members.length mc,.slice ba backs.length bc])/\Hid (Own wr (w.heap.size+1+1) [.int .i64 17,.int .i64 a,.int .i64 b,.int .i64 c,.int .i64 n])/\Hid (MapAt wr (w.heap.size+1+1+1) q (setM (takeB backs j)))) (fun i _=>backs.length-(intOf i).toNat)
  case atStart=>exact⟨0,0,Nat.zero_le _,Nat.le_refl _,rfl,qd (fun i hi=>by omega),hb0,oz,qd OF,qd OL,qd OC,qd OM⟩
  case round =>
   clear OF OL OC OM l4 hb0 hz0;obtain⟨j,q,hj,hq,rfl,hno,hbr,hzr,OF,OL,OC,OM⟩:=hrel;have f5:=own5 OF.out;have l4:=own4 OL.out;have x5:=own5 OC.out;by_cases hjt:j<backs.length
   ·have d2:(j:Int)<(backs.length:Int):=oz
    have hwj:IntKind.i64.wrap ((j:Int)+1)=(j:Int)+1:=IntWalk.i64_in _ oz;obtain⟨rfl,hbB⟩:=HBB.out oz;have c0:=(hbr.cell (p:=⟨bb,bo+j,none⟩) (by show bb<_;omega)).trans (HBC.out j hjt).1;obtain⟨k,hku,hkl⟩:=HB1.out (backs.getD j 0) (List.mem_of_getElem? (i:=j) (by rw[List.getD_eq_getElem?_getD,List.getElem?_eq_getElem hjt];rfl));have HU:=qd hku;rw[hku]at c0;have hk1:(k:Int)<(f.code.length:Int):=oz
    have hcaU:codeAt f (k:Int)=f.code.getD k default:=by unfold codeAt;rw[Int.toNat_natCast]
    obtain⟨⟨y0,y1,y2,y3,y4⟩,iy⟩:=HC.out k hkl;have HY:=qd (show badBack f a (k:Int)=(decide ((f.code.getD k default).op≠18)||decide ((f.code.getD k default).a≠a)) by unfold badBack;rw[hcaU]);have HF:=qd (fun h=>find_at (p:=badBack f a) hjt hno.out h);clear hku hcaU iy;generalize f.code.getD k default=y at *;obtain⟨yo,ya,yb,yc,yn⟩:=y;dsimp only at y0 y1 y2 y3 y4 HY;have yy0:=(hbr.cell (p:=⟨cb,co+k*5,none⟩) (by show cb<_;omega)).trans y0;have yy1:=(hbr.cell (p:=⟨cb,co+k*5+1,none⟩) (by show cb<_;omega)).trans y1;clear y0 y1 y2 y3 y4;by_cases e1:yo=18
    ·subst e1;by_cases e2:ya=a
     ·subst e2;have hgood:badBack f ya (k:Int)=false:=by rw[HY.out];simp
      clear HF;have q1:((18:Int)!=18)=false:=si
      have q2:(ya != ya)=false:=si
      go_upto_region 8 with(fail)
      refine wp_still 17 kr kr ?_;simp only[TD];repeat(refine WS_step (fun K hK=>?_);go_simp;refine hK _ ?_;clear hK K)
      refine WS_nil ?_;go_upto_region 10 with(fail)
      obtain⟨W2,hrun2,hM2,hc2⟩:=(OM.out.below ((Below.refl _ _).drew)).set Tryz.mapU (by unfold maxLen;omega) (inI_nat (show k<1024 by omega)) (.agg #[]);rw[setM_add,show addB (takeB backs j) (k:Int)=takeB backs (j+1) by rw[<-HU.out];exact takeB_succ hjt]at hM2;have hz2:=hc2.size;have hzd:wr.drew.heap.size=wr.heap.size:=rfl;have hb2:Below w.heap.size w W2:=(hbr.drew).trans (hc2.below _ hbr.size (fun k hk e=>by omega));go_wp2;refine⟨⟨j+1,q+1,oz,oz,si,qd (fun i hi=>?_),hb2,oz,qd (hc2.own OF.out.drew oz),qd (hc2.own OL.out.drew oz),qd (hc2.own OC.out.drew oz),qd hM2⟩,?_⟩
      ·by_cases e:i=j
       ·subst e;rw[HU.out];exact hgood
       ·exact hno.out i oz
      ·go_light;exact ml
     ·have q1:((18:Int)!=18)=false:=si
      have q2:(ya != a)=true:=by simpa using e2
      have q3:(ya==a)=false:=by simpa using e2
      have hbad:badBack f a (k:Int)=true:=by rw[HY.out];simp[e2]
      have HG:=qd (HF.out (by rw[HU.out];exact hbad));clear HF;go_upto_region 8 with(fail)
      refine wp_still 17 kr kr ?_;simp only[TD];repeat(refine WS_step (fun K hK=>?_);go_simp;refine hK _ ?_;clear hK K)
      refine WS_nil ?_;go_wp2;go_ret2;go_light;exact⟨ret_int2 (by rw[Prod.eta,HRES.out,HG.out];dsimp only;rw[HU.out]),bel⟩
    ·have q1:(yo != 18)=true:=by simpa using e1
     have q2:(yo==18)=false:=by simpa using e1
     have hbad:badBack f a (k:Int)=true:=by rw[HY.out];simp[e1]
     have HG:=qd (HF.out (by rw[HU.out];exact hbad));clear HF;go_upto_region 8 with(fail)
     refine wp_still 17 kr kr ?_;simp only[TD];repeat(refine WS_step (fun K hK=>?_);go_simp;refine hK _ ?_;clear hK K)
     refine WS_nil ?_;go_wp2;go_ret2;go_light;exact⟨ret_int2 (by rw[Prod.eta,HRES.out,HG.out];dsimp only;rw[HU.out]),bel⟩
   ·have hjj:j=backs.length:=oz
    subst hjj;have d2:¬(backs.length:Int)<(backs.length:Int):=oz
    have HG:=qd (find_no hno.out);go_upto_region 13 with(fail)
    obtain⟨W1,hW1⟩:∃ wo:World,wo=wr:=⟨_,rfl⟩
    rw[<-hW1]at hbr hzr OF OL OC OM f5 l4 x5 ⊢;clear hW1;obtain⟨-,hmm2,mb,mo,hmb,hmc⟩:=HM.out;have hmm':members.length<=9223372036854775807:=hmm2;have HMC:=qd hmc;have HMB:=qd hmb;have HRW:=qd (HR.out.same (Same.of' hbr) HR.out.1 hbr.size);clear hmc hmb HBB HBC hno;go_wp2;go_loopw [10,61] (fun o i wx=>∃ j:Nat,j<=members.length/\i=.int .i64 j/\o=.int .i64 (if(members.take j).any (fun u=>decide (u=n))then 74 else 0)/\Hid (∀ i,i<j->badDrive f a b backs (members.getD i 0)=false)/\Below W1.heap.size W1 wx) (fun o i _=>members.length-(intOf i).toNat)
    case atStart=>exact⟨0,Nat.zero_le _,rfl,si,qd (fun i hi=>by omega),Below.refl _ _⟩
    case round =>
     rename_i wq;obtain⟨j,hj,rfl,rfl,hno,hbx⟩:=hrel;have hzx:=hbx.size;have f5:=own5 (OF.out.below hbx);have x5:=own5 (OC.out.below hbx);have l4:=own4 (OL.out.below hbx);by_cases hjt:j<members.length
     ·have d3:(j:Int)<(members.length:Int):=oz
      have hwj:IntKind.i64.wrap ((j:Int)+1)=(j:Int)+1:=IntWalk.i64_in _ oz;obtain⟨rfl,hmB⟩:=HMB.out oz;have hbw:Below w.heap.size w wr:=hbr.trans (hbx.mono oz);have c0:=(hbw.cell (p:=⟨mb,mo+j,none⟩) (by show mb<_;omega)).trans (HMC.out j hjt).1;obtain⟨k,hku,hkl⟩:=HM1.out (members.getD j 0) (List.mem_of_getElem? (i:=j) (by rw[List.getD_eq_getElem?_getD,List.getElem?_eq_getElem hjt];rfl));have htk:members.take (j+1)=members.take j++[(k:Int)]:=by rw[<-hku,List.take_add_one,List.getD_eq_getElem?_getD,List.getElem?_eq_getElem hjt];rfl
      have HU:=qd hku;have HTK:=qd htk;rw[hku]at c0;have hk1:(k:Int)<(f.code.length:Int):=oz
      have hcaU:codeAt f (k:Int)=f.code.getD k default:=by unfold codeAt;rw[Int.toNat_natCast]
      obtain⟨⟨y0,y1,y2,y3,y4⟩,iy⟩:=HC.out k hkl;have HWr:=qd (fun w hr=>writes_any (f.code.getD k default) w hr);have HY:=qd (show badDrive f a b backs (k:Int)=(decide (0<=writesP (f.code.getD k default))&&((decide (writesP (f.code.getD k default)=a) && !backs.contains (k:Int))||decide (writesP (f.code.getD k default)=b))) by unfold badDrive;rw[hcaU]);have HF:=qd (fun h=>find_at (p:=badDrive f a b backs) hjt hno.out h);clear hku hcaU iy htk;have e0:=(hbw.cell (p:=⟨cb,co+k*5,none⟩) (by show cb<_;omega)).trans y0;have e1:=(hbw.cell (p:=⟨cb,co+k*5+1,none⟩) (by show cb<_;omega)).trans y1;have e2:=(hbw.cell (p:=⟨cb,co+k*5+2,none⟩) (by show cb<_;omega)).trans y2;have e3:=(hbw.cell (p:=⟨cb,co+k*5+3,none⟩) (by show cb<_;omega)).trans y3;have e4:=(hbw.cell (p:=⟨cb,co+k*5+4,none⟩) (by show cb<_;omega)).trans y4;clear y0 y1 y2 y3 y4;have HRX:=qd (HRW.out.same (Same.of' hbx) HRW.out.1 hbx.size);have hwp:writesP (f.code.getD k default)=writesP (f.code.getD k default):=rfl;unfold InsVal at HWr;generalize hz:writesP (f.code.getD k default)=z at *;generalize f.code.getD k default=y at *;obtain⟨yo,ya,yb,yc,yn⟩:=y;dsimp only at e0 e1 e2 e3 e4 HWr;clear hz hwp;go_upto_region 17 with(first | (go_at_call 94;refine(HWr.out _ HRX.out).mono ?_;rintro e w5 ⟨rfl,hb5⟩) | fail)
      clear HWr e0 e1 e2 e3 e4 c0 f5 l4;have hz5:=hb5.size;have hb15:Below W1.heap.size W1 w5:=hbx.trans (hb5.mono oz);have hlk:=(OM.out.below hb15).getOk Tryz.mapU zeroU (inI_nat (show k<1024 by omega));rw[(setM_get _ _).1,(setM_get _ _).2,takeB_full]at hlk;have x5':=own5 (OC.out.below hb15);clear x5;generalize backs.contains (k:Int)=isB at *;have hAny:(members.take j).any (fun u=>decide (u=n))=(members.take j).any (fun u=>decide (u=n)):=rfl;by_cases hbad:badDrive f a b backs (k:Int)=true
      ·have HG2:=qd (HF.out (by rw[HU.out];exact hbad));rw[HY.out]at hbad;have HE:=HRES.out;rw[HG.out]at HE;dsimp only at HE;rw[HG2.out,HU.out]at HE;dsimp only at HE;have HE2:=qd HE;clear HF HY hno hAny HE HG2;simp only[Bool.and_eq_true,Bool.or_eq_true,decide_eq_true_eq,Bool.not_eq_true']at hbad;obtain⟨hz0,hbad⟩:=hbad;have HBD:=qd hbad;clear hbad;have qz:¬z<0:=oz
       by_cases ea:z=a
       ·subst ea;have qa:(z==z)=true:=si
        by_cases eb:z=b
        ·subst eb;clear HBD;cases isB
         all_goals(
          go_wp2_with fail
          all_goals go_ret2
          all_goals go_light
          all_goals exact⟨ret_int2 (by rw[Prod.eta,HE2.out]),bel⟩)
        ·have qb:(z==b)=false:=by simpa using eb
         have hB:isB=false:=(HBD.out.resolve_right eb).2;subst hB;clear HBD;go_wp2_with fail
         all_goals go_ret2
         all_goals go_light
         all_goals exact⟨ret_int2 (by rw[Prod.eta,HE2.out]),bel⟩
       ·have qa:(z==a)=false:=by simpa using ea
        have hb:z=b:=HBD.out.resolve_left (fun h=>ea h.1);subst hb;have qb:(z==z)=true:=si
        clear HBD;cases isB
        all_goals(
         go_wp2_with fail
         all_goals go_ret2
         all_goals go_light
         all_goals exact⟨ret_int2 (by rw[Prod.eta,HE2.out]),bel⟩)
      ·have hbf:badDrive f a b backs (k:Int)=false:=by simpa using hbad
       have HBF:=qd hbf;rw[HY.out]at hbf;have HBD:=qd hbf;clear hbf hbad HF HY hAny;by_cases hz0:0<=z
       ·have hd:decide (0<=z)=true:=by simpa using hz0
        have hbd:=HBD.out;rw[hd]at hbd;simp only[Bool.true_and,Bool.or_eq_false_iff,Bool.and_eq_false_iff,decide_eq_false_iff_not,Bool.not_eq_false']at hbd;have eb:=hbd.2;have qb:(z==b)=false:=by simpa using eb
        have qz:¬z<0:=oz
        clear HBD;by_cases ea:z=a
        ·have hB:isB=true:=hbd.1.resolve_left (fun h=>h ea);subst ea;subst hB;have qa:(z==z)=true:=si
         clear hbd hd;go_upto_region 20 with(fail)
         by_cases e5:(k:Int)=n
         ·have q5:((k:Int)==n)=true:=by simpa using e5
          go_wp2;refine⟨⟨j+1,oz,si,?_,qd (fun i hi=>?_),hb15.alloc oz _⟩,?_⟩
          ·rw[HTK.out];simp[e5]
          ·by_cases e:i=j
           ·subst e;rw[HU.out];exact HBF.out
           ·exact hno.out i oz
          ·go_light;exact ml
         ·have q5:((k:Int)==n)=false:=by simpa using e5
          go_wp2;refine⟨⟨j+1,oz,si,?_,qd (fun i hi=>?_),hb15.alloc oz _⟩,?_⟩
          ·rw[HTK.out];simp[e5]
          ·by_cases e:i=j
           ·subst e;rw[HU.out];exact HBF.out
           ·exact hno.out i oz
          ·go_light;exact ml
        ·have qa:(z==a)=false:=by simpa using ea
         clear hbd hd;go_upto_region 20 with(fail)
         by_cases e5:(k:Int)=n
         ·have q5:((k:Int)==n)=true:=by simpa using e5
          go_wp2;refine⟨⟨j+1,oz,si,?_,qd (fun i hi=>?_),hb15.alloc oz _⟩,?_⟩
          ·rw[HTK.out];simp[e5]
          ·by_cases e:i=j
           ·subst e;rw[HU.out];exact HBF.out
           ·exact hno.out i oz
          ·go_light;exact ml
         ·have q5:((k:Int)==n)=false:=by simpa using e5
          go_wp2;refine⟨⟨j+1,oz,si,?_,qd (fun i hi=>?_),hb15.alloc oz _⟩,?_⟩
          ·rw[HTK.out];simp[e5]
          ·by_cases e:i=j
           ·subst e;rw[HU.out];exact HBF.out
           ·exact hno.out i oz
          ·go_light;exact ml
       ·have qz:z<0:=oz
        clear HBD;by_cases ea:z=a
        ·subst ea;have qa:(z==z)=true:=si
         by_cases eb:z=b
         ·subst eb;go_upto_region 20 with(fail)
          by_cases e5:(k:Int)=n
          ·have q5:((k:Int)==n)=true:=by simpa using e5
           go_wp2;refine⟨⟨j+1,oz,si,?_,qd (fun i hi=>?_),hb15.alloc oz _⟩,?_⟩
           ·rw[HTK.out];simp[e5]
           ·by_cases e:i=j
            ·subst e;rw[HU.out];exact HBF.out
            ·exact hno.out i oz
           ·go_light;exact ml
          ·have q5:((k:Int)==n)=false:=by simpa using e5
           go_wp2;refine⟨⟨j+1,oz,si,?_,qd (fun i hi=>?_),hb15.alloc oz _⟩,?_⟩
           ·rw[HTK.out];simp[e5]
           ·by_cases e:i=j
            ·subst e;rw[HU.out];exact HBF.out
            ·exact hno.out i oz
           ·go_light;exact ml
         ·have qb:(z==b)=false:=by simpa using eb
          go_upto_region 20 with(fail)
          by_cases e5:(k:Int)=n
          ·have q5:((k:Int)==n)=true:=by simpa using e5
           go_wp2;refine⟨⟨j+1,oz,si,?_,qd (fun i hi=>?_),hb15.alloc oz _⟩,?_⟩
           ·rw[HTK.out];simp[e5]
           ·by_cases e:i=j
            ·subst e;rw[HU.out];exact HBF.out
            ·exact hno.out i oz
           ·go_light;exact ml
          ·have q5:((k:Int)==n)=false:=by simpa using e5
           go_wp2;refine⟨⟨j+1,oz,si,?_,qd (fun i hi=>?_),hb15.alloc oz _⟩,?_⟩
           ·rw[HTK.out];simp[e5]
           ·by_cases e:i=j
            ·subst e;rw[HU.out];exact HBF.out
            ·exact hno.out i oz
           ·go_light;exact ml
        ·have qa:(z==a)=false:=by simpa using ea
         by_cases eb:z=b
         ·subst eb;have qb:(z==z)=true:=si
          go_upto_region 20 with(fail)
          by_cases e5:(k:Int)=n
          ·have q5:((k:Int)==n)=true:=by simpa using e5
           go_wp2;refine⟨⟨j+1,oz,si,?_,qd (fun i hi=>?_),hb15.alloc oz _⟩,?_⟩
           ·rw[HTK.out];simp[e5]
           ·by_cases e:i=j
            ·subst e;rw[HU.out];exact HBF.out
            ·exact hno.out i oz
           ·go_light;exact ml
          ·have q5:((k:Int)==n)=false:=by simpa using e5
           go_wp2;refine⟨⟨j+1,oz,si,?_,qd (fun i hi=>?_),hb15.alloc oz _⟩,?_⟩
           ·rw[HTK.out];simp[e5]
           ·by_cases e:i=j
            ·subst e;rw[HU.out];exact HBF.out
            ·exact hno.out i oz
           ·go_light;exact ml
         ·have qb:(z==b)=false:=by simpa using eb
          go_upto_region 20 with(fail)
          by_cases e5:(k:Int)=n
          ·have q5:((k:Int)==n)=true:=by simpa using e5
           go_wp2;refine⟨⟨j+1,oz,si,?_,qd (fun i hi=>?_),hb15.alloc oz _⟩,?_⟩
           ·rw[HTK.out];simp[e5]
           ·by_cases e:i=j
            ·subst e;rw[HU.out];exact HBF.out
            ·exact hno.out i oz
           ·go_light;exact ml
          ·have q5:((k:Int)==n)=false:=by simpa using e5
           go_wp2;refine⟨⟨j+1,oz,si,?_,qd (fun i hi=>?_),hb15.alloc oz _⟩,?_⟩
           ·rw[HTK.out];simp[e5]
           ·by_cases e:i=j
            ·subst e;rw[HU.out];exact HBF.out
            ·exact hno.out i oz
           ·go_light;exact ml
     ·have hjj:j=members.length:=oz
      subst hjj;have d3:¬(members.length:Int)<(members.length:Int):=oz
      have HG2:=qd (find_no hno.out);rw[List.take_length];have HE:=HRES.out;rw[HG.out]at HE;dsimp only at HE;rw[HG2.out]at HE;dsimp only at HE;have HE2:=qd HE;clear HE;generalize members.any (fun u=>decide (u=n))=bad at *;cases bad
      ·go_wp2;go_ret2;go_light;exact⟨ret_int2 (by rw[Prod.eta,HE2.out];rfl),bel⟩
      ·go_upto_region 24 with(fail)
       refine wp_still 4 kr kr ?_;simp only[TD];repeat(refine WS_step (fun K hK=>?_);go_simp;refine hK _ ?_;clear hK K)
       refine WS_nil ?_;go_wp2;go_ret2;go_light;exact⟨ret_int2 (by rw[Prod.eta,HE2.out];rfl),bel⟩
 ·have q1:(op != 17)=true:=by simpa using hop
  have q2:(op==17)=false:=by simpa using hop
  rw[if_pos hop];go_enter Tryz.func53,Tryz.ntmps53;go_upto_region 3 with(fail)
  refine wp_still 3 kr kr ?_;simp only[TD];repeat(refine WS_step (fun K hK=>?_);go_simp;refine hK _ ?_;clear hK K)
  refine WS_nil ?_;go_wp2;go_ret2;go_light;exact⟨rfl,bel⟩
end Go.Proofs.YteebpnbdihcfmaaGreatDoor
namespace Go.Proofs.YteebpnbdihcfmaaGreatDoor
open Go.RowKit
open Go.Shelf Go.Sort
def Tryz.lays191_ren:Go.Shelf.Ren:=⟨fun|191=>93|189=>116|125=>123|257=>122|128=>133|129=>134|294=>124|295=>125|296=>126|297=>127|298=>128|299=>129|216=>130|300=>131|301=>132|328=>135|329=>136|330=>137|331=>138|332=>139|215=>140|343=>141|n=>n,fun|28=>50|0=>0|3=>3|46=>172|51=>181|53=>34|4=>4|183=>175|182=>174|131=>108|5=>5|9=>9|218=>183|222=>187|228=>189|229=>190|n=>n,fun|n=>n⟩
theorem Tryz.lays191:Go.Proofs.Lays.n191 Tryz.prog Tryz.lays191_ren:={
 mixed:=kr
 f125:=Tryz.func123.trans (congrArg some kr)
 f128:=Tryz.func133.trans (congrArg some kr)
 f129:=Tryz.func134.trans (congrArg some kr)
 f189:=Tryz.func116.trans (congrArg some kr)
 f191:=Tryz.func93.trans (congrArg some kr)
 f215:=Tryz.func140.trans (congrArg some kr)
 f216:=Tryz.func130.trans (congrArg some kr)
 f257:=Tryz.func122.trans (congrArg some kr)
 f294:=Tryz.func124.trans (congrArg some kr)
 f295:=Tryz.func125.trans (congrArg some kr)
 f296:=Tryz.func126.trans (congrArg some kr)
 f297:=Tryz.func127.trans (congrArg some kr)
 f298:=Tryz.func128.trans (congrArg some kr)
 f299:=Tryz.func129.trans (congrArg some kr)
 f300:=Tryz.func131.trans (congrArg some kr)
 f301:=Tryz.func132.trans (congrArg some kr)
 f328:=Tryz.func135.trans (congrArg some kr)
 f329:=Tryz.func136.trans (congrArg some kr)
 f330:=Tryz.func137.trans (congrArg some kr)
 f331:=Tryz.func138.trans (congrArg some kr)
 f332:=Tryz.func139.trans (congrArg some kr)
 f343:=Tryz.func141.trans (congrArg some kr)
 t0:=Tryz.underlying0
 a0:=Tryz.isAgg0
 z0:=Tryz.sizeOf0
 v0:=Tryz.zeroValue0
 t3:=Tryz.underlying3
 a3:=Tryz.isAgg3
 z3:=Tryz.sizeOf3
 v3:=Tryz.zeroValue3
 t4:=Tryz.underlying4
 a4:=Tryz.isAgg4
 z4:=Tryz.sizeOf4
 v4:=Tryz.zeroValue4
 t5:=Tryz.underlying5
 a5:=Tryz.isAgg5
 z5:=Tryz.sizeOf5
 v5:=Tryz.zeroValue5
 t9:=Tryz.underlying9
 a9:=Tryz.isAgg9
 z9:=Tryz.sizeOf9
 v9:=Tryz.zeroValue9
 t28:=Tryz.underlying50
 a28:=Tryz.isAgg50
 z28:=Tryz.sizeOf50
 v28:=Tryz.zeroValue50
 t46:=Tryz.underlying172
 a46:=Tryz.isAgg172
 z46:=Tryz.sizeOf172
 v46:=Tryz.zeroValue172
 t51:=Tryz.underlying181
 a51:=Tryz.isAgg181
 z51:=Tryz.sizeOf181
 v51:=Tryz.zeroValue181
 t53:=Tryz.underlying34
 a53:=Tryz.isAgg34
 z53:=Tryz.sizeOf34
 v53:=Tryz.zeroValue34
 t131:=Tryz.underlying108
 a131:=Tryz.isAgg108
 z131:=Tryz.sizeOf108
 v131:=Tryz.zeroValue108
 t182:=Tryz.underlying174
 a182:=Tryz.isAgg174
 z182:=Tryz.sizeOf174
 v182:=Tryz.zeroValue174
 t183:=Tryz.underlying175
 a183:=Tryz.isAgg175
 z183:=Tryz.sizeOf175
 v183:=Tryz.zeroValue175
 t218:=Tryz.underlying183
 a218:=Tryz.isAgg183
 z218:=Tryz.sizeOf183
 v218:=Tryz.zeroValue183
 t222:=Tryz.underlying187
 a222:=Tryz.isAgg187
 z222:=Tryz.sizeOf187
 v222:=Tryz.zeroValue187
 t228:=Tryz.underlying189
 a228:=Tryz.isAgg189
 z228:=Tryz.sizeOf189
 v228:=Tryz.zeroValue189
 t229:=Tryz.underlying190
 a229:=Tryz.isAgg190
 z229:=Tryz.sizeOf190
 v229:=Tryz.zeroValue190 }
def Tryz.lays125_ren:Go.Shelf.Ren:=⟨fun|125=>123|128=>133|129=>134|n=>n,fun|46=>172|3=>3|51=>181|53=>34|4=>4|5=>5|9=>9|n=>n,fun|n=>n⟩
theorem Tryz.lays125:Go.Proofs.Lays.n125 Tryz.prog Tryz.lays125_ren:={
 mixed:=kr
 f125:=Tryz.func123.trans (congrArg some kr)
 f128:=Tryz.func133.trans (congrArg some kr)
 f129:=Tryz.func134.trans (congrArg some kr)
 t3:=Tryz.underlying3
 a3:=Tryz.isAgg3
 z3:=Tryz.sizeOf3
 v3:=Tryz.zeroValue3
 t4:=Tryz.underlying4
 a4:=Tryz.isAgg4
 z4:=Tryz.sizeOf4
 v4:=Tryz.zeroValue4
 t5:=Tryz.underlying5
 a5:=Tryz.isAgg5
 z5:=Tryz.sizeOf5
 v5:=Tryz.zeroValue5
 t9:=Tryz.underlying9
 a9:=Tryz.isAgg9
 z9:=Tryz.sizeOf9
 v9:=Tryz.zeroValue9
 t46:=Tryz.underlying172
 a46:=Tryz.isAgg172
 z46:=Tryz.sizeOf172
 v46:=Tryz.zeroValue172
 t51:=Tryz.underlying181
 a51:=Tryz.isAgg181
 z51:=Tryz.sizeOf181
 v51:=Tryz.zeroValue181
 t53:=Tryz.underlying34
 a53:=Tryz.isAgg34
 z53:=Tryz.sizeOf34
 v53:=Tryz.zeroValue34 }
theorem insSort_nil (p:Option Addr) (cap:Nat) (w:World) :
 Calls Tryz.prog 124 #[.slice p 0 cap,.int .i64 0,.int .i64 0] w fun e w'=>e=.returned (.tuple #[])/\w'=w:=by
 go_enter Tryz.func124,Tryz.ntmps124;go_wp2;refine wp_loop_rounds 1 ?_;rw[rounds_succ];go_wp2
 go_end0
 exact⟨rfl,rfl⟩
theorem pdqSort_nil (p:Option Addr) (cap:Nat) (w:World) :
 Calls Tryz.prog 122 #[.slice p 0 cap,.int .i64 0,.int .i64 0,.int .i64 0] w fun e w'=>e=.returned (.tuple #[])/\w'=w:=by
 go_enter Tryz.func122,Tryz.ntmps122;go_wp2;refine wp_loop_rounds 1 ?_;rw[rounds_succ];go_wp2_with (first|(go_at_call 124;refine(insSort_nil p cap _).mono ?_;rintro e w' ⟨rfl,rfl⟩))
 refine bodyPost_ret (results_none rfl _ _ _) rfl ?_;exact⟨rfl,rfl⟩
theorem slSort_nil (p:Option Addr) (cap:Nat) (w:World) :
 Calls Tryz.prog 116 #[.slice p 0 cap] w fun e w'=>e=.returned (.tuple #[])/\w'=w:=by
 have hLen:∀ w,Calls Tryz.prog 123 #[.int .u64 0] w fun e w'=>e=.returned (.int .i64 0)/\w'=w:=fun w=>Any.bits_Len Tryz.lays125 0 w oz oz;go_enter Tryz.func116,Tryz.ntmps116;go_wp2_with (first
  | (go_at_call 123;refine(hLen _).mono ?_;rintro e w' ⟨rfl,rfl⟩)
  | (go_at_call 122;refine(pdqSort_nil p cap _).mono ?_;rintro e w' ⟨rfl,rfl⟩))
 go_end0
 exact⟨rfl,rfl⟩
theorem ints_nil (p:Option Addr) (cap:Nat) (w:World) :
 Calls Tryz.prog 93 #[.slice p 0 cap] w fun e w'=>e=.returned (.tuple #[])/\w'=w:=by
 go_enter Tryz.func93,Tryz.ntmps93;go_wp2_with (first|(go_at_call 116;refine(slSort_nil p cap _).mono ?_;rintro e w' ⟨rfl,rfl⟩))
 go_end0
 exact⟨rfl,rfl⟩
/-- sort.Ints of an own row -/
theorem ints_own (v:Value) (l:List Int) (w:World) (hsz:l.length<4611686018427387904) (h:w.ownsRow 0 3 1 v l.length (Nums l)) :
 Calls Tryz.prog 93 #[v] w fun e w'=>e=.returned (.tuple #[])/\w'.ownsRow 0 3 1 v l.length (Nums (l.mergeSort fun x y=>decide (x<=y)))/\Chg (fun k=>v.ownBlock=some k) w w':=by
 obtain⟨h1,h2⟩:=h;rcases h2 with⟨rfl,h0⟩|⟨g,cap,cur,rfl,hb,hh,q1,q2,q3,q4⟩
 ·have e:l=[]:=by simpa[Nums]using h0
  subst e;refine(ints_nil none 0 w).mono ?_;rintro e w' ⟨rfl,rfl⟩;exact⟨rfl,by simpa[Nums]using World.ownsRow_nil w' 0 3 1,Chg.refl _ _⟩
 ·rw[Nat.mul_one]at q4;have hH:=holds_of_blockI (ss:=l) hh q4;refine(Any.sort_Ints Tryz.lays191 g 0 cap l w hH (Array.getElem?_eq_some_iff.1 hh).1 hsz).mono ?_;rintro e w' ⟨rfl,n,os,rfl⟩;have hl:(l.mergeSort fun x y=>decide (x<=y)).length=l.length:=List.length_mergeSort l;exact⟨rfl,ownsRow_sortedI hl (Nat.zero_le _) hh q1 q2 (by rw[q3]),chg_grown (grownBy_sortedI _)⟩
end Go.Proofs.YteebpnbdihcfmaaGreatDoor
namespace Go.Proofs.YteebpnbdihcfmaaGreatDoor
open Go.RowKit
theorem pickN_mem {n:Nat}{p:Int->Bool}{x:Int}:x∈pickN n p↔∃ k:Nat,x=k/\k<n/\p x=true:=by
 unfold pickN;constructor
 ·intro h;obtain⟨k,hk,rfl⟩:=List.mem_map.1 h;obtain⟨h1,h2⟩:=List.mem_filter.1 hk;exact⟨k,rfl,List.mem_range.1 h1,h2⟩
 ·rintro⟨k,rfl,h1,h2⟩;exact List.mem_map.2 ⟨k,List.mem_filter.2 ⟨List.mem_range.2 h1,h2⟩,rfl⟩
theorem pickN_lt (n:Nat) (p:Int->Bool):(pickN n p).Pairwise (· < ·):=by
 unfold pickN;rw[List.pairwise_map];have h:((List.range n).filter fun k:Nat=>p (k:Int)).Pairwise (· < ·):=List.Pairwise.filter _ List.pairwise_lt_range;exact h.imp fun h=>Int.ofNat_lt.2 h
/-- two rising lists of the same numbers are one -/
theorem rise_eq:∀ (a b:List Int),a.Pairwise (· < ·)->b.Pairwise (· < ·)->(∀ x,x∈a↔x∈b)->a=b
 | [],[],_,_,_=>rfl
 | [],y::b,_,_,h=>absurd ((h y).2 si) si
 | x::a,[],_,_,h=>absurd ((h x).1 si) si
 | x::a,y::b,ha,hb,h=>by
  rw[List.pairwise_cons]at ha hb;have hxy:x=y:=by
   have h1:=(h x).1 si;have h2:=(h y).2 si;rcases List.mem_cons.1 h1 with e|h1
   ·exact e
   ·rcases List.mem_cons.1 h2 with e|h2
    ·exact e.symm
    ·have:=ha.1 y h2;have:=hb.1 x h1;omega
  subst hxy;refine congrArg _ (rise_eq a b ha.2 hb.2 fun z=>?_);constructor
  ·intro hz;rcases List.mem_cons.1 ((h z).1 (by simp[hz]))with e|h1
   ·have:=ha.1 z hz;omega
   ·exact h1
  ·intro hz;rcases List.mem_cons.1 ((h z).2 (by simp[hz]))with e|h1
   ·have:=hb.1 z hz;omega
   ·exact h1
theorem sort_pick {n:Nat}{p:Int->Bool}{ss:List Int}(hn:ss.Nodup) (h1:∀ x∈ss,p x=true) (h2:∀ x,p x=true->x∈ss) (hp:∀ x,p x=true->∃ k:Nat,x=k/\k<n):ss.mergeSort (fun x y=>decide (x<=y))=pickN n p:=by
 refine rise_eq _ _ ?_ (pickN_lt n p) fun x=>?_
 ·have hs:=List.pairwise_mergeSort (le:=fun x y:Int=>decide (x<=y)) (fun a b c h1 h2=>by simp only[decide_eq_true_eq]at *;omega) (fun a b=>by simp only[Bool.or_eq_true,decide_eq_true_eq];omega) ss;have hd:(ss.mergeSort fun x y=>decide (x<=y)).Nodup:=(List.mergeSort_perm ss _).nodup_iff.2 hn;refine(hs.and hd).imp fun {a b} h=>?_;have:=of_decide_eq_true h.1;have:=h.2;omega
 ·rw[(List.mergeSort_perm ss _).mem_iff,pickN_mem];constructor
  ·intro hx;have h3:=h1 x hx;obtain⟨k,e,hk⟩:=hp x h3;exact⟨k,e,hk,h3⟩
  ·rintro⟨k,_,_,h3⟩;exact h2 x h3
theorem lenI_below {n:Nat}{ss:List Int}(hn:ss.Nodup) (h:∀ x∈ss,∃ k:Nat,x=k/\k<n):ss.length<=n:=by
 have h1:=sort_pick (n:=n) (p:=fun x=>decide (x∈ss)) hn (fun x hx=>by simpa using hx) (fun x hx=>by simpa using hx) (fun x hx=>h x (by simpa using hx));have h2:=congrArg List.length h1;rw[List.length_mergeSort]at h2;rw[h2];unfold pickN;rw[List.length_map];exact Nat.le_trans (List.length_filter_le _ _) si
theorem sorted_any (b q n:Nat) (p:Int->Bool) (w:World) (hM:MapAt w b q (setM p)) (hn:n<=1024) (hp:∀ x,p x=true->∃ k:Nat,x=k/\k<n) :
 Calls Tryz.prog 51 #[.map (some b)] w (FreshI w (pickN n p)):=by
 have hlt:=hM.lt;have hpi:∀ i,¬inI i->setM p i=none:=fun i hi=>by
  unfold setM;cases h:p i with
  | false=>rfl
  | true =>
   obtain⟨k,rfl,hk⟩:=hp i h;exact absurd (inI_nat oz) hi
 obtain⟨W1,cnt,hrun,hR,hb1,hz1,hcq⟩:=hM.range Tryz.mapU hpi;have HR:=qd hR;clear hR;have HP:=qd hp;clear hp;go_enter Tryz.func51,Tryz.ntmps51;go_upto_region 3 with(fail)
 go_loopg [3] cnt (fun k v3 wr=>∃ (left:Int->Bool) (ss:List Int),Hid (MapRange wr b w.heap.size q (setM p) left k)/\ss.Nodup/\(∀ x∈ss,p x=true/\left x=false)/\(∀ x,p x=true->x∈ss\/left x=true)/\(∀ x,left x=true->p x=true)/\Below w.heap.size w wr/\w.heap.size+1<=wr.heap.size/\(∀ j,v3.ownBlock=some j->w.heap.size+1<=j)/\(ss=[]->v3=.slice none 0 0)/\Hid (wr.ownsRow 0 3 1 v3 ss.length (Nums ss)))
 case atStart =>
  refine⟨_,[],HR,si,si,fun x hx=>.inr ?_,fun x hx=>?_,hb1,oz,by simp[Value.ownBlock],fun _=>rfl,qd (World.ownsRow_nil _ _ _ _)⟩
  ·unfold setM;rw[hx];rfl
  ·unfold setM at hx;cases h:p x with
   | true=>rfl
   | false=>rw[h]at hx;cases hx
 case round =>
  clear HR hrun hb1 hz1 hcq;obtain⟨left,ss,hR,hnd,hss,hall,hlp,hbr,hz,hvb,hvn,hrow⟩:=hrel;have hln:ss.length<=n:=lenI_below hnd (fun x hx=>HP.out x (hss x hx).1);rcases hR.out.next 0 with⟨hno,hrun⟩|⟨i,v,W2,c2,hi,hli,hMi,hrun,hR2,hlt2,hc2,hz2,hent⟩
  ·have HI:=qd (fun W (h:W.ownsRow 0 3 1 u3 ss.length (Nums ss))=>ints_own u3 ss W oz h);have hsp:=sort_pick (n:=n) (p:=p) hnd (fun x hx=>(hss x hx).1) (fun x hx=>(hall x hx).resolve_right (by rw[hno x];simp)) HP.out;have HSP:=qd hsp;go_wp2_with (first|(go_at_call 93;refine(HI.out _ hrow.out).mono ?_;rintro e w3 ⟨rfl,hr3,hc3⟩)|fail)
   go_ret;go_light;have e:=HSP.out;have hl:ss.length=(pickN n p).length:=by rw[<-e,List.length_mergeSort]
   refine⟨_,rfl,hbr.trans (hc3.below _ hbr.size (fun k hk e=>by have:=hvb k e;omega)),by rw[<-hl,<-e];exact hr3,fun k hk=>by have:=hvb k hk;omega,fun h0=>?_⟩;rw[h0]at hl;exact hvn (List.eq_nil_of_length_eq_zero hl)
  ·have hz0:=hR2.lt;have hpi2:=hlp i hli;obtain⟨a,rfl,ha⟩:=HP.out i hpi2;have hrow2:=row_chg hc2 hrow.out (fun k hk e=>by have:=hvb k hk;omega);have HR2:=qd hR2;have HW2:=qd hrow2;have hb2:Below w.heap.size w W2:=hbr.trans (hc2.below _ hbr.size (fun k hk e=>by omega));clear hR hrow hrow2 hR2 hc2;go_wp2_with (first|(at_builtin;refine wpList_app rfl (.tmp 11) (.tmp 13) 50 3 1 8 (.int .i64 0) rfl Tryz.underlying50 Tryz.infoI rfl dc _ _ _ rfl (row_below bal HW2.out) ⟨wr.heap.size,0,none⟩ 1 1 (Nums [(a:Int)]) rfl rfl (src_own (Own.new' _ _ _ _ hz2.symm)) (Nums_one _) (by unfold maxLen;omega) oz dc ?_;intro g4 c4 w4 hr4 hc4 hg4)|fail)
   have hbA:Below W2.heap.size W2 (W2.alloc (.cells #[.int .i64 a] 3)):=bal;have hc5:Chg (fun k=>u3.ownBlock=some k) W2 w4:=(Chg.of hbA).trans hc4;have hz5:=hc5.size
   go_roundg c2
   case measure=>exact hlt2
   case rel =>
    refine⟨_,ss++[(a:Int)],qd (HR2.out.keep (hc5.block _ (HR2.out.owns.lt) (fun e=>by have:=hvb _ e;omega)) (hc5.block _ (HR2.out.lt.1) (fun e=>by have:=hvb _ e;omega))),?_,?_,?_,?_,hb2.trans (hc5.below _ hb2.size (fun k hk e=>by have:=hvb k e;omega)),oz,?_,si,qd (by rw[List.length_append,Nums_append];exact hr4)⟩
    ·rw[List.nodup_append];refine⟨hnd,si,fun x hx y hy e=>?_⟩;have:y=(a:Int):=by simpa using hy
     subst e;rw[this]at hx;rw[(hss _ hx).2]at hli;cases hli
    ·intro x hx;rcases List.mem_append.1 hx with hx|hx
     ·exact⟨(hss x hx).1,by simp[(hss x hx).2]⟩
     ·have:x=(a:Int):=by simpa using hx
      subst this;exact⟨hpi2,si⟩
    ·intro x hx;rcases hall x hx with h|h
     ·exact .inl (by simp[h])
     ·by_cases e:x=(a:Int)
      ·exact .inl (by simp[e])
      ·exact .inr (by simp[h,e])
    ·intro x hx;simp at hx;exact hlp x hx.1
    ·intro j hj;have e:g4=j:=by simpa[Value.ownBlock]using hj
     subst e;rcases hg4 with h|h
     ·exact hvb _ h
     ·simp at h;omega
end Go.Proofs.YteebpnbdihcfmaaGreatDoor
