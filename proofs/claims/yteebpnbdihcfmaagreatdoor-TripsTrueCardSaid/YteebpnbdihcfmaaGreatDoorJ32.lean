/- R14 -/
import Derived.Test.YteebpnbdihcfmaaGreatDoorJ30
import Derived.Test.YteebpnbdihcfmaaGreatDoorJ31
import Derived.Test.YteebpnbdihcfmaaGreatDoorJ10
import Derived.Test.YteebpnbdihcfmaaGreatDoorJ01
set_option linter.unusedVariables false
set_option linter.unusedSimpArgs false
set_option maxRecDepth 100000
set_option maxHeartbeats 20000000
namespace Go.Proofs.YteebpnbdihcfmaaGreatDoor
open Go.RowKit
theorem rcounts_any (B:Nat) (hh:HF) (f:PFunc) (l:PLoop) (ma ba:Option Addr) (mc bc:Nat) (w:World) (hB:B<=w.heap.size) (hf:FuncOk B w hh f)
 (hm:NumsAt B w ma l.members.length l.members) (hb:NumsAt B w ba l.backs.length l.backs) (hh1:l.head<f.code.length) (hm1:∀ x∈l.members,∃ k:Nat,x=k/\k<f.code.length) (hb1:∀ x∈l.backs,∃ k:Nat,x=k/\k<f.code.length) (hn:f.code.length<=1024) :
 Calls Tryz.prog 41 #[FuncVal hh f,.agg #[.int .i64 l.head,.int .i64 l.parent,.slice ma l.members.length mc,.slice ba l.backs.length bc]] w fun e w'=>e=.returned (.tuple #[.int .i64 (countsP f l).1,.int .i64 (countsP f l).2])/\Below w.heap.size w w':=by
 have hmk:=run_make_row' (P:=Tryz.prog) 89 4 (.bool false) 1 Tryz.underlying89 Tryz.infoB rfl .i64 .i64 f.code.length oz oz;rw[madeBools]at hmk;obtain⟨pa,pl,pc,ca,cl,cc⟩:=hh;obtain⟨h1,h2,⟨hcl,hcm,cb,co,hcb,hcells⟩,h4,h5⟩:=hf;dsimp only at *;subst hcl;obtain⟨rfl,hcB⟩:=hcb oz;clear h2 h1 h4 h5;obtain⟨RES,hRES⟩:∃ r,countsP f l=r:=⟨_,rfl⟩
 rw[hRES];rw[counts_eq]at hRES;unfold FuncVal;dsimp only;have HC:=qd hcells;clear hcells;have HM1:=qd hm1;have HB1:=qd hb1;have HM:=qd hm;have HBk:=qd hb;clear hm1 hb1 hm hb;have hx0:=HC.out l.head hh1;have hca:codeAt f (l.head:Int)=f.code.getD l.head default:=by unfold codeAt;rw[Int.toNat_natCast]
 rw[hca]at hRES;generalize f.code.getD l.head default=x at *;obtain⟨op,a,b,c,n⟩:=x;obtain⟨⟨g0,g1,g2,g3,g4⟩,⟨i0,i1,i2,i3,i4⟩⟩:=hx0;dsimp only at *;obtain⟨head,parent,members,backs⟩:=l;dsimp only at *;have hhd:(head:Int)<(f.code.length:Int):=oz
 have hcbl:cb<w.heap.size:=oz
 by_cases hop:op=17
 ·subst hop;rw[if_neg (by simp)]at hRES;have HRES:=qd hRES.symm;clear hRES;go_enter Tryz.func41,Tryz.ntmps41;go_upto_region 5 with(fail)
  have HBR:∀ W:World,(W.alloc (.cells (Bools (List.replicate f.code.length false)).toArray 4)).ownsRow 0 4 1 (.slice (some ⟨W.heap.size,0,none⟩) f.code.length f.code.length) f.code.length (Bools (List.replicate f.code.length false)):=fun W=>World.ownsRow_lit W (base:=0) (e:=4) (size:=1) (Bools (List.replicate f.code.length false)).toArray f.code.length (Nat.zero_le _) (by unfold maxLen;omega) (by simp[Bools]);generalize hW0:World.alloc _ _=W0;have hb0:Below w.heap.size w W0:=by rw[<-hW0];exact bel
  have hz0:w.heap.size+4<=W0.heap.size:=by rw[<-hW0];simp
  have OF:Own W0 w.heap.size [.string f.name,.slice pa pl pc,.int .i64 f.regs,.int .i64 f.words,.slice (some ⟨cb,co,none⟩) f.code.length cc]:=by rw[<-hW0];exact(((Own.new _ _ _).alloc _).alloc _).alloc _
  have OL:Own W0 (w.heap.size+1) [.int .i64 head,.int .i64 parent,.slice ma members.length mc,.slice ba backs.length bc]:=by rw[<-hW0];exact((Own.new' _ _ _ _ si).alloc _).alloc _
  have OC:Own W0 (w.heap.size+1+1) [.int .i64 17,.int .i64 a,.int .i64 b,.int .i64 c,.int .i64 n]:=by rw[<-hW0];exact(Own.new' _ _ _ _ si).alloc _
  have OM:W0.ownsRow 0 4 1 (.slice (some ⟨w.heap.size+1+1+1,0,none⟩) f.code.length f.code.length) f.code.length (Bools (mkL f.code.length (takeB backs 0))):=by
   have e:takeB backs 0=fun _=>false:=by funext x;simp[takeB]
   rw[<-hW0,e,mkL_none];have:=HBR (((w.alloc (.cells #[.string f.name,.slice pa pl pc,.int .i64 f.regs,.int .i64 f.words,.slice (some ⟨cb,co,none⟩) f.code.length cc] 42)).alloc (.cells #[.int .i64 head,.int .i64 parent,.slice ma members.length mc,.slice ba backs.length bc] 52)).alloc (.cells #[.int .i64 17,.int .i64 a,.int .i64 b,.int .i64 c,.int .i64 n] 55));simpa using this
  have l4:=own4 OL;clear hW0 hmk HBR g0 g1 g2 g3 g4;obtain⟨-,hbm,bb,bo,hbb,hbc⟩:=HBk.out;have hbm':backs.length<=9223372036854775807:=hbm;have HBC:=qd hbc;have HBB:=qd hbb;clear hbc hbb;go_wp2;go_loopw [8] (fun i wr=>∃ j:Nat,j<=backs.length/\i=.int .i64 j/\Hid (∀ i,i<j->badBack f a (backs.getD i 0)=false)/\Below w.heap.size w wr/\w.heap.size+4<=wr.heap.size/\Hid (Own wr w.heap.size [.string f.name,.slice pa pl pc,.int .i64 f.regs,.int .i64 f.words,.slice (some ⟨cb,co,none⟩) f.code.length cc])/\Hid (Own wr (w.heap.size+1) [.int .i64 head,.int .i64 parent,.slice ma members.length mc,.slice ba backs.length bc])/\Hid (Own wr (w.heap.size+1+1) [.int .i64 17,.int .i64 a,.int .i64 b,.int .i64 c,.int .i64 n])/\Hid (wr.ownsRow 0 4 1 (.slice (some ⟨w.heap.size+1+1+1,0,none⟩) f.code.length f.code.length) f.code.length (Bools (mkL f.code.length (takeB backs j))))) (fun i _=>backs.length-(intOf i).toNat)
  case atStart=>exact⟨0,Nat.zero_le _,rfl,qd (fun i hi=>by omega),hb0,oz,qd OF,qd OL,qd OC,qd OM⟩
  case round =>
   clear OF OL OC OM l4 hb0 hz0;obtain⟨j,hj,rfl,hno,hbr,hzr,OF,OL,OC,OM⟩:=hrel;have f5:=own5 OF.out;have l4:=own4 OL.out;have x5:=own5 OC.out;by_cases hjt:j<backs.length
   ·have d2:(j:Int)<(backs.length:Int):=oz
    have hwj:IntKind.i64.wrap ((j:Int)+1)=(j:Int)+1:=IntWalk.i64_in _ oz;obtain⟨rfl,hbB⟩:=HBB.out oz;have c0:=(hbr.cell (p:=⟨bb,bo+j,none⟩) (by show bb<_;omega)).trans (HBC.out j hjt).1;obtain⟨k,hku,hkl⟩:=HB1.out (backs.getD j 0) (List.mem_of_getElem? (i:=j) (by rw[List.getD_eq_getElem?_getD,List.getElem?_eq_getElem hjt];rfl));have HU:=qd hku;rw[hku]at c0;have hk1:(k:Int)<(f.code.length:Int):=oz
    have hcaU:codeAt f (k:Int)=f.code.getD k default:=by unfold codeAt;rw[Int.toNat_natCast]
    obtain⟨⟨y0,y1,y2,y3,y4⟩,iy⟩:=HC.out k hkl;have HY:=qd (show badBack f a (k:Int)=(decide ((f.code.getD k default).op≠18)||decide ((f.code.getD k default).a≠a)) by unfold badBack;rw[hcaU]);have HF:=qd (fun h=>find_at (p:=badBack f a) hjt hno.out h);clear hku hcaU iy;generalize f.code.getD k default=y at *;obtain⟨yo,ya,yb,yc,yn⟩:=y;dsimp only at y0 y1 y2 y3 y4 HY;have hcbw:cb<wr.heap.size:=oz
    have yy0:=(hbr.cell (p:=⟨cb,co+k*5,none⟩) (by show cb<_;omega)).trans y0;have yy1:=(hbr.cell (p:=⟨cb,co+k*5+1,none⟩) (by show cb<_;omega)).trans y1;have yy2:=(hbr.cell (p:=⟨cb,co+k*5+2,none⟩) (by show cb<_;omega)).trans y2;have yy3:=(hbr.cell (p:=⟨cb,co+k*5+3,none⟩) (by show cb<_;omega)).trans y3;have yy4:=(hbr.cell (p:=⟨cb,co+k*5+4,none⟩) (by show cb<_;omega)).trans y4;have hbbw:bb<wr.heap.size:=oz
    clear y0 y1 y2 y3 y4;have HSS:Hid (∀ w':World,Below wr.heap.size wr w'->w'.cell? ⟨w.heap.size,4,none⟩=some (.slice (some ⟨cb,co,none⟩) f.code.length cc)/\w'.cell? ⟨w.heap.size+1,3,none⟩=some (.slice (some ⟨bb,bo,none⟩) backs.length bc)/\w'.cell? ⟨bb,bo+j,none⟩=some (.int .i64 (k:Int))/\w'.cell? ⟨cb,co+k*5,none⟩=some (.int .i64 yo)/\w'.cell? ⟨cb,co+k*5+1,none⟩=some (.int .i64 ya)/\w'.cell? ⟨cb,co+k*5+2,none⟩=some (.int .i64 yb)/\w'.cell? ⟨cb,co+k*5+3,none⟩=some (.int .i64 yc)/\w'.cell? ⟨cb,co+k*5+4,none⟩=some (.int .i64 yn)):=qd (fun w' hb=>⟨(hb.cell (show w.heap.size<_ by omega)).trans f5.2.2.2.2.2.1,(hb.cell (show w.heap.size+1<_ by omega)).trans l4.2.2.2.2.1,(hb.cell hbbw).trans c0,(hb.cell hcbw).trans yy0,(hb.cell hcbw).trans yy1,(hb.cell hcbw).trans yy2,(hb.cell hcbw).trans yy3,(hb.cell hcbw).trans yy4⟩);go_upto_region 8 with(fail)
    refine region_held_plain (fun w'=>Below wr.heap.size wr w') kr ((Below.refl _ wr).drew) ?_;intro K0 hK0 hHeld
    (refine wtb 0 rfl ?_ (by intro w' hSw;obtain⟨s0,s1,s2,s3,s4,s5,s6,s7⟩:=HSS.out w' hSw;go_simp;(try with_reducible rfl));try simp only[Act.put,SU])
    (refine wtb 1 rfl ?_ (by intro w' hSw;obtain⟨s0,s1,s2,s3,s4,s5,s6,s7⟩:=HSS.out w' hSw;go_simp;(try with_reducible rfl));try simp only[Act.put,SU])
    (refine wtb 2 rfl ?_ (by intro w' hSw;obtain⟨s0,s1,s2,s3,s4,s5,s6,s7⟩:=HSS.out w' hSw;go_simp;(try with_reducible rfl));try simp only[Act.put,SU])
    (refine wtb 3 rfl ?_ (by intro w' hSw;obtain⟨s0,s1,s2,s3,s4,s5,s6,s7⟩:=HSS.out w' hSw;go_simp;(try with_reducible rfl));try simp only[Act.put,SU])
    (refine wtb 4 rfl ?_ (by intro w' hSw;obtain⟨s0,s1,s2,s3,s4,s5,s6,s7⟩:=HSS.out w' hSw;go_simp;(try with_reducible rfl));try simp only[Act.put,SU])
    (refine wtb 5 rfl ?_ (by intro w' hSw;obtain⟨s0,s1,s2,s3,s4,s5,s6,s7⟩:=HSS.out w' hSw;go_simp;(try with_reducible rfl));try simp only[Act.put,SU])
    (refine wtb 6 rfl ?_ (by intro w' hSw;obtain⟨s0,s1,s2,s3,s4,s5,s6,s7⟩:=HSS.out w' hSw;go_simp;(try with_reducible rfl));try simp only[Act.put,SU])
    (refine wtb 7 rfl ?_ (by intro w' hSw;obtain⟨s0,s1,s2,s3,s4,s5,s6,s7⟩:=HSS.out w' hSw;go_simp;(try with_reducible rfl));try simp only[Act.put,SU])
    (refine wtb 8 rfl ?_ (by intro w' hSw;obtain⟨s0,s1,s2,s3,s4,s5,s6,s7⟩:=HSS.out w' hSw;go_simp;(try with_reducible rfl));try simp only[Act.put,SU])
    (refine wpAnyH_ready (rs:=[9]) kr si ?_;refine AllReadyH.cons rfl (fun K hK=>?_) AllReadyH.nil)
    go_simp
    refine hK.out _ _ ?_ (fun hHeld=>?_);(focus((try dsimp only);any_goals (exact bal.drew)));clear hK K;try simp only[Act.put,SU]
    (refine wpAnyH_ready (rs:=[10]) kr si ?_;refine AllReadyH.cons rfl (fun K hK=>?_) AllReadyH.nil)
    go_simp
    refine hK.out _ _ ?_ (fun hHeld=>?_);(focus((try dsimp only);any_goals (exact bal.drew)));clear hK K;try simp only[Act.put,SU]
    refine anyH_done kr ?_;refine hK0.out _ _ ?_;have hb5:Below wr.heap.size wr (wr.alloc (.cells #[.int .i64 yo,.int .i64 ya,.int .i64 yb,.int .i64 yc,.int .i64 yn] 55)).drew:=bal.drew;have OY:Own (wr.alloc (.cells #[.int .i64 yo,.int .i64 ya,.int .i64 yb,.int .i64 yc,.int .i64 yn] 55)).drew wr.heap.size [.int .i64 yo,.int .i64 ya,.int .i64 yb,.int .i64 yc,.int .i64 yn]:=(Own.new wr _ _).drew;generalize hW5:(wr.alloc (.cells #[.int .i64 yo,.int .i64 ya,.int .i64 yb,.int .i64 yc,.int .i64 yn] 55)).drew=W5 at hb5 OY ⊢;have hz5:=hb5.size;have hbr5:=hbr.trans (hb5.mono hbr.size);have OF5:=qd (OF.out.below hb5);have OL5:=qd (OL.out.below hb5);have OC5:=qd (OC.out.below hb5);have OM5:=qd (row_below hb5 OM.out);have f5':=own5 OF5.out;have l4':=own4 OL5.out;have x5':=own5 OC5.out;have y5:=own5 OY;have c0':=(hb5.cell (p:=⟨bb,bo+j,none⟩) hbbw).trans c0;clear hW5 f5 l4 x5 c0 yy0 yy1 yy2 yy3 yy4 HSS OF OL OC OM hK0 hHeld hb5 OY;by_cases e1:yo=18
    ·subst e1;by_cases e2:ya=a
     ·subst e2;have hgood:badBack f ya (k:Int)=false:=by rw[HY.out];simp
      clear HF;have q1:((18:Int)!=18)=false:=si
      have q2:(ya != ya)=false:=si
      have c5:=row_cell OM5.out (j:=k) (u:=.bool (takeB backs j k)) (by unfold Bools;rw[List.getElem?_map,mkL_at _ hkl];rfl);have z5:=OM5.out.frozenAt k;have C2:=row_set OM5.out k (.bool true);rw[Bools_set,mkL_add _ hkl,show addB (takeB backs j) (k:Int)=takeB backs (j+1) by rw[<-HU.out];exact takeB_succ hjt]at C2;have hst:Chg (fun q=>q=w.heap.size+1+1+1) W5 (W5.setCell ⟨w.heap.size+1+1+1,k,none⟩ (.bool true)):=Chg.setCell (S:=fun q=>q=w.heap.size+1+1+1) (Chg.refl _ _) (p:=⟨w.heap.size+1+1+1,k,none⟩) (.inl rfl) _;have HC2:=qd C2;have HST:=qd hst;clear C2 hst;go_wp2;have hst:=HST.out;have hz6:=hst.size;refine⟨⟨j+1,oz,si,qd (fun i hi=>?_),hbr5.trans (hst.below _ hbr5.size (fun q hq e=>by omega)),oz,qd (hst.own OF5.out oz),qd (hst.own OL5.out oz),qd (hst.own OC5.out oz),HC2⟩,?_⟩
      ·by_cases e:i=j
       ·subst e;rw[HU.out];exact hgood
       ·exact hno.out i oz
      ·go_light;exact ml
     ·have q1:((18:Int)!=18)=false:=si
      have q2:(ya != a)=true:=by simpa using e2
      have q3:(ya==a)=false:=by simpa using e2
      have hbad:badBack f a (k:Int)=true:=by rw[HY.out];simp[e2]
      have HG:=qd (HF.out (by rw[HU.out];exact hbad));clear HF;go_upto_region 10 with(fail)
      refine wp_still 6 kr kr ?_;simp only[TD];repeat(refine WS_step (fun K hK=>?_);go_simp;refine hK _ ?_;clear hK K)
      refine WS_nil ?_;go_wp2;go_ret2;go_light;refine⟨ret_int2 (by rw[Prod.eta,HRES.out,HG.out];dsimp only;rw[HU.out]),?_⟩
      first|exact hbr5|exact hbr5.drew
    ·have q1:(yo != 18)=true:=by simpa using e1
     have q2:(yo==18)=false:=by simpa using e1
     have hbad:badBack f a (k:Int)=true:=by rw[HY.out];simp[e1]
     have HG:=qd (HF.out (by rw[HU.out];exact hbad));clear HF;go_upto_region 10 with(fail)
     refine wp_still 6 kr kr ?_;simp only[TD];repeat(refine WS_step (fun K hK=>?_);go_simp;refine hK _ ?_;clear hK K)
     refine WS_nil ?_;go_wp2;go_ret2;go_light;refine⟨ret_int2 (by rw[Prod.eta,HRES.out,HG.out];dsimp only;rw[HU.out]),?_⟩
     first|exact hbr5|exact hbr5.drew
   ·obtain rfl:j=backs.length:=oz
    have d2:¬(backs.length:Int)<(backs.length:Int):=oz
    have HG:=qd (find_no hno.out);obtain⟨W1,hW1⟩:∃ wo:World,wo=wr:=⟨_,rfl⟩
    subst hW1;obtain⟨-,hmm1,mb,mo,hmb,hmc⟩:=HM.out;have hmm':members.length<=9223372036854775807:=hmm1;have HMC:=qd hmc;have HMB:=qd hmb;clear hmc hmb hno x5 f5;go_wp2;go_loopw [10] (fun i wx=>∃ j:Nat,j<=members.length/\i=.int .i64 j/\Hid (∀ i,i<j->badDrive f a b backs (members.getD i 0)=false)/\Hid (Below W1.heap.size W1 wx)) (fun i _=>members.length-(intOf i).toNat)
    case atStart=>exact⟨0,Nat.zero_le _,rfl,qd (fun i hi=>by omega),qd (Below.refl _ _)⟩
    case round =>
     obtain⟨j,hj,rfl,hno,hbx'⟩:=hrel;have hbx:=hbx'.out;have hzx:=hbx.size;have f5:=own5 (OF.out.below hbx);have x5:=own5 (OC.out.below hbx);have l4:=own4 (OL.out.below hbx);by_cases hjt:j<members.length
     ·have d3:(j:Int)<(members.length:Int):=oz
      have hwj:IntKind.i64.wrap ((j:Int)+1)=(j:Int)+1:=IntWalk.i64_in _ oz;obtain⟨rfl,hmB⟩:=HMB.out oz;have hbw:Below w.heap.size w wr:=hbr.trans (hbx.mono oz);have c0:=(hbw.cell (p:=⟨mb,mo+j,none⟩) (by show mb<_;omega)).trans (HMC.out j hjt).1;obtain⟨k,hku,hkl⟩:=HM1.out (members.getD j 0) (List.mem_of_getElem? (i:=j) (by rw[List.getD_eq_getElem?_getD,List.getElem?_eq_getElem hjt];rfl));have htk:members.take (j+1)=members.take j++[(k:Int)]:=by rw[<-hku,List.take_add_one,List.getD_eq_getElem?_getD,List.getElem?_eq_getElem hjt];rfl
      have HU:=qd hku;have HTK:=qd htk;rw[hku]at c0;have hk1:(k:Int)<(f.code.length:Int):=oz
      have hcaU:codeAt f (k:Int)=f.code.getD k default:=by unfold codeAt;rw[Int.toNat_natCast]
      obtain⟨⟨y0,y1,y2,y3,y4⟩,iy⟩:=HC.out k hkl;have HWr:=qd (fun w=>rwrites_any (f.code.getD k default) w);have HY:=qd (show badDrive f a b backs (k:Int)=(decide (0<=writesP (f.code.getD k default))&&((decide (writesP (f.code.getD k default)=a) && !backs.contains (k:Int))||decide (writesP (f.code.getD k default)=b))) by unfold badDrive;rw[hcaU]);have HF:=qd (fun h=>find_at (p:=badDrive f a b backs) hjt hno.out h);clear hku hcaU iy htk;have e0:=(hbw.cell (p:=⟨cb,co+k*5,none⟩) (by show cb<_;omega)).trans y0;have e1:=(hbw.cell (p:=⟨cb,co+k*5+1,none⟩) (by show cb<_;omega)).trans y1;have e2:=(hbw.cell (p:=⟨cb,co+k*5+2,none⟩) (by show cb<_;omega)).trans y2;have e3:=(hbw.cell (p:=⟨cb,co+k*5+3,none⟩) (by show cb<_;omega)).trans y3;have e4:=(hbw.cell (p:=⟨cb,co+k*5+4,none⟩) (by show cb<_;omega)).trans y4;clear y0 y1 y2 y3 y4;unfold InsVal at HWr;generalize hz:writesP (f.code.getD k default)=z at *;generalize f.code.getD k default=y at *;obtain⟨yo,ya,yb,yc,yn⟩:=y;dsimp only at e0 e1 e2 e3 e4 HWr;clear hz;have hcbw:cb<wr.heap.size:=oz
      have hmbw:mb<wr.heap.size:=oz
      have HSS:Hid (∀ w':World,Below wr.heap.size wr w'->w'.cell? ⟨w.heap.size,4,none⟩=some (.slice (some ⟨cb,co,none⟩) f.code.length cc)/\w'.cell? ⟨w.heap.size+1,2,none⟩=some (.slice (some ⟨mb,mo,none⟩) members.length mc)/\w'.cell? ⟨mb,mo+j,none⟩=some (.int .i64 (k:Int))/\w'.cell? ⟨cb,co+k*5,none⟩=some (.int .i64 yo)/\w'.cell? ⟨cb,co+k*5+1,none⟩=some (.int .i64 ya)/\w'.cell? ⟨cb,co+k*5+2,none⟩=some (.int .i64 yb)/\w'.cell? ⟨cb,co+k*5+3,none⟩=some (.int .i64 yc)/\w'.cell? ⟨cb,co+k*5+4,none⟩=some (.int .i64 yn)):=qd (fun w' hb=>⟨(hb.cell (show w.heap.size<_ by omega)).trans f5.2.2.2.2.2.1,(hb.cell (show w.heap.size+1<_ by omega)).trans l4.2.2.2.1,(hb.cell hmbw).trans c0,(hb.cell hcbw).trans e0,(hb.cell hcbw).trans e1,(hb.cell hcbw).trans e2,(hb.cell hcbw).trans e3,(hb.cell hcbw).trans e4⟩);go_upto_region 15 with(fail)
      refine region_held_plain (fun w'=>Below wr.heap.size wr w') kr ((Below.refl _ wr).drew) ?_;intro K0 hK0 hHeld
      (refine wtb 0 rfl ?_ (by intro w' hSw;obtain⟨s0,s1,s2,s3,s4,s5,s6,s7⟩:=HSS.out w' hSw;go_simp;(try with_reducible rfl));try simp only[Act.put,SU])
      (refine wtb 1 rfl ?_ (by intro w' hSw;obtain⟨s0,s1,s2,s3,s4,s5,s6,s7⟩:=HSS.out w' hSw;go_simp;(try with_reducible rfl));try simp only[Act.put,SU])
      (refine wtb 2 rfl ?_ (by intro w' hSw;obtain⟨s0,s1,s2,s3,s4,s5,s6,s7⟩:=HSS.out w' hSw;go_simp;(try with_reducible rfl));try simp only[Act.put,SU])
      (refine wtb 3 rfl ?_ (by intro w' hSw;obtain⟨s0,s1,s2,s3,s4,s5,s6,s7⟩:=HSS.out w' hSw;go_simp;(try with_reducible rfl));try simp only[Act.put,SU])
      (refine wtb 4 rfl ?_ (by intro w' hSw;obtain⟨s0,s1,s2,s3,s4,s5,s6,s7⟩:=HSS.out w' hSw;go_simp;(try with_reducible rfl));try simp only[Act.put,SU])
      (refine wtb 5 rfl ?_ (by intro w' hSw;obtain⟨s0,s1,s2,s3,s4,s5,s6,s7⟩:=HSS.out w' hSw;go_simp;(try with_reducible rfl));try simp only[Act.put,SU])
      (refine wtb 6 rfl ?_ (by intro w' hSw;obtain⟨s0,s1,s2,s3,s4,s5,s6,s7⟩:=HSS.out w' hSw;go_simp;(try with_reducible rfl));try simp only[Act.put,SU])
      (refine wtb 7 rfl ?_ (by intro w' hSw;obtain⟨s0,s1,s2,s3,s4,s5,s6,s7⟩:=HSS.out w' hSw;go_simp;(try with_reducible rfl));try simp only[Act.put,SU])
      (refine wtb 8 rfl ?_ (by intro w' hSw;obtain⟨s0,s1,s2,s3,s4,s5,s6,s7⟩:=HSS.out w' hSw;go_simp;(try with_reducible rfl));try simp only[Act.put,SU])
      (refine wpAnyH_ready (rs:=[9]) kr si ?_;refine AllReadyH.cons rfl (fun K hK=>?_) AllReadyH.nil)
      go_simp
      refine hK.out _ _ ?_ (fun hHeld=>?_);(focus((try dsimp only);any_goals (exact bal.drew)));clear hK K;try simp only[Act.put,SU]
      (refine wpAnyH_ready (rs:=[10]) kr si ?_;refine AllReadyH.cons rfl (fun K hK=>?_) AllReadyH.nil)
      go_simp
      refine hK.out _ _ ?_ (fun hHeld=>?_);(focus((try dsimp only);any_goals (exact bal.drew)));clear hK K;try simp only[Act.put,SU]
      refine anyH_done kr ?_;refine hK0.out _ _ ?_;have hb5:Below wr.heap.size wr (wr.alloc (.cells #[.int .i64 yo,.int .i64 ya,.int .i64 yb,.int .i64 yc,.int .i64 yn] 55)).drew:=bal.drew;have OY:Own (wr.alloc (.cells #[.int .i64 yo,.int .i64 ya,.int .i64 yb,.int .i64 yc,.int .i64 yn] 55)).drew wr.heap.size [.int .i64 yo,.int .i64 ya,.int .i64 yb,.int .i64 yc,.int .i64 yn]:=(Own.new wr _ _).drew;generalize hW5:(wr.alloc (.cells #[.int .i64 yo,.int .i64 ya,.int .i64 yb,.int .i64 yc,.int .i64 yn] 55)).drew=W5 at hb5 OY ⊢;have y5:=own5 OY;clear hW5 f5 l4 x5 c0 e0 e1 e2 e3 e4 HSS hK0 hHeld OY;go_upto_region 17 with(first|(go_at_call 76;refine(HWr.out _).mono ?_;rintro e w5 ⟨rfl,hb6⟩)|fail)
      have hb15:Below W1.heap.size W1 w5:=(hbx.trans (hb5.mono hbx.size)).trans (hb6.mono (by have:=hb5.size;have:=hbx.size;omega));have x5:=own5 (OC.out.below hb15);have hlk:=row_cell (row_below hb15 OM.out) (j:=k) (u:=.bool (takeB backs backs.length k)) (by unfold Bools;rw[List.getElem?_map,mkL_at _ hkl];rfl);rw[takeB_full]at hlk;generalize backs.contains (k:Int)=isB at *;have hbw5:=hbr.trans (hb15.mono (show w.heap.size<=W1.heap.size by omega));have l4':=own4 (OL.out.below hb15);have c0':=(hbw5.cell (p:=⟨mb,mo+j,none⟩) (by show mb<_;omega)).trans (HMC.out j hjt).1;rw[HU.out]at c0';obtain⟨ba,qa⟩:∃ ba,(z==a)=ba:=⟨_,rfl⟩
      obtain⟨bb,qb⟩:∃ bb,(z==b)=bb:=⟨_,rfl⟩
      have HY2:=qd (HY.out.trans (show _=(decide (0<=z)&&((ba && !isB)||bb)) by rw[<-qa,<-qb];rfl));clear HY;by_cases hbad:badDrive f a b backs (k:Int)=true
      ·have HG2:=qd (HF.out (by rw[HU.out];exact hbad));rw[HY2.out]at hbad;have HE:=HRES.out;rw[HG.out]at HE;dsimp only at HE;rw[HG2.out,HU.out]at HE;dsimp only at HE;have HE2:=qd HE;clear HF HY2 hno HE HG2;have hz0:0<=z:=by
        by_cases h:0<=z
        ·exact h
        ·rw[decide_eq_false h]at hbad;cases hbad
       rw[decide_eq_true hz0,Bool.true_and]at hbad;have qz:¬z<0:=oz
       have HBD:=qd hbad;clear hbad;cases ba<;>cases bb<;>cases isB
       all_goals first
        | (exfalso;have h:=HBD.out;revert h;decide)
        | (clear HBD
           go_upto_region 18 with(fail)
           refine wp_still 6 kr kr ?_;simp only[TD];repeat(refine WS_step (fun K hK=>?_);go_simp;refine hK _ ?_;clear hK K)
           refine WS_nil ?_;go_wp2;go_ret2;go_light;refine⟨ret_int2 (by rw[Prod.eta,HE2.out]),?_⟩
           first|exact hbw5|exact hbw5.drew)
      ·have hbf:badDrive f a b backs (k:Int)=false:=by simpa using hbad
       have HNO:=qd (fun i (hi:i<j+1)=>show badDrive f a b backs (members.getD i 0)=false by
        by_cases e:i=j
        ·subst e;rw[HU.out];exact hbf
        ·exact hno.out i oz)
       rw[HY2.out]at hbf;have HBD:=qd hbf;clear hbf hbad HF HY2 hno;by_cases hz0:0<=z
       ·have hbd:=HBD.out;rw[decide_eq_true hz0,Bool.true_and]at hbd;have HBE:=qd hbd;have qz:¬z<0:=oz
        clear HBD hbd;cases ba<;>cases bb<;>cases isB
        all_goals first
         | (exfalso;have h:=HBE.out;revert h;decide)
         | (clear HBE
            go_wp2;refine⟨⟨j+1,oz,si,HNO,qd hb15⟩,?_⟩;go_light;exact ml)
       ·have qz:z<0:=oz
        clear HBD;go_wp2;refine⟨⟨j+1,oz,si,HNO,qd hb15⟩,?_⟩;go_light;exact ml
     ·have hjj:j=members.length:=oz
      subst hjj;have d3:¬(members.length:Int)<(members.length:Int):=oz
      have HG2:=qd (find_no hno.out);have HE:=HRES.out;rw[HG.out]at HE;dsimp only at HE;rw[HG2.out]at HE;dsimp only at HE;have HE2:=qd HE;clear HE hno HG HG2;have hbw:Below w.heap.size w wr:=hbr.trans (hbx.mono oz);obtain⟨W2,hW2⟩:∃ wo:World,wo=wr:=⟨_,rfl⟩
      subst hW2;have hbx':=qd hbx;clear hbx f5 x5;go_wp2;go_loopw [13] (fun i wx=>∃ j:Nat,j<=members.length/\i=.int .i64 j/\Hid ((members.take j).any (fun u=>decide (u=n))=false)/\Hid (Below W2.heap.size W2 wx)) (fun i _=>members.length-(intOf i).toNat)
      case atStart=>exact⟨0,Nat.zero_le _,rfl,qd si,qd (Below.refl _ _)⟩
      case round =>
       obtain⟨j,hj,rfl,hno,hby⟩:=hrel;have hbx:=hbx'.out.trans (hby.out.mono hbx'.out.size);have hzx:=hbx.size;have hbw6:Below w.heap.size w wr:=hbr.trans (hbx.mono oz);have x5:=own5 (OC.out.below hbx);have l4:=own4 (OL.out.below hbx);by_cases hjt:j<members.length
       ·have d4:(j:Int)<(members.length:Int):=oz
        have hwj:IntKind.i64.wrap ((j:Int)+1)=(j:Int)+1:=IntWalk.i64_in _ oz;obtain⟨rfl,hmB⟩:=HMB.out oz;have c0:=(hbw6.cell (p:=⟨mb,mo+j,none⟩) (by show mb<_;omega)).trans (HMC.out j hjt).1;have hmbw:mb<wr.heap.size:=by have:=hbw6.size;omega
        have hgk:members[j]? = some (members.getD j 0):=by rw[List.getD_eq_getElem?_getD,List.getElem?_eq_getElem hjt];rfl
        have htk:members.take (j+1)=members.take j++[members.getD j 0]:=by rw[List.take_add_one,hgk];rfl
        have HTK:=qd htk;have HMM:=qd (List.mem_of_getElem? hgk);clear htk hgk;generalize members.getD j 0=k at *;by_cases e5:k=n
        ·have q5:(k==n)=true:=by simpa using e5
         have HAN:=qd (show members.any (fun u=>decide (u=n))=true from List.any_eq_true.2 ⟨k,HMM.out,by simpa using e5⟩);clear e5;go_upto_region 22 with(fail)
         refine wp_still 7 kr kr ?_;simp only[TD];repeat(refine WS_step (fun K hK=>?_);go_simp;refine hK _ ?_;clear hK K)
         refine WS_nil ?_;go_upto_region 23 with(fail)
         refine wp_still 3 kr kr ?_;simp only[TD];repeat(refine WS_step (fun K hK=>?_);go_simp;refine hK _ ?_;clear hK K)
         refine WS_nil ?_;go_wp2;go_ret2;go_light;refine⟨ret_int2 (by rw[Prod.eta,HE2.out,HAN.out];rfl),?_⟩
         first|exact hbw6|exact hbw6.drew|exact hbw6.drew.drew
        ·have q5:(k==n)=false:=by simpa using e5
         have HNN:=qd (show(members.take (j+1)).any (fun u=>decide (u=n))=false by rw[HTK.out,List.any_append,hno.out];simpa using e5);clear e5;go_upto_region 22 with(fail)
         refine wp_still 7 kr kr ?_;simp only[TD];repeat(refine WS_step (fun K hK=>?_);go_simp;refine hK _ ?_;clear hK K)
         refine WS_nil ?_;go_wp2;refine⟨⟨j+1,oz,si,HNN,qd (by first|exact hby.out|exact hby.out.drew)⟩,?_⟩;go_light;exact ml
       ·have hjj:j=members.length:=oz
        subst hjj;have d4:¬(members.length:Int)<(members.length:Int):=oz
        have HAN:=qd (show members.any (fun u=>decide (u=n))=false by have:=hno.out;rwa [List.take_length]at this);go_wp2;go_ret2;go_light;exact⟨ret_int2 (by rw[Prod.eta,HE2.out,HAN.out];rfl),hbw6⟩
 ·have q1:(op != 17)=true:=by simpa using hop
  have q2:(op==17)=false:=by simpa using hop
  rw[if_pos hop]at hRES;subst hRES;go_enter Tryz.func41,Tryz.ntmps41;go_upto_region 3 with(fail)
  refine wp_still 3 kr kr ?_;simp only[TD];repeat(refine WS_step (fun K hK=>?_);go_simp;refine hK _ ?_;clear hK K)
  refine WS_nil ?_;go_wp2;go_ret2;go_light;exact⟨rfl,bel⟩
end Go.Proofs.YteebpnbdihcfmaaGreatDoor
