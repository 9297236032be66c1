/- The reference of spans -/
import Derived.Test.YteebpnbdihcfmaaGreatDoorJ13
set_option linter.unusedVariables false
set_option linter.unusedSimpArgs false
set_option maxRecDepth 100000
set_option maxHeartbeats 20000000
namespace Go.Proofs.YteebpnbdihcfmaaGreatDoor
open Go.RowKit
theorem aNh {p:Prop}(h:p:=by
 refine bI 11 kr kr (fun T F hF hall=>?_);simp only[TD];have hFc:=fun t=>(bT (hF t)).1;have hFf:=fun t=>(bT (hF t)).2;have hFs:=fun t=>(hF t).size;have hNE:Nonempty T:=(hall _ (Below.refl _ _)).elim fun t _=>⟨t⟩;repeat(refine aU (fun K hK=>?_);go_simp;refine hK _ ?_;clear hK K)
 repeat(refine aU (fun K hK=>?_);go_simp;refine hK _ ?_;clear hK K)
 (refine aU (fun K hK=>?_);go_simp;refine⟨_,fun t=>bE (hF t) hall (HN.out (F t)),hK _ ?_⟩;clear hK K)
 repeat(refine aU (fun K hK=>?_);go_simp;refine hK _ ?_;clear hK K)
 refine gX (fun t=>?_);have hft:=hF t;have P3':=P3.out.below hft;have hbt:=hbx.trans (hft.mono hbx.size);go_wp2_with (first|(go_at_call 96;refine(HT.out _ _ _).mono ?_;rintro e w5 ⟨rfl,hb5⟩;have t3:=P3'.below hb5;have u3:=aD t3;have v3:=cQ t3;have hz5:=hb5.size;have hbv:=hbt.trans (hb5.mono hbt.size))|fail)
 try rw[Exit.noGoto_ret]
 refine bV (by rfl) (by rfl) (by rfl) ((t3.set 0 _ si).set 1 _ si) si ⟨rfl,?_⟩;exact(hbv.setCell (p:=⟨w.heap.size+1+1,0,none⟩) (by show _<=w.heap.size+1+1;omega) _).setCell (p:=⟨w.heap.size+1+1,1,none⟩) (by show _<=w.heap.size+1+1;omega) _):p:=h
theorem aSv (a:aB) (w:World) (ha:a.lo<=a.hi):Calls Tryz.prog 62 #[.int .i64 10,aJ a,aJ a] w fun e w'=>e=.returned (.tuple #[aJ (aS 10 a a).1,.bool (aS 10 a a).2])/\Below w.heap.size w w':=by
 have HA:=qd (fun w=>qJ a w ha);have HH:=qd (fun v w=>aCz a 0 v w);have HT:=qd sQ;have e:aS 10 a a=(eT (mC a cO) (!iJ a 0),true):=rfl;rw[e];generalize iJ a 0=hz at *;obtain⟨lo,hi⟩:=a;obtain⟨zz,hzz⟩:∃ v,mC ⟨lo,hi⟩ cO=v:=⟨_,rfl⟩
 rw[hzz];have HZ:Hid (zz=(decide (lo=0)&&decide (hi=0))):=qd hzz.symm;clear e ha hzz;unfold aJ at HT ⊢;dsimp only at *;go_enter Tryz.func62,Tryz.ntmps62;go_upto_region 1 with(fail)
 generalize hW:World.alloc _ _=W;obtain⟨hbW,o1,o2,o3,hz1⟩:=iP hW;have q1:=aD o1;have O1:=qd o1;have O3:=qd o3;clear hW o1 o2 o3;go_upto_region 4 with(first|(go_at_call 31;refine(HA.out _).mono ?_;rintro e w1 ⟨rfl,hb1⟩;clear HA)|fail)
 have P1:=qd (O1.out.below hb1);have P3:=qd (O3.out.below hb1);have hbx:=hbW.trans (hb1.mono hbW.size);clear q1 O1 O3 hb1 hbW;have r1:=aD P1.out;have e:=HZ.out;have HN:∀ w,Calls Tryz.prog 97 #[.agg #[.int .i64 lo,.int .i64 hi],.int .i64 0] w fun e w'=>e=.returned (.bool hz)/\Below w.heap.size w w':=fun w=>HH.out hz w rfl;have HN:=qd HN;clear HH HZ;by_cases d1:lo=0
 ·have g1:(lo==0)=true:=by simpa using d1
  by_cases d2:hi=0
  ·rw[decide_eq_true d1,decide_eq_true d2]at e;have g2:(hi==0)=true:=by simpa using d2
   subst e;clear d1 d2;exact aNh
  ·rw[decide_eq_true d1,decide_eq_false d2]at e;have g2:(hi==0)=false:=by simpa using d2
   subst e;clear d1 d2;exact aNh
 ·rw[decide_eq_false d1]at e;have g1:(lo==0)=false:=by simpa using d1
  subst e;clear d1;exact aNh
theorem aMm (a b:aB) (thr:List Int) (ha:a.lo<=a.hi) (hb:b.lo<=b.hi):gY a b thr=⟨if b.lo<a.lo then thr.foldl (jY b.lo) (-9223372036854775808)else a.lo,if a.hi<b.hi then thr.foldl (dZ b.hi) 9223372036854775807 else a.hi⟩:=by
 have hj:cJ a b=⟨min a.lo b.lo,max a.hi b.hi⟩:=by unfold cJ;rw[if_neg (by omega),if_neg (by omega)]
 unfold gY;rw[hj];dsimp only;congr 1
 ·by_cases h:b.lo<a.lo
  ·rw[if_pos h,if_pos (by omega),show min a.lo b.lo=b.lo by omega]
  ·rw[if_neg h,if_neg (by omega)]
 ·by_cases h:a.hi<b.hi
  ·rw[if_pos h,if_pos (by omega),show max a.hi b.hi=b.hi by omega]
  ·rw[if_neg h,if_neg (by omega)]
theorem aJa {p:Prop}(h:p:=by
 refine bC 15 kr kr ?_;simp only[TD];repeat(refine bS (fun K hK=>?_);go_simp;refine hK _ ?_;clear hK K)
 refine cF ?_;go_wp2;refine⟨⟨j+1,oz,si,qd HBW.out.drew,qd A1.out.drew,qd A2.out.drew,qd A3.out.drew,qd (by rw[HS.out,HU.out];exact AK.out.drew)⟩,?_⟩;go_light;exact ml):p:=h
theorem aHr (a b:aB) (thr:List Int) (ta:Option Addr) (tl tc:Nat) (w:World) (ha:a.lo<=a.hi) (hb:b.lo<=b.hi) (ht:cI w.heap.size w ta tl thr):Calls Tryz.prog 95 #[aJ a,aJ b,.slice ta tl tc] w fun e w'=>e=.returned (aJ (gY a b thr))/\Below w.heap.size w w':=by
 obtain⟨htl,htm,tb,tof,hta,htc⟩:=ht;subst htl;have htm':thr.length<=9223372036854775807:=htm;have HC:=qd htc;clear htc;have HTA:=qd hta;clear hta;have HA:=qd (fun w=>iQ a w);have HB:=qd (fun w=>iQ b w);have HR:=qd (aMm a b thr ha hb);obtain⟨⟨rlo,rhi⟩,hr⟩:∃ q:aB,gY a b thr=q:=⟨_,rfl⟩
 rw[hr]at HR ⊢;clear hr;obtain⟨lo,hi⟩:=a;obtain⟨lo2,hi2⟩:=b;unfold aJ dU at HA HB;unfold aJ;dsimp only at *;rw[decide_eq_false (show ¬hi<lo by omega)]at HA;rw[decide_eq_false (show ¬hi2<lo2 by omega)]at HB;have h1:(if lo2<lo then thr.foldl (jY lo2) (-9223372036854775808)else lo)=rlo:=(congrArg (fun q:aB=>q.lo) HR.out).symm;have h2:(if hi<hi2 then thr.foldl (dZ hi2) 9223372036854775807 else hi)=rhi:=(congrArg (fun q:aB=>q.hi) HR.out).symm;have H1:=qd h1;have H2:=qd h2;clear h1 h2 HR ha hb;go_enter Tryz.func95,Tryz.ntmps95;go_upto_region 1 with(fail)
 generalize hW:World.alloc _ _=W;obtain⟨hbW,o1,o2,o3,hz⟩:=iP hW;have q1:=aD o1;have O1:=qd o1;have O2:=qd o2;have O3:=qd o3;clear hW o1 o2 o3;go_upto_region 5 with(first|(go_at_call 31;first|(refine(HA.out _).mono ?_;rintro e w1 ⟨rfl,hb1⟩;have q2:=aD (O2.out.below hb1);have hbx:=hbW.trans (hb1.mono hbW.size);clear HA)|(refine(HB.out _).mono ?_;rintro e w2 ⟨rfl,hb2⟩;have hby:=hbx.trans (hb2.mono hbx.size);have p1:=aD ((O1.out.below hb1).below hb2);clear HB))|fail)
 have P1:=(O1.out.below hb1).below hb2;have P2:=(O2.out.below hb1).below hb2;have P3:=(O3.out.below hb1).below hb2;clear q1 q2 O1 O2 O3;go_upto_region 6 with(fail)
 generalize hW3:World.alloc _ _=W3;have hb3:Below w2.heap.size w2 W3:=by rw[<-hW3];exact bel
 have K0:aF W3 w2.heap.size [.int .i64 lo,.int .i64 hi]:=by rw[<-hW3];exact aF.new _ _ _
 obtain⟨k,hk⟩:∃ k,k=w2.heap.size:=⟨_,rfl⟩
 rw[<-hk]at K0 ⊢;have hkz:w.heap.size+3<=k:=by have:=P3.1;omega
 have hbw:=hby.trans (hb3.mono hby.size);have A1:=qd (P1.below hb3);have A2:=qd (P2.below hb3);have A3:=qd (P3.below hb3);have AK:=qd K0;have HBW:=qd hbw;have c1:=aD A1.out;have c2:=aD A2.out;have ck:=aD K0;have sk:=cQ K0;clear hW3 p1 P1 P2 P3 K0 hbx hby hb1 hb2 hb3 hbw hk hbW;go_upto_if 21 with(fail)
 go_cut [] (fun wc=>Hid (Below w.heap.size w wc)/\Hid (aF wc w.heap.size [.int .i64 lo,.int .i64 hi])/\Hid (aF wc (w.heap.size+1) [.int .i64 lo2,.int .i64 hi2])/\Hid (aF wc (w.heap.size+1+1) [.int .i64 0,.int .i64 0])/\Hid (aF wc k [.int .i64 rlo,.int .i64 hi]))
 case first =>
  by_cases d1:lo2<lo
  ·have h1:=H1.out;rw[if_pos d1]at h1;have HF:=qd h1;clear h1;rw[decide_eq_true d1];go_upto_region 8 with(fail)
   generalize hW4:World.setCell _ _ _=W4;have hb4:Below w.heap.size w W4:=by rw[<-hW4];exact HBW.out.setCell (p:=⟨k,0,none⟩) (by show _<=k;omega) _
   have hst:aG (fun q=>q=k) W3 W4:=by rw[<-hW4];exact aG.setCell (S:=fun q=>q=k) (aG.refl _ _) (p:=⟨k,0,none⟩) (.inl rfl) _
   have K4:aF W4 k [.int .i64 (-9223372036854775808),.int .i64 hi]:=by rw[<-hW4];exact AK.out.set 0 _ si
   have B1:=qd (hst.own A1.out oz);have B2:=qd (hst.own A2.out oz);have B3:=qd (hst.own A3.out oz);have BK:=qd K4;have HB4:=qd hb4;clear hW4 hst K4 hb4 c1 c2 ck sk AK A1 A2 A3 HBW;go_wp2;go_loopw [8] (fun i wr=>∃ j:Nat,j<=thr.length/\i=.int .i64 j/\Hid (Below w.heap.size w wr)/\Hid (aF wr w.heap.size [.int .i64 lo,.int .i64 hi])/\Hid (aF wr (w.heap.size+1) [.int .i64 lo2,.int .i64 hi2])/\Hid (aF wr (w.heap.size+1+1) [.int .i64 0,.int .i64 0])/\Hid (aF wr k [.int .i64 ((thr.take j).foldl (jY lo2) (-9223372036854775808)),.int .i64 hi])) (fun i _=>thr.length-(intOf i).toNat)
   case atStart=>exact⟨0,Nat.zero_le _,rfl,HB4,B1,B2,B3,BK⟩
   case round =>
    clear B1 B2 B3 BK HB4;obtain⟨j,hj,rfl,HBW,A1,A2,A3,AK⟩:=hrel;have c1:=aD A1.out;have c2:=aD A2.out;have ck:=aD AK.out;have sk:=cQ AK.out;by_cases hlt:j<thr.length
    ·have d2:(j:Int)<(thr.length:Int):=oz
     have hwk:IntKind.i64.wrap ((j:Int)+1)=(j:Int)+1:=IntWalk.i64_in _ oz;obtain⟨rfl,htb⟩:=HTA.out oz;have c0:=(HBW.out.cell (p:=⟨tb,tof+j,none⟩) htb).trans (HC.out j hlt).1;have HS:=qd (eQ (jY lo2) 0 thr j hlt (-9223372036854775808));generalize List.foldl (jY lo2) (-9223372036854775808) (thr.take j)=acc at *;generalize thr.getD j 0=t at *;by_cases e1:t<=lo2
     ·by_cases e2:acc<t
      ·have hu:jY lo2 acc t=t:=by unfold jY;rw[if_pos e1];omega
       have HU:=qd hu;clear hu;go_upto_region 11 with(fail)
       refine bC 15 kr kr ?_;simp only[TD];repeat(refine bS (fun K hK=>?_);go_simp;refine hK _ ?_;clear hK K)
       refine cF ?_;go_wp2;have g1:=A1.out;have g2:=A2.out;have g3:=A3.out;go_wp2;refine⟨⟨j+1,oz,si,qd (by first|exact HBW.out.setCell (p:=⟨k,0,none⟩) (by show _<=k;omega) _|exact HBW.out.drew.setCell (p:=⟨k,0,none⟩) (by show _<=k;omega) _|exact(HBW.out.setCell (p:=⟨k,0,none⟩) (by show _<=k;omega) _).drew),qd aK,qd aK,qd aK,qd (by rw[HS.out,HU.out];first|exact AK.out.set 0 _ si|exact AK.out.drew.set 0 _ si|exact(AK.out.set 0 _ si).drew)⟩,?_⟩;go_light;exact ml
      ·have hu:jY lo2 acc t=acc:=by unfold jY;rw[if_pos e1];omega
       have HU:=qd hu;clear hu;go_upto_region 11 with(fail)
       exact aJa
     ·have hu:jY lo2 acc t=acc:=by unfold jY;rw[if_neg e1]
      have HU:=qd hu;clear hu;go_upto_region 11 with(fail)
      exact aJa
    ·obtain rfl:j=thr.length:=oz
     have d2:¬(thr.length:Int)<(thr.length:Int):=oz
     have KF:=qd (show aF wr k [.int .i64 rlo,.int .i64 hi] by have h:=AK.out;rw[List.take_length,HF.out]at h;exact h);go_wp2;go_meet;exact⟨HBW,A1,A2,A3,KF⟩
  ·have h1:=H1.out;rw[if_neg d1]at h1;subst h1;go_wp2;go_meet;exact⟨HBW,A1,A2,A3,AK⟩
 case rest =>
  obtain⟨HBW,A1,A2,A3,AK⟩:=hcut;clear c1 c2 ck sk;have c1:=aD A1.out;have c2:=aD A2.out;have ck:=aD AK.out;have sk:=cQ AK.out;go_upto_if 54 with(fail)
  obtain⟨WC,hWC⟩:∃ wo:World,wo=wc:=⟨_,rfl⟩
  subst hWC;go_cut [] (fun wc=>Hid (Below w.heap.size w wc)/\Hid (aF wc w.heap.size [.int .i64 lo,.int .i64 hi])/\Hid (aF wc (w.heap.size+1) [.int .i64 lo2,.int .i64 hi2])/\Hid (aF wc (w.heap.size+1+1) [.int .i64 0,.int .i64 0])/\Hid (aF wc k [.int .i64 rlo,.int .i64 rhi]))
  case first =>
   by_cases d1:hi<hi2
   ·have h1:=H2.out;rw[if_pos d1]at h1;have HF:=qd h1;clear h1;rw[decide_eq_true d1];go_upto_region 15 with(fail)
    generalize hW4:World.setCell _ _ _=W4;have hb4:Below w.heap.size w W4:=by rw[<-hW4];exact HBW.out.setCell (p:=⟨k,1,none⟩) (by show _<=k;omega) _
    have hst:aG (fun q=>q=k) WC W4:=by rw[<-hW4];exact aG.setCell (S:=fun q=>q=k) (aG.refl _ _) (p:=⟨k,1,none⟩) (.inl rfl) _
    have K4:aF W4 k [.int .i64 rlo,.int .i64 9223372036854775807]:=by rw[<-hW4];exact AK.out.set 1 _ si
    have B1:=qd (hst.own A1.out oz);have B2:=qd (hst.own A2.out oz);have B3:=qd (hst.own A3.out oz);have BK:=qd K4;have HB4:=qd hb4;clear hW4 hst K4 hb4 c1 c2 ck sk AK A1 A2 A3 HBW;go_wp2;go_loopw [9] (fun i wr=>∃ j:Nat,j<=thr.length/\i=.int .i64 j/\Hid (Below w.heap.size w wr)/\Hid (aF wr w.heap.size [.int .i64 lo,.int .i64 hi])/\Hid (aF wr (w.heap.size+1) [.int .i64 lo2,.int .i64 hi2])/\Hid (aF wr (w.heap.size+1+1) [.int .i64 0,.int .i64 0])/\Hid (aF wr k [.int .i64 rlo,.int .i64 ((thr.take j).foldl (dZ hi2) 9223372036854775807)])) (fun i _=>thr.length-(intOf i).toNat)
    case atStart=>exact⟨0,Nat.zero_le _,rfl,HB4,B1,B2,B3,BK⟩
    case round =>
     clear B1 B2 B3 BK HB4;obtain⟨j,hj,rfl,HBW,A1,A2,A3,AK⟩:=hrel;have c1:=aD A1.out;have c2:=aD A2.out;have ck:=aD AK.out;have sk:=cQ AK.out;by_cases hlt:j<thr.length
     ·have d2:(j:Int)<(thr.length:Int):=oz
      have hwk:IntKind.i64.wrap ((j:Int)+1)=(j:Int)+1:=IntWalk.i64_in _ oz;obtain⟨rfl,htb⟩:=HTA.out oz;have c0:=(HBW.out.cell (p:=⟨tb,tof+j,none⟩) htb).trans (HC.out j hlt).1;have HS:=qd (eQ (dZ hi2) 0 thr j hlt 9223372036854775807);generalize List.foldl (dZ hi2) 9223372036854775807 (thr.take j)=acc at *;generalize thr.getD j 0=t at *;by_cases e1:hi2<=t
      ·by_cases e2:t<acc
       ·have hu:dZ hi2 acc t=t:=by unfold dZ;rw[if_pos e1];omega
        have HU:=qd hu;clear hu;go_upto_region 18 with(fail)
        refine bC 15 kr kr ?_;simp only[TD];repeat(refine bS (fun K hK=>?_);go_simp;refine hK _ ?_;clear hK K)
        refine cF ?_;go_wp2;have g1:=A1.out;have g2:=A2.out;have g3:=A3.out;go_wp2;refine⟨⟨j+1,oz,si,qd (by first|exact HBW.out.setCell (p:=⟨k,1,none⟩) (by show _<=k;omega) _|exact HBW.out.drew.setCell (p:=⟨k,1,none⟩) (by show _<=k;omega) _|exact(HBW.out.setCell (p:=⟨k,1,none⟩) (by show _<=k;omega) _).drew),qd aK,qd aK,qd aK,qd (by rw[HS.out,HU.out];first|exact AK.out.set 1 _ si|exact AK.out.drew.set 1 _ si|exact(AK.out.set 1 _ si).drew)⟩,?_⟩;go_light;exact ml
       ·have hu:dZ hi2 acc t=acc:=by unfold dZ;rw[if_pos e1];omega
        have HU:=qd hu;clear hu;go_upto_region 18 with(fail)
        exact aJa
      ·have hu:dZ hi2 acc t=acc:=by unfold dZ;rw[if_neg e1]
       have HU:=qd hu;clear hu;go_upto_region 18 with(fail)
       exact aJa
     ·obtain rfl:j=thr.length:=oz
      have d2:¬(thr.length:Int)<(thr.length:Int):=oz
      have KF:=qd (show aF wr k [.int .i64 rlo,.int .i64 rhi] by have h:=AK.out;rw[List.take_length,HF.out]at h;exact h);go_wp2;go_meet;exact⟨HBW,A1,A2,A3,KF⟩
   ·have h1:=H2.out;rw[if_neg d1]at h1;subst h1;go_wp2;go_meet;exact⟨HBW,A1,A2,A3,AK⟩
  case rest =>
   obtain⟨HBW,A1,A2,A3,AK⟩:=hcut;clear c1 c2 ck sk;have ck:=aD AK.out;have c3:=aD A3.out;have s3:=cQ A3.out;go_wp2;refine fV (by rfl) (by rfl) ((A3.out.set 0 _ si).set 1 _ si) si ⟨rfl,?_⟩;exact(HBW.out.setCell (p:=⟨w.heap.size+1+1,0,none⟩) iA _).setCell (p:=⟨w.heap.size+1+1,1,none⟩) iA _
end Go.Proofs.YteebpnbdihcfmaaGreatDoor
