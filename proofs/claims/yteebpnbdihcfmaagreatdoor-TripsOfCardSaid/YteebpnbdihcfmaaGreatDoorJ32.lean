/- What trips; The law TripsOf -/
import Derived.Test.YteebpnbdihcfmaaGreatDoorJ31
import Derived.Test.YteebpnbdihcfmaaGreatDoorJ08
set_option linter.unusedVariables false
set_option linter.unusedSimpArgs false
set_option maxRecDepth 100000
set_option maxHeartbeats 20000000
namespace Go.Proofs.YteebpnbdihcfmaaGreatDoor
open Go.RowKit
def pR (m:bA) (fn:Int) (rs:List Int) (E:Int):Prop :=
 if(dS m).e≠0 then rs=[]/\E=(dS m).e else if fn<0\/(m.funcs.length:Int)<=fn then rs=[]/\E=1 else ∃ s,fO m (bX m fn.toNat) (fL (bX m fn.toNat)) s/\gW m (bX m fn.toNat) s.inn=(rs,E)
theorem pR.uniq {m:bA}{fn:Int}{rs rs2:List Int}{E E2:Int}(h1:pR m fn rs E) (h2:pR m fn rs2 E2):rs2=rs/\E2=E:=by
 unfold pR at h1 h2;by_cases he:(dS m).e≠0
 ·rw[if_pos he]at h1 h2;exact⟨h2.1.trans h1.1.symm,h2.2.trans h1.2.symm⟩
 ·rw[if_neg he]at h1 h2;by_cases hf:fn<0\/(m.funcs.length:Int)<=fn
  ·rw[if_pos hf]at h1 h2;exact⟨h2.1.trans h1.1.symm,h2.2.trans h1.2.symm⟩
  ·rw[if_neg hf]at h1 h2;obtain⟨s,h3,h4⟩:=h1;obtain⟨t,h5,h6⟩:=h2;rw[<-h3.uniq h5]at h6;rw[h4]at h6;injection h6 with h7 h8;exact⟨h7.symm,h8.symm⟩
def sU (m:bA) (fn:Int) (w:World) (e:Ending) (w':World):Prop:=∃ a c rs E,e=.returned (.tuple #[.slice a rs.length c,.int .i64 E])/\w'.ownsRow 0 34 1 (.slice a rs.length c) rs.length (nT rs)/\Below w.heap.size w w'/\(∀ k,(Value.slice a rs.length c).ownBlock=some k->w.heap.size<=k)/\rs.length<=1024/\pR m fn rs E
theorem yD {m:bA}{fn E:Int}{w w':World}{e:Ending}(h:e=.returned (.tuple #[.slice none 0 0,.int .i64 E])/\Below w.heap.size w w') (hE:pR m fn [] E):sU m fn w e w' :=
 ⟨none,0,[],E,h.1,World.ownsRow_nil _ _ _ _,h.2,fun k hk=>by simp[Value.ownBlock]at hk,dc,hE⟩
theorem aJ1 {m:bA}{fn:Nat}{w w':World}{e:Ending}(he:(dS m).e=0) (hfn:fn<m.funcs.length) (h:nM m fn w e w'):sU m fn w e w':=by
 obtain⟨s,v,h1,h2,h3,h4,h5⟩:=h;obtain⟨a,c,rfl⟩:=pK h3;have hc:=((nE he).fn fn hfn).c2;refine⟨a,c,_,_,h2,h3,h4,h5,?_,?_⟩
 ·unfold gW;split
  ·rw[List.length_map];exact Nat.le_trans (yO _) hc
  ·exact Nat.zero_le _
 ·unfold pR;rw[if_neg (by omega),if_neg (by omega)];exact⟨s,h1,rfl⟩
theorem aCd {m:bA}{fn:Int}(he:(dS m).e≠0):pR m fn [] (dS m).e:=by unfold pR;rw[if_pos he];exact⟨rfl,rfl⟩
theorem aBg {m:bA}{fn:Int}(he:(dS m).e=0) (hf:fn<0\/(m.funcs.length:Int)<=fn):pR m fn [] 1:=by unfold pR;rw[if_neg (by omega),if_pos hf];exact⟨rfl,rfl⟩
theorem aB0 (B:Nat) (m:bA) (fn:Int) (ta fa:Option Addr) (tl tc fl fc:Nat) (w:World) (hB:B<=w.heap.size) (hB0:0<B) (hmo:cP B w (.agg #[.slice ta tl tc,.slice fa fl fc]) m) (hr:eO w) :
 Calls Tryz.prog 6 #[.agg #[.slice ta tl tc,.slice fa fl fc],.int .i64 fn] w (sU m fn w):=by
 by_cases he:(dS m).e=0
 ·by_cases hf:fn<0\/(m.funcs.length:Int)<=fn
  ·exact(aCl B m fn ta fa tl tc fl fc w hB hB0 hmo hr he hf).mono fun _ _ h=>yD h (aBg he hf)
  ·obtain⟨k,rfl⟩:=Int.eq_ofNat_of_zero_le (show 0<=fn by omega);exact(aBw B m k ta fa tl tc fl fc w hB hB0 hmo hr he oz).mono fun _ _ h=>aJ1 he oz h
 ·exact(aKy B m fn ta fa tl tc fl fc w hB hB0 hmo hr he).mono fun _ _ h=>yD h (aCd he)
theorem aIc (B:Nat) (m:bA) (fn:Int) (ta fa:Option Addr) (tl tc fl fc:Nat) (w:World) (hB:B<=w.heap.size) (hB0:0<B) (hmo:cP B w (.agg #[.slice ta tl tc,.slice fa fl fc]) m) :
 Calls Tryz.prog 7 #[.agg #[.slice ta tl tc,.slice fa fl fc],.int .i64 fn] w (sU m fn w):=by
 by_cases he:(dS m).e=0
 ·by_cases hf:fn<0\/(m.funcs.length:Int)<=fn
  ·exact(zD B m fn 1 ta fa tl tc fl fc w hB hmo dc (fun w' h1 h2=>aNe B m fn ta fa tl tc fl fc w' h1 hB0 h2 he hf)).mono fun _ _ h=>yD h (aBg he hf)
  ·obtain⟨k,rfl⟩:=Int.eq_ofNat_of_zero_le (show 0<=fn by omega);exact(aL7 B m k ta fa tl tc fl fc w hB hB0 hmo he oz).mono fun _ _ h=>aJ1 he oz h
 ·exact(zD B m fn (dS m).e ta fa tl tc fl fc w hB hmo he (fun w' h1 h2=>aPp B m fn ta fa tl tc fl fc w' h1 hB0 h2 he)).mono fun _ _ h=>yD h (aCd he)
theorem iT.form {N M:Nat}{w:World}{m:bA}{tb tcap:Nat}{fv:Value}{zs:List (aC×K4)}(h:iT N M w m tb tcap fv zs):∃ a c,fv=.slice a zs.length c:=by
 obtain⟨_,_,_,_,hr⟩:=h;exact pK hr.row
theorem iT.below {N M:Nat}{w w':World}{m:bA}{tb tcap:Nat}{fv:Value}{zs:List (aC×K4)}(h:iT N M w m tb tcap fv zs) (hb:Below w.heap.size w w'):iT N M w' m tb tcap fv zs :=
 h.chg (S:=fun _=>False) (aG.of hb) (fun e=>e) (fun _ _ e=>e) (fun _ _=>⟨fun e=>e,fun e=>e⟩)
theorem aV4 {B B':Nat}{w:World}{v:Value}{m:bA}(h:cP B w v m) (hB:B<=B'):cP B' w v m:=by
 obtain⟨ta,tl,tc,fa,fl,fc,rfl,h1,h2,h3,b,o,h4,H,h5⟩:=h;refine⟨ta,tl,tc,fa,fl,fc,rfl,h1.monoB hB,h2,h3,b,o,fun h=>⟨(h4 h).1,Nat.lt_of_lt_of_le (h4 h).2 hB⟩,H,fun i hi=>?_⟩;obtain⟨c,n1,⟨s1,s2,sb,so,s3,s4⟩,⟨c1,c2,cb,co,c3,c4⟩,r⟩:=h5 i hi;exact⟨c,n1,⟨s1,s2,sb,so,fun h=>⟨(s3 h).1,Nat.lt_of_lt_of_le (s3 h).2 hB⟩,s4⟩,⟨c1,c2,cb,co,fun h=>⟨(c3 h).1,Nat.lt_of_lt_of_le (c3 h).2 hB⟩,c4⟩,r⟩
theorem xV {w:World}{a:Option Addr}{c:Nat}{l:List Int}(h:w.ownsRow 0 34 1 (.slice a l.length c) l.length (nT l)) (hm:l.length<=1024):lN w a l.length l:=by
 obtain⟨a',c',e,h2⟩:=lN.ofRow h bH;injection e with e1 e2 e3;subst e1;exact h2
theorem aEe (a1 a2:Option Addr) (n c1 c2:Nat) (l:List Int) (w:World) (h1:lN w a1 n l) (h2:lN w a2 n l):Calls Tryz.prog 10 #[.slice a1 n c1,.slice a2 n c2] w fun e w'=>e=.returned (.bool true)/\Below w.heap.size w w':=by
 have h:=vH a1 a2 n n c1 c2 l l w h1 h2;have hd:decide (l=l)=true:=si
 rw[hd]at h;exact h
/-- the law -/
theorem aU4 (m:bA) (fn:Int) (ta fa:Option Addr) (tl tc fl fc:Nat) (w:World) (hmo:cP w.heap.size w (.agg #[.slice ta tl tc,.slice fa fl fc]) m) (hs:aGs m) (hr:eO w) :
 Calls Tryz.prog 3 #[.agg #[.slice ta tl tc,.slice fa fl fc],.int .i64 fn] w fun e w'=>e=.returned (.bool true)/\Below w.heap.size w w':=by
 have hr1:=hr.1;have HR:=qd (fun w' (h:Below w.heap.size w w')=>hr.same (aQ.of h lr) hr.1 h.size);have HMO:=qd (fun w' (h:Below w.heap.size w w')=>hmo.same (aQ.of h lr));have HCp:=qd (fun w' (h:Below w.heap.size w w')=>aR0 (B:=w.heap.size) (.agg #[.slice ta tl tc,.slice fa fl fc]) m w' h.size (HMO.out w' h) hs);have HF:=qd (fun w' (h:Below w.heap.size w w')=>aEq w' (HR.out w' h));have HM0:=qd hmo;clear hmo hs hr;go_enter Tryz.func3,Tryz.ntmps3;go_upto_region 1 with(fail)
 generalize hW0:World.alloc _ _=W0;have hb0:Below w.heap.size w W0:=by rw[<-hW0];exact bel
 have OM:aF W0 w.heap.size [.slice ta tl tc,.slice fa fl fc]:=uS
 have m2:=aD OM;have hz0:=hb0.size;have HC:=qd (HCp.out W0 hb0);clear hW0 HCp;unfold aBh at HC;go_upto_region 2 with(first|(go_at_call 5;refine HC.out.mono ?_;rintro e w1 ⟨M,tb,tcap,fv,zs,rfl,hb1,hM1,hF1⟩;obtain⟨ga,gc,rfl⟩:=hF1.form)|fail)
 generalize hW2:World.alloc _ _=W2;have hb12:Below w1.heap.size w1 W2:=by rw[<-hW2];exact eN
 have OO:aF W2 w1.heap.size [.slice (some ⟨tb,0,none⟩) m.thr.length tcap,.slice ga zs.length gc]:=uR
 have hz1:=hb1.size;have hz2:=hb12.size;have hb2:Below w.heap.size w W2:=(hb0.trans (hb1.mono oz)).trans (hb12.mono oz);have OM2:=(OM.below hb1).below hb12;have HF2:=qd (hF1.below hb12);have o2:=aD OO;have HO1:=qd (aB0 W2.heap.size m fn (some ⟨tb,0,none⟩) ga m.thr.length tcap zs.length gc W2 lr oz (HF2.out.at_ HM0.out) (HR.out W2 hb2));unfold sU at HO1;clear hW2 HC OM m2 hF1 hb12;go_upto_region 3 with(first|(go_at_call 6;refine HO1.out.mono ?_;rintro e w3 ⟨a3,c3,rs,E,rfl,hrow3,hb3,hf3,hl3,hR3⟩)|fail)
 have hz3:=hb3.size;have hb3w:Below w.heap.size w w3:=hb2.trans (hb3.mono oz);have m3:=aD (OM2.below hb3);have HO2:=qd (aIc w.heap.size m fn ta fa tl tc fl fc w3 hb3w.size hr1 (HMO.out w3 hb3w));unfold sU at HO2;have HR3:=qd hR3;have HW3:=qd hrow3;have HF3:=qd hf3;clear o2 HO1 hR3 hrow3 hf3;go_upto_region 4 with(first|(go_at_call 7;refine HO2.out.mono ?_;rintro e w4 ⟨a4,c4,rs4,E4,rfl,hrow4,hb4,hf4,hl4,hR4⟩)|fail)
 obtain⟨rfl,rfl⟩:=HR3.out.uniq hR4;have hz4:=hb4.size;have hb4w:Below w.heap.size w w4:=hb3w.trans (hb4.mono oz);have hb24:Below W2.heap.size W2 w4:=hb3.trans (hb4.mono hz3);have m4:=aD ((OM2.below hb3).below hb4);have o4:=aD ((OO.below hb3).below hb4);have HS:=qd (aNo w4.heap.size m _ _ w4 lr ((HF2.out.below hb24).at_ HM0.out) (aV4 (HMO.out w4 hb4w) hb4w.size));have HW4:=qd hrow4;have HF4:=qd hf4;clear m3 HO2 hR4 hrow4 hf4;go_upto_region 5 with(first|(go_at_call 8;refine HS.out.mono ?_;rintro e w5 ⟨rfl,hb5⟩)|fail)
 have hz5:=hb5.size;have hb5w:Below w.heap.size w w5:=hb4w.trans (hb5.mono oz);have hne:(E4 != E4)=false:=si
 clear m4 o4 HS;go_upto_region 7 with(first|(go_at_call 9;refine(HF.out w5 hb5w).mono ?_;rintro e w6 ⟨rfl,hb6⟩;have hu3:=qd (xV (aA hb6 (aA hb5 (aA hb4 HW3.out))) hl3);have hu4:=qd (xV (aA hb6 (aA hb5 HW4.out)) hl3))|(go_at_call 10;refine(aEe a3 a4 _ c3 c4 _ w6 hu3.out hu4.out).mono ?_;rintro e w7 ⟨rfl,hb7⟩)|fail)
 have hz6:=hb6.size;have hz7:=hb7.size;have hb47:Below w4.heap.size w4 w7:=(hb5.trans (hb6.mono hz5)).trans (hb7.mono oz);have HL0:=qd (aA hb47 (aA hb4 HW3.out));have HW4b:=qd (aA hb47 HW4.out);clear hu3 hu4 hne hb5 hb6 hb7 hb0 hb1;go_upto_region 8 with(fail)
 go_loopw [11] (fun v wr=>∃ (j:Nat) (xs:List Value),j<=rs4.length/\v=.int .i64 j/\Hid (wr.ownsRow 0 34 1 (.slice a3 rs4.length c3) rs4.length xs)/\aG (fun k=>(Value.slice a3 rs4.length c3).ownBlock=some k) w7 wr) (fun v _=>rs4.length-(intOf v).toNat)
 case atStart=>exact⟨0,_,Nat.zero_le _,rfl,HL0,aG.refl _ _⟩
 case round =>
  clear HL0;obtain⟨j,xs,hj,rfl,HX,hC⟩:=hrel;have hzr:=hC.size;by_cases hlt:j<rs4.length
  ·have d3:(j:Int)<(rs4.length:Int):=oz
   have hwk:IntKind.i64.wrap ((j:Int)+1)=(j:Int)+1:=IntWalk.i64_in _ oz;obtain⟨-,b,rfl⟩:=aG7 HX.out oz;have hxl:xs.length=rs4.length:=by have:=HX.out.1;simpa using this
   obtain⟨x,hx⟩:∃ x,xs[j]? = some x:=⟨_,List.getElem?_eq_getElem oz⟩
   have x0:=aH HX.out hx;have x1:=HX.out.frozenAt j;have hbl:=bJ HX.out;have HC:=qd hC;clear hx hxl hC;go_wp2;refine⟨⟨j+1,xs.set j (.int .u64 77),oz,si,qd (cH HX.out j _),HC.out.trans (aG.setCell (aG.refl _ _) (p:=⟨b,j,none⟩) (.inl (show(Value.slice (some ⟨b,0,none⟩) rs4.length c3).ownBlock=some b from rfl)) _)⟩,?_⟩;go_light;exact ml
  ·obtain rfl:j=rs4.length:=oz
   have d3:¬(rs4.length:Int)<(rs4.length:Int):=oz
   go_upto_region 12 with(first|(at_builtin;refine bO rfl (.tmp 57) (.tmp 58) 27 34 1 8 (.int .u64 0) rfl Tryz.underlying27 kr rfl dc _ _ _ rfl (aA eN HX.out) ⟨wr.heap.size,0,none⟩ 1 1 (nT [5]) rfl rfl (cC (aF.new' _ _ _ _ rfl)) (aCp _) bH oz dc ?_;intro g4 c9 w9 hr9 hc9 hg9)|fail)
   have hcA:aG (fun k=>(Value.slice a3 rs4.length c3).ownBlock=some k) w7 w9:=hC.trans ((aG.of eN).trans hc9);have hlow:∀ k,(Value.slice a3 rs4.length c3).ownBlock=some k->W2.heap.size<=k/\k<w3.heap.size:=fun k hk=>⟨HF3.out k hk,cA HW3.out hk⟩
   have hz9:=hcA.size;have hb29:Below W2.heap.size W2 w9:=(hb24.trans (hb47.mono oz)).trans (hcA.below _ oz (fun k hk e=>by have:=(hlow k e).1;omega));have hb9w:Below w.heap.size w w9:=hb2.trans (hb29.mono hb2.size);have HW9:=qd (aN hcA HW4b.out (fun k hk e=>by have h1:=(hlow k e).2;have h2:=HF4.out k hk;omega));have o9:=aD (OO.below hb29);have HO3:=qd (aB0 w9.heap.size m fn (some ⟨tb,0,none⟩) ga m.thr.length tcap zs.length gc w9 lr oz ((HF2.out.below hb29).at_ HM0.out) (HR.out w9 hb9w));unfold sU at HO3;clear hr9 hc9 hg9 hlow hC HX;go_upto_region 13 with(first|(go_at_call 6;refine HO3.out.mono ?_;rintro e w10 ⟨a5,c5,rs5,E5,rfl,hrow5,hb10,hf5,hl5,hR5⟩)|fail)
   obtain⟨rfl,rfl⟩:=HR3.out.uniq hR5;have hu5:=qd (xV hrow5 hl5);have hu6:=qd (xV (aA hb10 HW9.out) hl5);clear hrow5 hf5 hR5 o9 HO3;go_wp2_with (first|(go_at_call 10;refine(aEe a5 a4 _ c5 c4 _ w10 hu5.out hu6.out).mono ?_;rintro e w11 ⟨rfl,hb11⟩)|fail)
   go_ret;exact⟨rfl,(hb9w.trans (hb10.mono hb9w.size)).trans (hb11.mono (by have:=hb9w.size;have:=hb10.size;omega))⟩
end Go.Proofs.YteebpnbdihcfmaaGreatDoor
