/- Package bounds -/
import Derived.Test.YteebpnbdihcfmaaGreatDoorJ14
set_option linter.unusedVariables false
set_option linter.unusedSimpArgs false
set_option maxRecDepth 100000
set_option maxHeartbeats 20000000
namespace Go.Proofs.YteebpnbdihcfmaaGreatDoor
open Go.RowKit
theorem aQz (x:dJ) (B:Nat) (m:bA) (hh:HF) (f:aC) (ta fa:Option Addr) (tl tc fl fc:Nat) (frm:Nat) (to_:Int) (b n c:Nat) (r:List aB) (w:World) (hB:B<=w.heap.size) (hf:aZ B w hh f) (hfl:frm<f.code.length) (hn1:f.code.length<=1024) (hx:f.code.getD frm default=x) (hi:cY m f x) (hr:bF w b n c r) (hrg:(n:Int)=f.regs) (hn:n<=64) (hop:x.op=10) (hrok:gU n r):Calls Tryz.prog 47 #[.agg #[.slice ta tl tc,.slice fa fl fc],aI hh f,.int .i64 frm,.int .i64 to_,.slice (some ⟨b,0,none⟩) n c] w (dX b n c w (lL x r)):=by
 obtain⟨pa,pl,pc,cb,co,cc,rfl,hcm,hcB,⟨g0,g1,g2,g3,g4⟩,hcbl,hcb1,hcb2,hcb3,hfr,hwf⟩:=dW hB hf hfl hn1 hx;clear hf;unfold aI;dsimp only;have hbl:=hr.lt;obtain⟨op,xa,xb,xc,xn⟩:=x;obtain⟨v1,v2,v3,v4,v5,v6,v7,v8,v9,v10⟩:=hi;dsimp only at *;subst hop;have hmf:=@mkF Tryz.prog;go_enter Tryz.func47,Tryz.ntmps47;go_upto_region 2 with(fail)
 generalize hW0:World.alloc _ _=W0;obtain⟨hb0,OM,OF,OR,OX,hz0⟩:=eS hW0;clear hW0 g0 g1 g2 g3 g4;have hr0:=hr.below hb0;have x5:=aX OX;have o1:=dG OR;go_cut [12] (fun v wx=>v=.bool (decide (to_=xn)&&decide (xn≠(frm:Int)+1))/\wx=W0)
 case first =>
  exact tM
 case rest =>
  obtain⟨rfl,rfl⟩:=hcut;obtain⟨wb,hwb⟩:∃ wb:World,wb=wc:=⟨_,rfl⟩
  subst hwb;generalize hfar:(decide (to_=xn)&&decide (xn≠(frm:Int)+1))=far;have HFAR:=qd hfar;clear hfar;obtain⟨ka,rfl⟩:=Int.eq_ofNat_of_zero_le v3;have hka:ka<n:=oz
  have hka2:(ka:Int)<(n:Int):=oz
  obtain⟨r0,r1,r2,r3⟩:=hr0.cells hka;obtain⟨kb,rfl⟩:=Int.eq_ofNat_of_zero_le v5;have hkb:kb<n:=oz
  have hkb2:(kb:Int)<(n:Int):=oz
  obtain⟨t0,t1,t2,t3⟩:=hr0.cells hkb;obtain⟨kc,rfl⟩:=Int.eq_ofNat_of_zero_le v7;have hkc:kc<n:=oz
  have hkc2:(kc:Int)<(n:Int):=oz
  go_upto_region 17 with(fail)
  have hL:=hrok;have hpb:dL (r.getD kb default):=hL.2 kb oz;have hpc:dL (r.getD kc default):=hL.2 kc oz;have HD:=qd (fun w=>aEy 10 (r.getD kb default) (r.getD kc default) w oz hpb hpc);have hres:lL ⟨10,ka,kb,kc,xn⟩ r=if(aS 10 (r.getD kb default) (r.getD kc default)).2 then some (r.set ka (aS 10 (r.getD kb default) (r.getD kc default)).1)else none:=by
   unfold lL fI eC;simp
  have hcf:∀ (args:Array Value) (w:World),(callFunc 85 args).run Tryz.prog w=.ok (.enter 85 args) w:=fun _ _=>rfl;have HRES:=qd hres;clear hres hpb hpc hL hrok x5 o1 r0 r1 r2 r3 t0 t1 t2 t3;have HSS:Hid (∀ w',Below wb.heap.size wb w'->w'.cell? ⟨w.heap.size+1+1,0,none⟩=some (.slice (some ⟨b,0,none⟩) n c)/\w'.cell? ⟨w.heap.size+1+1+1,0,none⟩=some (.int .i64 10)/\w'.cell? ⟨w.heap.size+1+1+1,2,none⟩=some (.int .i64 kb)/\w'.cell? ⟨w.heap.size+1+1+1,3,none⟩=some (.int .i64 kc) /\
   w'.cell? ⟨b,kb*2,none⟩=some (.int .i64 (r.getD kb default).lo)/\w'.cell? ⟨b,kb*2+1,none⟩=some (.int .i64 (r.getD kb default).hi)/\w'.cell? ⟨b,kc*2,none⟩=some (.int .i64 (r.getD kc default).lo)/\w'.cell? ⟨b,kc*2+1,none⟩=some (.int .i64 (r.getD kc default).hi)):=qd (fun w' hw=>by
   obtain⟨_,s0,_⟩:=dG (OR.below hw);have x5:=aX (OX.below hw);obtain⟨b0,b1,_,_⟩:=(hr0.below hw).cells hkb;obtain⟨c0,c1,_,_⟩:=(hr0.below hw).cells hkc;exact⟨s0,x5.2.1,x5.2.2.2.1,x5.2.2.2.2.1,b0,b1,c0,c1⟩)
  generalize aS 10 (r.getD kb default) (r.getD kc default)=res at *;obtain⟨⟨rlo,rhi⟩,rok⟩:=res;generalize r.getD kb default=pb at *;generalize r.getD kc default=pc at *;obtain⟨blo,bhi⟩:=pb;obtain⟨clo,chi⟩:=pc;dsimp only at HD HSS HRES;have HOX:=qd OX;have HOR:=qd OR;have HR0:=qd hr0;clear OX OR hr0 OM OF hr hmf hx hrg hfr hwf v1 v2 v4 v6 v8 v9 v10 hcm hcB hcbl hcb1 hcb2 hcb3 hfl hn1;have hzw:w.heap.size+4<=wb.heap.size:=hz0;go_cut [14,15] (fun v14 v15 wc=>∃ k:Nat,v14=.pointer (some ⟨k,0,none⟩)/\v15=.bool rok/\Hid (aF wc k [.int .i64 rlo,.int .i64 rhi])/\Below wb.heap.size wb wc/\wb.heap.size<=k)
  case first =>
   generalize hA0:(Act.mk _ _:Act)=a0;have Ee:a0.eval (.tmp 9)=.pointer (some ⟨w.heap.size+1+1,0,none⟩)/\a0.eval (.tmp 11)=.pointer (some ⟨w.heap.size+1+1+1,0,none⟩)/\a0.tmps.size=290:=qB
   refine aE (fun w'=>Below wb.heap.size wb w') kr (Below.refl _ wb).drew ?_;intro K0 hK0 hHeld
   try dsimp only at hHeld
   refine aL 0 rfl ?_;refine aL 1 rfl ?_;refine aL 2 rfl ?_;refine aL 3 rfl ?_;refine aL 4 rfl ?_;refine aL 5 rfl ?_;refine aL 6 rfl ?_;refine aL 7 rfl ?_;refine aL 8 rfl ?_;refine aL 9 rfl ?_;refine aL 10 rfl ?_;refine aL 11 rfl ?_;generalize hA1:(Act.put _ _ _:Act)=a1;replace Ee:a1.eval (.tmp 76)=.int .i64 10/\a1.eval (.tmp 81)=.agg #[.int .i64 blo,.int .i64 bhi]/\a1.eval (.tmp 86)=.agg #[.int .i64 clo,.int .i64 chi]/\a1.tmps.size=290:=oZ;refine wpAnyH_ready (rs:=[12,16]) kr si ?_;refine iB rfl (fun K hK=>?_) (iB rfl (fun K hK=>?_) AllReadyH.nil)
   ·refine aP rfl 85 [.tmp 76,.tmp 81,.tmp 86] #[3,47,47] rfl hcf [.int .i64 10,.agg #[.int .i64 blo,.int .i64 bhi],.agg #[.int .i64 clo,.int .i64 chi]] iD _ (HD.out _) ?_;exact aJc
   ·refine sX ?_;refine hK.out _ _ (bel) fun hHeld=>?_;clear hK K;generalize hA2:(Act.put _ _ _:Act)=a2;replace Ee:a2.eval (.tmp 76)=.int .i64 10/\a2.eval (.tmp 81)=.agg #[.int .i64 blo,.int .i64 bhi]/\a2.eval (.tmp 86)=.agg #[.int .i64 clo,.int .i64 chi]/\a2.eval (.tmp 14)=.pointer (some ⟨wb.heap.size,0,none⟩)/\a2.tmps.size=290:=mQ;refine fD 12 rfl fun K hK=>?_;refine aP rfl 85 [.tmp 76,.tmp 81,.tmp 86] #[3,47,47] rfl hcf [.int .i64 10,.agg #[.int .i64 blo,.int .i64 bhi],.agg #[.int .i64 clo,.int .i64 chi]] iD _ (HD.out _) ?_;rintro v wM ⟨rfl,hbM⟩;have hwM:Below wb.heap.size wb wM:=hHeld.trans (hbM.mono hHeld.size);have hzM:=hwM.size;have pM:=aF.below (aF.drew (aF.new' wb [.int .i64 0,.int .i64 0] 47 wb.heap.size rfl)) hbM;have oM:=aD pM;refine hK.out _ _ (hwM) fun hHeld=>?_;clear hK K;refine aL 13 rfl ?_;refine aL 14 rfl ?_;refine aL 15 rfl ?_;generalize hA3:(Act.put _ _ _:Act)=a3;replace Ee:a3.eval (.tmp 88)=.agg #[.int .i64 rlo,.int .i64 rhi]/\a3.eval (.tmp 89)=.bool rok/\a3.eval (.tmp 14)=.pointer (some ⟨wb.heap.size,0,none⟩)/\a3.tmps.size=290:=rV;refine fD 17 rfl fun K hK=>?_;refine pA ?_;refine hK.out _ _ (bel) fun hHeld=>?_;clear hK K;generalize hA4:(Act.put _ _ _:Act)=a4;replace Ee:a4.eval (.tmp 89)=.bool rok/\a4.tmps.size=290:=xE;refine aL 18 rfl ?_;refine aO kr ?_;refine hK0.out _ _ ?_;subst hA4;subst hA3;subst hA2;subst hA1;subst hA0
    exact aJi
  case rest =>
   obtain⟨k,rfl,rfl,OK,hbd,hkl⟩:=hcut;have hzd:=hbd.size;obtain⟨k0,k1,k2,k3,k4⟩:=aD OK.out;have x5:=aX (HOX.out.below hbd);have o1:=dG (HOR.out.below hbd);have HRd:=qd (HR0.out.below hbd);obtain⟨r0,r1,r2,r3⟩:=HRd.out.cells hka;have hbl2:b<wc.heap.size:=HRd.out.lt;cases rok
   ·go_wp2;exact aTr
   ·go_wp2;exact aOw
theorem aGv (x:dJ) (B:Nat) (m:bA) (hh:HF) (f:aC) (ta fa:Option Addr) (tl tc fl fc:Nat) (frm:Nat) (to_:Int) (b n c:Nat) (r:List aB) (w:World) (hB:B<=w.heap.size) (hf:aZ B w hh f) (hfl:frm<f.code.length) (hn1:f.code.length<=1024) (hx:f.code.getD frm default=x) (hi:cY m f x) (hr:bF w b n c r) (hrg:(n:Int)=f.regs) (hn:n<=64) (hop:x.op=13):Calls Tryz.prog 47 #[.agg #[.slice ta tl tc,.slice fa fl fc],aI hh f,.int .i64 frm,.int .i64 to_,.slice (some ⟨b,0,none⟩) n c] w (dX b n c w (aGz (fQ r x.a.toNat ⟨0,wrap64 (x.n-1)⟩))):=by
 obtain⟨RES,hRES⟩:∃ q,q=(aGz (fQ r x.a.toNat ⟨0,wrap64 (x.n-1)⟩)):=⟨_,rfl⟩
 rw[<-hRES];have HRES:=qd hRES;clear hRES;obtain⟨pa,pl,pc,cb,co,cc,rfl,hcm,hcB,⟨g0,g1,g2,g3,g4⟩,hcbl,hcb1,hcb2,hcb3,hfr,hwf⟩:=dW hB hf hfl hn1 hx;clear hf;unfold aI;dsimp only;have hbl:=hr.lt;obtain⟨op,xa,xb,xc,xn⟩:=x;obtain⟨v1,v2,v3,v4,v5,v6,v7,v8,v9,v10⟩:=hi;dsimp only at *;subst hop;have hmf:=@mkF Tryz.prog;go_enter Tryz.func47,Tryz.ntmps47;go_upto_region 2 with(fail)
 generalize hW0:World.alloc _ _=W0;obtain⟨hb0,OM,OF,OR,OX,hz0⟩:=eS hW0;clear hW0 g0 g1 g2 g3 g4;have hr0:=hr.below hb0;have x5:=aX OX;have o1:=dG OR;go_cut [12] (fun v wx=>v=.bool (decide (to_=xn)&&decide (xn≠(frm:Int)+1))/\wx=W0)
 case first =>
  exact tM
 case rest =>
  obtain⟨rfl,rfl⟩:=hcut;obtain⟨wb,hwb⟩:∃ wb:World,wb=wc:=⟨_,rfl⟩
  subst hwb;generalize hfar:(decide (to_=xn)&&decide (xn≠(frm:Int)+1))=far;have HFAR:=qd hfar;clear hfar;obtain⟨ka,rfl⟩:=Int.eq_ofNat_of_zero_le v3;have hka:ka<n:=oz
  have hka2:(ka:Int)<(n:Int):=oz
  obtain⟨r0,r1,r2,r3⟩:=hr0.cells hka;have hne:b≠w.heap.size+1+1:=oz
  have HM:=qd (nW ka ⟨0,wrap64 (xn-1)⟩ (w.heap.size+1+1) b n c r wb OR hr0 hka hne hn);have hres:=HRES.out;clear HRES;rw[Int.toNat_natCast]at hres;generalize fQ r ka ⟨0,wrap64 (xn-1)⟩=q at *;exact aUg
theorem aQg {p:Prop}(h:p:=by
 have hres2:RES=none:=by rw[hres];rfl
 clear hres;go_wp2_with (first|(go_at_call 83;refine HM2.out.mono ?_;rintro e w9 ⟨rfl,hr9,hc9⟩)|fail)
 go_ret;go_light;rw[hres2];exact⟨rfl,(aG.of hb13).trans hc9,fun out ho=>by cases ho⟩):p:=h
theorem aUo {p:Prop}(h:p:=by
 have hres2:RES=none:=by rw[hres];rfl
 clear hres;go_wp2_with (first|(go_at_call 87;refine(HW.out _).mono ?_;rintro e w1 ⟨rfl,hb1⟩)|fail)
 go_ret;go_light;rw[hres2];exact⟨rfl,aG.of (hb0.trans ((hb1.mono oz).trans (eN |>.mono (by have:=hb1.size;omega)))),fun out ho=>by cases ho⟩):p:=h
theorem aHd (x:dJ) (B:Nat) (m:bA) (hh:HF) (f:aC) (ta fa:Option Addr) (tl tc fl fc:Nat) (frm:Nat) (to_:Int) (b n c:Nat) (r:List aB) (w:World) (hB:B<=w.heap.size) (hf:aZ B w hh f) (hfl:frm<f.code.length) (hn1:f.code.length<=1024) (hx:f.code.getD frm default=x) (hi:cY m f x) (hr:bF w b n c r) (hrg:(n:Int)=f.regs) (hn:n<=64) (hop:x.op=12):Calls Tryz.prog 47 #[.agg #[.slice ta tl tc,.slice fa fl fc],aI hh f,.int .i64 frm,.int .i64 to_,.slice (some ⟨b,0,none⟩) n c] w (dX b n c w (mI x f.words r)):=by
 obtain⟨RES,hRES⟩:∃ q,q=(mI x f.words r):=⟨_,rfl⟩
 rw[<-hRES];have HRES:=qd hRES;clear hRES;obtain⟨pa,pl,pc,cb,co,cc,rfl,hcm,hcB,⟨g0,g1,g2,g3,g4⟩,hcbl,hcb1,hcb2,hcb3,hfr,hwf⟩:=dW hB hf hfl hn1 hx;clear hf;unfold aI;dsimp only;have hbl:=hr.lt;obtain⟨op,xa,xb,xc,xn⟩:=x;obtain⟨v1,v2,v3,v4,v5,v6,v7,v8,v9,v10⟩:=hi;dsimp only at *;subst hop;have hmf:=@mkF Tryz.prog;go_enter Tryz.func47,Tryz.ntmps47;go_upto_region 2 with(fail)
 generalize hW0:World.alloc _ _=W0;obtain⟨hb0,OM,OF,OR,OX,hz0⟩:=eS hW0;clear hW0 g0 g1 g2 g3 g4;have hr0:=hr.below hb0;have x5:=aX OX;have o1:=dG OR;go_cut [12] (fun v wx=>v=.bool (decide (to_=xn)&&decide (xn≠(frm:Int)+1))/\wx=W0)
 case first =>
  exact tM
 case rest =>
  obtain⟨rfl,rfl⟩:=hcut;obtain⟨wb,hwb⟩:∃ wb:World,wb=wc:=⟨_,rfl⟩
  subst hwb;generalize hfar:(decide (to_=xn)&&decide (xn≠(frm:Int)+1))=far;have HFAR:=qd hfar;clear hfar;obtain⟨ka,rfl⟩:=Int.eq_ofNat_of_zero_le v3;have hka:ka<n:=oz
  have hka2:(ka:Int)<(n:Int):=oz
  obtain⟨r0,r1,r2,r3⟩:=hr0.cells hka;obtain⟨kb,rfl⟩:=Int.eq_ofNat_of_zero_le v5;have hkb:kb<n:=oz
  have hkb2:(kb:Int)<(n:Int):=oz
  obtain⟨t0,t1,t2,t3⟩:=hr0.cells hkb;have hne:b≠w.heap.size+1+1:=oz
  have HW:=qd (fun w=>aCk xn f.words w);have f5:=aX OF;have hmem:mI ⟨12,ka,kb,xc,xn⟩ f.words r=(if(fJ xn f.words).2=false then none else if(fQ r kb (fJ xn f.words).1).2 then some ((fQ r kb (fJ xn f.words).1).1)else none):=by
   unfold mI;simp
  have hres:=HRES.out;rw[hmem]at hres;clear HRES hmem t0 t1 t2 t3;generalize fJ xn f.words=wp at *;obtain⟨⟨lo,hi⟩,ok⟩:=wp;have HM:=qd (fun w' h1 h2=>nW kb ⟨lo,hi⟩ (w.heap.size+1+1) b n c r w' h1 h2 hkb hne hn);unfold aJ at HW HM;dsimp only at HW HM hres;have hrr:=qd (rfl:r=r);cases ok
  ·exact aUo
  ·go_upto_region 28 with(first|(go_at_call 87;refine(HW.out _).mono ?_;rintro e w1 ⟨rfl,hb1⟩)|fail)
   generalize hW3:World.alloc _ _=W3;have hz1:=hb1.size;have hb3:Below wb.heap.size wb W3:=by rw[<-hW3];exact bel
   have hz3:=hb3.size;have OS:aF W3 w1.heap.size [.int .i64 lo,.int .i64 hi]:=by rw[<-hW3];exact aF.new _ _ _
   have OX3:=OX.below hb3;have OR3:=OR.below hb3;have hr3:=hr0.below hb3;have HM2:=qd (HM.out W3 OR3 hr3);have hb13:Below w.heap.size w W3:=hb0.trans (hb3.mono oz);have x3:=aX OX3;have o3:=dG OR3;have g3:=aD OS;clear HM HW hW3 f5 x5 o1 OF OM OX OR hr0 hb1;clear r0 r1 r2 r3;generalize fQ r kb ⟨lo,hi⟩=q at *;obtain⟨q,ok⟩:=q;dsimp only at HM2 hres;cases ok
   ·exact aQg
   ·have hres2:RES=some (q):=by rw[hres];rfl
    have HRES2:=qd hres2;clear hres hres2;go_wp2_with (first|(go_at_call 83;refine HM2.out.mono ?_;rintro e w9 ⟨rfl,hr9,hc9⟩;have hz9:=hc9.size;have x9:=aX (hc9.own OX3 (by show ¬(_=b);omega)))|fail)
    go_ret;go_light;rw[HRES2.out];exact⟨rfl,(aG.of hb13).trans hc9,fun out ho=>by cases ho;exact hr9⟩
theorem aKz (x:dJ) (B:Nat) (m:bA) (hh:HF) (f:aC) (ta fa:Option Addr) (tl tc fl fc:Nat) (frm:Nat) (to_:Int) (b n c:Nat) (r:List aB) (w:World) (hB:B<=w.heap.size) (hf:aZ B w hh f) (hfl:frm<f.code.length) (hn1:f.code.length<=1024) (hx:f.code.getD frm default=x) (hi:cY m f x) (hr:bF w b n c r) (hrg:(n:Int)=f.regs) (hn:n<=64) (hop:x.op=11):Calls Tryz.prog 47 #[.agg #[.slice ta tl tc,.slice fa fl fc],aI hh f,.int .i64 frm,.int .i64 to_,.slice (some ⟨b,0,none⟩) n c] w (dX b n c w (mI x f.words r)):=by
 obtain⟨RES,hRES⟩:∃ q,q=(mI x f.words r):=⟨_,rfl⟩
 rw[<-hRES];have HRES:=qd hRES;clear hRES;obtain⟨pa,pl,pc,cb,co,cc,rfl,hcm,hcB,⟨g0,g1,g2,g3,g4⟩,hcbl,hcb1,hcb2,hcb3,hfr,hwf⟩:=dW hB hf hfl hn1 hx;clear hf;unfold aI;dsimp only;have hbl:=hr.lt;obtain⟨op,xa,xb,xc,xn⟩:=x;obtain⟨v1,v2,v3,v4,v5,v6,v7,v8,v9,v10⟩:=hi;dsimp only at *;subst hop;have hmf:=@mkF Tryz.prog;go_enter Tryz.func47,Tryz.ntmps47;go_upto_region 2 with(fail)
 generalize hW0:World.alloc _ _=W0;obtain⟨hb0,OM,OF,OR,OX,hz0⟩:=eS hW0;clear hW0 g0 g1 g2 g3 g4;have hr0:=hr.below hb0;have x5:=aX OX;have o1:=dG OR;go_cut [12] (fun v wx=>v=.bool (decide (to_=xn)&&decide (xn≠(frm:Int)+1))/\wx=W0)
 case first =>
  exact tM
 case rest =>
  obtain⟨rfl,rfl⟩:=hcut;obtain⟨wb,hwb⟩:∃ wb:World,wb=wc:=⟨_,rfl⟩
  subst hwb;generalize hfar:(decide (to_=xn)&&decide (xn≠(frm:Int)+1))=far;have HFAR:=qd hfar;clear hfar;obtain⟨ka,rfl⟩:=Int.eq_ofNat_of_zero_le v3;have hka:ka<n:=oz
  have hka2:(ka:Int)<(n:Int):=oz
  obtain⟨r0,r1,r2,r3⟩:=hr0.cells hka;obtain⟨kb,rfl⟩:=Int.eq_ofNat_of_zero_le v5;have hkb:kb<n:=oz
  have hkb2:(kb:Int)<(n:Int):=oz
  obtain⟨t0,t1,t2,t3⟩:=hr0.cells hkb;have hne:b≠w.heap.size+1+1:=oz
  have HW:=qd (fun w=>aCk xn f.words w);have f5:=aX OF;have hmem:mI ⟨11,ka,kb,xc,xn⟩ f.words r=(if(fJ xn f.words).2=false then none else if(fQ r kb (fJ xn f.words).1).2 then some (eC (fQ r kb (fJ xn f.words).1).1 ka kO)else none):=by
   unfold mI;simp
  have hres:=HRES.out;rw[hmem]at hres;clear HRES hmem t0 t1 t2 t3;generalize fJ xn f.words=wp at *;obtain⟨⟨lo,hi⟩,ok⟩:=wp;have HM:=qd (fun w' h1 h2=>nW kb ⟨lo,hi⟩ (w.heap.size+1+1) b n c r w' h1 h2 hkb hne hn);unfold aJ at HW HM;dsimp only at HW HM hres;have hrr:=qd (rfl:r=r);cases ok
  ·exact aUo
  ·go_upto_region 28 with(first|(go_at_call 87;refine(HW.out _).mono ?_;rintro e w1 ⟨rfl,hb1⟩)|fail)
   generalize hW3:World.alloc _ _=W3;have hz1:=hb1.size;have hb3:Below wb.heap.size wb W3:=by rw[<-hW3];exact bel
   have hz3:=hb3.size;have OS:aF W3 w1.heap.size [.int .i64 lo,.int .i64 hi]:=by rw[<-hW3];exact aF.new _ _ _
   have OX3:=OX.below hb3;have OR3:=OR.below hb3;have hr3:=hr0.below hb3;have HM2:=qd (HM.out W3 OR3 hr3);have hb13:Below w.heap.size w W3:=hb0.trans (hb3.mono oz);have x3:=aX OX3;have o3:=dG OR3;have g3:=aD OS;clear HM HW hW3 f5 x5 o1 OF OM OX OR hr0 hb1;clear r0 r1 r2 r3;generalize fQ r kb ⟨lo,hi⟩=q at *;obtain⟨q,ok⟩:=q;dsimp only at HM2 hres;cases ok
   ·exact aQg
   ·have hres2:RES=some (eC q ka kO):=by rw[hres];rfl
    have HRES2:=qd hres2;clear hres hres2;go_upto_region 31 with(first|(go_at_call 83;refine HM2.out.mono ?_;rintro e w9 ⟨rfl,hr9,hc9⟩;have hz9:=hc9.size;have x9:=aX (hc9.own OX3 (by show ¬(_=b);omega));have o9:=dG (hc9.own OR3 (by show ¬(_=b);omega));have HR9:=qd hr9;have HC9:=qd hc9;clear hr9 hc9;obtain⟨p0,p1,p2,p3⟩:=HR9.out.cells hka)|fail)
    clear x3 o3 OX3 OR3;have hbL9:=HR9.out.lt;have HAl:=qd tA;unfold aJ at HAl;refine bI 4 kr kr (fun T F hF hall=>?_);simp only[TD];have hFc:=fun t=>(bT (hF t)).1;have hFf:=fun t=>(bT (hF t)).2;have hFs:=fun t=>(hF t).size;have hNE:Nonempty T:=(hall _ (Below.refl _ _)).elim fun t _=>⟨t⟩;repeat(refine aU (fun K hK=>?_);go_simp;refine hK _ ?_;clear hK K)
    (refine aU (fun K hK=>?_);go_simp;refine⟨_,fun t=>bE (hF t) hall (HAl.out (F t)),hK _ ?_⟩;clear hK K)
    repeat(refine aU (fun K hK=>?_);go_simp;refine hK _ ?_;clear hK K)
    refine gX (fun t=>?_);have hft:=hF t;go_wp2;go_ret;go_light;rw[HRES2.out];refine⟨rfl,((aG.of hb13).trans (HC9.out.trans (aG.of hft))).trans (jX _ _ _ _ _ _),fun out ho=>?_⟩;cases ho;exact(HR9.out.below hft).set hka kO
theorem aFb (x:dJ) (B:Nat) (m:bA) (hh:HF) (f:aC) (ta fa:Option Addr) (tl tc fl fc:Nat) (frm:Nat) (to_:Int) (b n c:Nat) (r:List aB) (w:World) (hB:B<=w.heap.size) (hf:aZ B w hh f) (hfl:frm<f.code.length) (hn1:f.code.length<=1024) (hx:f.code.getD frm default=x) (hi:cY m f x) (hr:bF w b n c r) (hrg:(n:Int)=f.regs) (hn:n<=64) (hop:x.op=16):Calls Tryz.prog 47 #[.agg #[.slice ta tl tc,.slice fa fl fc],aI hh f,.int .i64 frm,.int .i64 to_,.slice (some ⟨b,0,none⟩) n c] w (dX b n c w (rT x (decide (to_=x.n)&&decide (x.n≠(frm:Int)+1)) (decide (x.n=(frm:Int)+1)) r)):=by
 obtain⟨RES,hRES⟩:∃ q,q=(rT x (decide (to_=x.n)&&decide (x.n≠(frm:Int)+1)) (decide (x.n=(frm:Int)+1)) r):=⟨_,rfl⟩
 rw[<-hRES];have HRES:=qd hRES;clear hRES;obtain⟨pa,pl,pc,cb,co,cc,rfl,hcm,hcB,⟨g0,g1,g2,g3,g4⟩,hcbl,hcb1,hcb2,hcb3,hfr,hwf⟩:=dW hB hf hfl hn1 hx;clear hf;unfold aI;dsimp only;have hbl:=hr.lt;obtain⟨op,xa,xb,xc,xn⟩:=x;obtain⟨v1,v2,v3,v4,v5,v6,v7,v8,v9,v10⟩:=hi;dsimp only at *;subst hop;have hmf:=@mkF Tryz.prog;go_enter Tryz.func47,Tryz.ntmps47;go_upto_region 2 with(fail)
 generalize hW0:World.alloc _ _=W0;obtain⟨hb0,OM,OF,OR,OX,hz0⟩:=eS hW0;clear hW0 g0 g1 g2 g3 g4;have hr0:=hr.below hb0;have x5:=aX OX;have o1:=dG OR;go_cut [12] (fun v wx=>v=.bool (decide (to_=xn)&&decide (xn≠(frm:Int)+1))/\wx=W0)
 case first =>
  exact tM
 case rest =>
  obtain⟨rfl,rfl⟩:=hcut;obtain⟨wb,hwb⟩:∃ wb:World,wb=wc:=⟨_,rfl⟩
  subst hwb;generalize hfar:(decide (to_=xn)&&decide (xn≠(frm:Int)+1))=far;have HFAR:=qd hfar;clear hfar;obtain⟨ka,rfl⟩:=Int.eq_ofNat_of_zero_le v3;have hka:ka<n:=oz
  have hka2:(ka:Int)<(n:Int):=oz
  obtain⟨r0,r1,r2,r3⟩:=hr0.cells hka;have hres:=HRES.out;rw[HFAR.out]at hres;clear HRES HFAR;unfold rT at hres;dsimp only at hres;by_cases h1:xn=(frm:Int)+1
  ·exact aPf
  ·have q9:(xn==(frm:Int)+1)=false:=by simpa using h1
   rw[if_neg (by simpa using h1)]at hres;cases far
   case true =>
    exact aN8
   case false =>
    exact aTs
end Go.Proofs.YteebpnbdihcfmaaGreatDoor
