/- Package bounds: calls -/
import Derived.Test.YteebpnbdihcfmaaGreatDoorJ20
set_option linter.unusedVariables false
set_option linter.unusedSimpArgs false
set_option maxRecDepth 100000
set_option maxHeartbeats 20000000
namespace Go.Proofs.YteebpnbdihcfmaaGreatDoor
open Go.RowKit
theorem bF.setLo {W:World}{b n c:Nat}{r:List aB}(h:bF W b n c r) {i:Nat}(hi:i<n) (x:Int):bF (W.setCell ⟨b,i*2,none⟩ (.int .i64 x)) b n c (r.set i ⟨x,(r.getD i default).hi⟩):=by
 have hl:=h.len;obtain⟨c',h⟩:=h;have h1:=cH h (i*2) (.int .i64 x);have e:(bL r).set (i*2) (.int .i64 x)=bL (r.set i ⟨x,(r.getD i default).hi⟩):=by
  rw[<-mV r i ⟨x,(r.getD i default).hi⟩ (by omega)];dsimp only;apply List.ext_getElem?;intro j;by_cases e:j=i*2+1
  ·subst e;rw[List.getElem?_set_self (by rw[List.length_set,fT];omega),List.getElem?_set_ne (by omega),fZ r i 1 (by omega),List.getElem?_eq_getElem (by omega)];simp[sD,List.getD_eq_getElem?_getD,show i<r.length by omega]
  ·rw[List.getElem?_set_ne (show i*2+1≠j by omega)]
 rw[e]at h1;exact⟨c',h1⟩
theorem aM1 (a b:aB) (w:World) (ha:dL a) (hb:dL b):Calls Tryz.prog 89 #[.agg #[.int .i64 a.lo,.int .i64 a.hi],.agg #[.int .i64 b.lo,.int .i64 b.hi]] w fun e w'=>∃ v,e=.returned v/\v=.tuple #[.agg #[.int .i64 (eP a b).1.lo,.int .i64 (eP a b).1.hi],.agg #[.int .i64 (eP a b).2.1.lo,.int .i64 (eP a b).2.1.hi],.bool (eP a b).2.2]/\Below w.heap.size w w' :=
 (aIk a b w ha.2.2 hb.2.2 ha.1 hb.2.1).mono wP
theorem aFs {p:Prop}(h:p:=by
 rw[<-hA0];exact⟨rfl,rfl,rfl,rfl,rfl⟩):p:=h
theorem aO7 {p:Prop}(h:p:=by
 have HRES2:=qd (show RES=none by rw[hres,hmm,if_neg hle]);clear hres;go_wp2;go_ret;go_light;rw[HRES2.out];exact⟨rfl,(aG.of hw1).trans (aG.setCell (S:=(· = b)) (aG.refl _ _) (p:=⟨b,ka*2,none⟩) (Or.inl rfl) _),fun out ho=>by cases ho⟩):p:=h
theorem aMx {p:Prop}(h:p:=by
 clear hres;go_wp2;go_ret;go_light;rw[HRES2.out];exact⟨rfl,(aG.of hw1).trans (aG.setCell (S:=(· = b)) (aG.refl _ _) (p:=⟨b,ka*2,none⟩) (Or.inl rfl) _),fun out ho=>by cases ho;exact HS.out⟩):p:=h
theorem aGl (x:dJ) (B:Nat) (m:bA) (hh:HF) (f:aC) (ta fa:Option Addr) (tl tc fl fc:Nat) (frm:Nat) (to_:Int) (b n c:Nat) (r:List aB) (w:World) (hB:B<=w.heap.size) (hf:aZ B w hh f) (hfl:frm<f.code.length) (hn1:f.code.length<=1024) (hx:f.code.getD frm default=x) (hi:cY m f x) (hr:bF w b n c r) (hrg:(n:Int)=f.regs) (hn:n<=64) (hop:x.op=17) (hrok:gU n r):Calls Tryz.prog 47 #[.agg #[.slice ta tl tc,.slice fa fl fc],aI hh f,.int .i64 frm,.int .i64 to_,.slice (some ⟨b,0,none⟩) n c] w (dX b n c w (mL x (decide (to_=x.n)&&decide (x.n≠(frm:Int)+1)) (decide (x.n=(frm:Int)+1)) r)):=by
 obtain⟨RES,hRES⟩:∃ q,q=(mL x (decide (to_=x.n)&&decide (x.n≠(frm:Int)+1)) (decide (x.n=(frm:Int)+1)) r):=⟨_,rfl⟩
 rw[<-hRES];have HRES:=qd hRES;clear hRES;obtain⟨pa,pl,pc,cb,co,cc,rfl,hcm,hcB,⟨g0,g1,g2,g3,g4⟩,hcbl,hcb1,hcb2,hcb3,hfr,hwf⟩:=dW hB hf hfl hn1 hx;clear hf;unfold aI;dsimp only;have hbl:=hr.lt;obtain⟨op,xa,xb,xc,xn⟩:=x;obtain⟨v1,v2,v3,v4,v5,v6,v7,v8,v9,v10⟩:=hi;dsimp only at *;subst hop;have hmf:=@mkF Tryz.prog;go_enter Tryz.func47,Tryz.ntmps47;go_upto_region 2 with(fail)
 generalize hW0:World.alloc _ _=W0;obtain⟨hb0,OM,OF,OR,OX,hz0⟩:=eS hW0;clear hW0 g0 g1 g2 g3 g4;have hr0:=hr.below hb0;have x5:=aX OX;have o1:=dG OR;go_cut [12] (fun v wx=>v=.bool (decide (to_=xn)&&decide (xn≠(frm:Int)+1))/\wx=W0)
 case first =>
  exact tM
 case rest =>
  obtain⟨rfl,rfl⟩:=hcut;obtain⟨wb,hwb⟩:∃ wb:World,wb=wc:=⟨_,rfl⟩
  subst hwb;generalize hfar:(decide (to_=xn)&&decide (xn≠(frm:Int)+1))=far;have HFAR:=qd hfar;clear hfar;obtain⟨ka,rfl⟩:=Int.eq_ofNat_of_zero_le v3;have hka:ka<n:=oz
  have hka2:(ka:Int)<(n:Int):=oz
  obtain⟨r0,r1,r2,r3⟩:=hr0.cells hka;obtain⟨kb,rfl⟩:=Int.eq_ofNat_of_zero_le v5;have hkb:kb<n:=oz
  have hkb2:(kb:Int)<(n:Int):=oz
  obtain⟨t0,t1,t2,t3⟩:=hr0.cells hkb;have HBl:=qd (fun w=>aM1 (r.getD ka default) (r.getD kb default) w (hrok.2 ka oz) (hrok.2 kb oz));have hcf:∀ (args:Array Value) (w:World),(callFunc 89 args).run Tryz.prog w=.ok (.enter 89 args) w:=fun _ _=>rfl;have hRES:=HRES.out;clear HRES;rw[HFAR.out]at hRES;unfold mL fI eC at hRES;dsimp only at hRES;rw[Int.toNat_natCast,Int.toNat_natCast]at hRES;generalize eP (r.getD ka default) (r.getD kb default)=q at *;obtain⟨⟨qlo,qhi⟩,q2,qok⟩:=q;obtain⟨pa,hpa⟩:∃ p,r.getD ka default=p:=⟨_,rfl⟩
  obtain⟨pb,hpb⟩:∃ p,r.getD kb default=p:=⟨_,rfl⟩
  rw[hpa]at HBl r0 r1 hRES;rw[hpb]at HBl t0 t1 hRES;obtain⟨alo,ahi⟩:=pa;obtain⟨blo,bhi⟩:=pb;dsimp only at HBl r0 r1 t0 t1 hRES;have HPA:=qd hpa;have HPB:=qd hpb;have HRES:=qd hRES;clear hpa hpb hRES;have hpbq:∀ w',Below wb.heap.size wb w'->w'.cell? ⟨b,kb*2,none⟩=some (.int .i64 blo)/\w'.cell? ⟨b,kb*2+1,none⟩=some (.int .i64 bhi):=fun w' hw=>by
   obtain⟨c0,c1,_,_⟩:=(hr0.below hw).cells hkb;rw[HPB.out]at c0 c1;exact⟨c0,c1⟩
  have HSS:Hid (∀ w',Below wb.heap.size wb w'->w'.cell? ⟨w.heap.size+1+1,0,none⟩=some (.slice (some ⟨b,0,none⟩) n c)/\w'.cell? ⟨w.heap.size+1+1+1,1,none⟩=some (.int .i64 ka)/\w'.cell? ⟨w.heap.size+1+1+1,2,none⟩=some (.int .i64 kb) /\
   w'.cell? ⟨b,ka*2,none⟩=some (.int .i64 alo)/\w'.cell? ⟨b,ka*2+1,none⟩=some (.int .i64 ahi)/\w'.cell? ⟨b,kb*2,none⟩=some (.int .i64 blo)/\w'.cell? ⟨b,kb*2+1,none⟩=some (.int .i64 bhi)):=qd (fun w' hw=>by
   obtain⟨_,s0,_⟩:=dG (OR.below hw);have x5:=aX (OX.below hw);obtain⟨b0,b1,_,_⟩:=(hr0.below hw).cells hka;rw[HPA.out]at b0 b1;exact⟨s0,x5.2.2.1,x5.2.2.2.1,b0,b1,(hpbq w' hw).1,(hpbq w' hw).2⟩)
  go_upto_region 51 with(fail)
  have HOX:=qd OX;have HOR:=qd OR;have HR0:=qd hr0;clear OX OR hr0 OM OF hr hmf hx hrg v1 v2 v4 v6 v8 v9 v10 hcm hcB hcbl hcb1 hcb2 hcb3 hfl hn1 x5 o1 r0 r1 r2 r3 t0 t1 t2 t3;have hzw:w.heap.size+4<=wb.heap.size:=hz0;go_cut [21,22] (fun v21 v22 wc=>∃ k1 k2:Nat,v21=.pointer (some ⟨k1,0,none⟩)/\v22=.pointer (some ⟨k2,0,none⟩)/\Hid (aF wc k1 [.int .i64 alo,.int .i64 ahi])/\Hid (aF wc k2 [.int .i64 blo,.int .i64 bhi])/\Below wb.heap.size wb wc/\wb.heap.size<=k1/\wb.heap.size<=k2)
  case first =>
   clear hfr hwf;generalize hA0:(Act.mk _ _:Act)=a0;have Ee:a0.eval (.tmp 9)=.pointer (some ⟨w.heap.size+1+1,0,none⟩)/\a0.eval (.tmp 11)=.pointer (some ⟨w.heap.size+1+1+1,0,none⟩)/\a0.tmps.size=290:=qB
   refine aE (fun w'=>Below wb.heap.size wb w') kr ((Below.refl _ wb).drew) ?_;intro K0 hK0 hHeld
   try dsimp only at hHeld
   refine aL 0 rfl ?_;refine aL 1 rfl ?_;refine aL 2 rfl ?_;refine aL 3 rfl ?_;refine aL 4 rfl ?_;refine aL 5 rfl ?_;refine aL 6 rfl ?_;refine aL 7 rfl ?_;refine aL 8 rfl ?_;refine aL 9 rfl ?_;generalize hA1:(Act.put _ _ _:Act)=a1;replace Ee:a1.eval (.tmp 242)=.agg #[.int .i64 alo,.int .i64 ahi]/\a1.eval (.tmp 247)=.agg #[.int .i64 blo,.int .i64 bhi]/\a1.tmps.size=290:=oZ;refine wpAnyH_ready (rs:=[10,11]) kr si ?_;refine iB rfl (fun K hK=>?_) (iB rfl (fun K hK=>?_) AllReadyH.nil)
   ·refine sX ?_;refine hK.out _ _ (bel) fun hHeld=>?_;clear hK K;generalize hA2:(Act.put _ _ _:Act)=a2;replace Ee:a2.eval (.tmp 242)=.agg #[.int .i64 alo,.int .i64 ahi]/\a2.eval (.tmp 247)=.agg #[.int .i64 blo,.int .i64 bhi]/\a2.eval (.tmp 21)=.pointer (some ⟨wb.heap.size,0,none⟩)/\a2.tmps.size=290:=mQ;refine fD 11 rfl fun K hK=>?_;refine sX ?_;refine hK.out _ _ (bel) fun hHeld=>?_;clear hK K;generalize hA3:(Act.put _ _ _:Act)=a3;replace Ee:a3.eval (.tmp 242)=.agg #[.int .i64 alo,.int .i64 ahi]/\a3.eval (.tmp 247)=.agg #[.int .i64 blo,.int .i64 bhi]/\a3.eval (.tmp 21)=.pointer (some ⟨wb.heap.size,0,none⟩)/\a3.eval (.tmp 22)=.pointer (some ⟨wb.heap.size+1,0,none⟩)/\a3.tmps.size=290:=rV;refine fD 12 rfl fun K hK=>?_;refine pA ?_;refine hK.out _ _ (bel) fun hHeld=>?_;clear hK K;generalize hA4:(Act.put _ _ _:Act)=a4;replace Ee:a4.eval (.tmp 247)=.agg #[.int .i64 blo,.int .i64 bhi]/\a4.eval (.tmp 21)=.pointer (some ⟨wb.heap.size,0,none⟩)/\a4.eval (.tmp 22)=.pointer (some ⟨wb.heap.size+1,0,none⟩)/\a4.tmps.size=290:=xE;refine fD 13 rfl fun K hK=>?_;refine pA ?_;refine hK.out _ _ (bel) fun hHeld=>?_;clear hK K;refine aO kr ?_;refine hK0.out _ _ ?_;subst hA4;subst hA3;subst hA2;subst hA1;subst hA0
    try clear Ee
    simp only[GE,Act.put,SU];go_wp2;go_meet;exact⟨wb.heap.size,wb.heap.size+1,rfl,rfl,qd (aF.drew ((aF.new' wb [.int .i64 alo,.int .i64 ahi] 47 wb.heap.size rfl).alloc _)),qd (aF.drew (aF.new' _ [.int .i64 blo,.int .i64 bhi] 47 (wb.heap.size+1) si)),bel,oz,oz⟩
   ·refine sX ?_;refine hK.out _ _ (bel) fun hHeld=>?_;clear hK K;generalize hA2:(Act.put _ _ _:Act)=a2;replace Ee:a2.eval (.tmp 242)=.agg #[.int .i64 alo,.int .i64 ahi]/\a2.eval (.tmp 247)=.agg #[.int .i64 blo,.int .i64 bhi]/\a2.eval (.tmp 22)=.pointer (some ⟨wb.heap.size,0,none⟩)/\a2.tmps.size=290:=mQ;refine fD 10 rfl fun K hK=>?_;refine sX ?_;refine hK.out _ _ (bel) fun hHeld=>?_;clear hK K;generalize hA3:(Act.put _ _ _:Act)=a3;replace Ee:a3.eval (.tmp 242)=.agg #[.int .i64 alo,.int .i64 ahi]/\a3.eval (.tmp 247)=.agg #[.int .i64 blo,.int .i64 bhi]/\a3.eval (.tmp 22)=.pointer (some ⟨wb.heap.size,0,none⟩)/\a3.eval (.tmp 21)=.pointer (some ⟨wb.heap.size+1,0,none⟩)/\a3.tmps.size=290:=rV;refine fD 12 rfl fun K hK=>?_;refine pA ?_;refine hK.out _ _ (bel) fun hHeld=>?_;clear hK K;generalize hA4:(Act.put _ _ _:Act)=a4;replace Ee:a4.eval (.tmp 247)=.agg #[.int .i64 blo,.int .i64 bhi]/\a4.eval (.tmp 22)=.pointer (some ⟨wb.heap.size,0,none⟩)/\a4.eval (.tmp 21)=.pointer (some ⟨wb.heap.size+1,0,none⟩)/\a4.tmps.size=290:=xE;refine fD 13 rfl fun K hK=>?_;refine pA ?_;refine hK.out _ _ (bel) fun hHeld=>?_;clear hK K;refine aO kr ?_;refine hK0.out _ _ ?_;subst hA4;subst hA3;subst hA2;subst hA1;subst hA0
    try clear Ee
    simp only[GE,Act.put,SU];go_wp2;go_meet;exact⟨wb.heap.size+1,wb.heap.size,rfl,rfl,qd (aF.drew (aF.new' _ [.int .i64 alo,.int .i64 ahi] 47 (wb.heap.size+1) si)),qd (aF.drew ((aF.new' wb [.int .i64 blo,.int .i64 bhi] 47 wb.heap.size rfl).alloc _)),bel,oz,oz⟩
  case rest =>
   obtain⟨k1,k2,rfl,rfl,OK1,OK2,hbd,hk1,hk2⟩:=hcut;have hzd:=hbd.size;have g1:=aD OK1.out;have g2:=aD OK2.out;have x5:=aX (HOX.out.below hbd);have o1:=dG (HOR.out.below hbd);have HRc:=qd (HR0.out.below hbd);obtain⟨r0,r1,r2,r3⟩:=HRc.out.cells hka;have hw1:Below w.heap.size w wc:=hb0.trans (hbd.mono oz);by_cases h1:xn=(frm:Int)+1
   ·have q9:(xn==(frm:Int)+1)=true:=by simpa using h1
    have hres:RES=some r:=by rw[HRES.out,if_pos (by simpa using h1)]
    go_wp2;go_ret;go_light;rw[hres];exact⟨rfl,aG.of hw1,fun out ho=>by cases ho;exact HRc.out⟩
   ·have q9:(xn==(frm:Int)+1)=false:=by simpa using h1
    have e1:¬(decide (xn=(frm:Int)+1)=true):=by simpa using h1
    by_cases h2:(ka:Int)=(kb:Int)
    ·have q8:((ka:Int)==(kb:Int))=true:=by simpa using h2
     have hres:RES=if far=true then some r else none:=by rw[HRES.out,if_neg e1,if_pos h2]
     go_wp2;go_ret;go_light;rw[hres];refine⟨by cases far<;>rfl,aG.of hw1,fun out ho=>?_⟩;cases far
     ·cases ho
     ·cases ho;exact HRc.out
    ·have q8:((ka:Int)==(kb:Int))=false:=by simpa using h2
     cases far
     case true =>
      have hres:RES=if blo<=ahi then some (r.set ka ⟨max alo blo,ahi⟩)else none:=by rw[HRES.out,if_neg e1,if_neg h2,if_pos rfl]
      by_cases hmx:alo<blo
      ·have hmm:max alo blo=blo:=oz
       have HS:=qd (HRc.out.setLo hka blo);rw[HPA.out]at HS;by_cases hle:blo<=ahi
       ·have HRES2:=qd (show RES=some (r.set ka ⟨blo,ahi⟩) by rw[hres,hmm,if_pos hle]);exact aMx
       ·exact aO7
      ·have hmm:max alo blo=alo:=oz
       have HS:=qd (HRc.out.setLo hka alo);rw[HPA.out]at HS;by_cases hle:blo<=ahi
       ·have HRES2:=qd (show RES=some (r.set ka ⟨alo,ahi⟩) by rw[hres,hmm,if_pos hle]);exact aMx
       ·exact aO7
     case false =>
      have hres:RES=if qok=true then some (r.set ka ⟨qlo,qhi⟩)else none:=by rw[HRES.out,if_neg e1,if_neg h2,if_neg (by decide)]
      have HRES2:=qd hres;have HSS2:Hid (∀ w',aG (· = b) wc w'->w'.cell? ⟨w.heap.size+1+1,0,none⟩=some (.slice (some ⟨b,0,none⟩) n c)/\w'.cell? ⟨w.heap.size+1+1+1,1,none⟩=some (.int .i64 ka)/\w'.cell? ⟨k1,0,none⟩=some (.int .i64 alo)/\w'.cell? ⟨k1,1,none⟩=some (.int .i64 ahi)/\w'.cell? ⟨k2,0,none⟩=some (.int .i64 blo)/\w'.cell? ⟨k2,1,none⟩=some (.int .i64 bhi)):=qd (fun w' hw=>by
       obtain⟨_,s0,_⟩:=dG (hw.own (HOR.out.below hbd) (by show ¬(_=b);omega));have x5:=aX (hw.own (HOX.out.below hbd) (by show ¬(_=b);omega));have g1:=aD (hw.own OK1.out (by show ¬(_=b);omega));have g2:=aD (hw.own OK2.out (by show ¬(_=b);omega));exact⟨s0,x5.2.2.1,g1.2.1,g1.2.2.1,g2.2.1,g2.2.2.1⟩)
      go_upto_region 53 with(fail)
      clear hres x5 o1 g1 g2 r0 r1 r2 r3 e1 h1 h2 q8 q9 hfr hwf;generalize hA0:(Act.mk _ _:Act)=a0;have Ee:a0.eval (.tmp 9)=.pointer (some ⟨w.heap.size+1+1,0,none⟩)/\a0.eval (.tmp 11)=.pointer (some ⟨w.heap.size+1+1+1,0,none⟩)/\a0.eval (.tmp 21)=.pointer (some ⟨k1,0,none⟩)/\a0.eval (.tmp 22)=.pointer (some ⟨k2,0,none⟩)/\a0.tmps.size=290:=aFs
      refine aE (fun w'=>aG (· = b) wc w') kr ((aG.refl _ wc).drew) ?_;intro K0 hK0 hHeld
      try dsimp only at hHeld
      refine eY 0 rfl ?_;refine eY 1 rfl ?_;refine eY 2 rfl ?_;refine eY 3 rfl ?_;refine eY 4 rfl ?_;generalize hA1:(Act.put _ _ _:Act)=a1;replace Ee:a1.eval (.tmp 252)=.agg #[.int .i64 alo,.int .i64 ahi]/\a1.eval (.tmp 253)=.agg #[.int .i64 blo,.int .i64 bhi]/\a1.eval (.tmp 249)=.slice (some ⟨b,0,none⟩) n c/\a1.eval (.tmp 251)=.int .i64 ka/\a1.tmps.size=290:=oZ;refine fD 5 rfl fun K hK=>?_;refine aP rfl 89 [.tmp 252,.tmp 253] #[47,47] rfl hcf [.agg #[.int .i64 alo,.int .i64 ahi],.agg #[.int .i64 blo,.int .i64 bhi]] iD _ (HBl.out _) ?_;rintro v wM ⟨rfl,hbM⟩;have hwM:aG (· = b) wc wM:=hHeld.trans (aG.of hbM);have hzM:=hwM.size;have hrM:bF wM b n c r:=(HRc.out.below ((Below.refl _ _).drew)).below hbM;obtain⟨q0,q1,q2,q3⟩:=hrM.cells hka;refine hK.out _ _ (hwM) fun hHeld=>?_;clear hK K;refine eY 6 rfl ?_;refine eY 7 rfl ?_;refine eY 8 rfl ?_;refine eY 9 rfl ?_;refine eY 10 rfl ?_;generalize hA2:(Act.put _ _ _:Act)=a2;replace Ee:a2.eval (.tmp 255)=.agg #[.int .i64 qlo,.int .i64 qhi]/\a2.eval (.tmp 257)=.bool qok/\a2.eval (.tmp 258)=.pointer (some ⟨b,ka*2,none⟩)/\a2.tmps.size=290:=mQ;refine fD 11 rfl fun K hK=>?_;refine pA ?_;refine hK.out _ _ (chq) fun hHeld=>?_;clear hK K;refine eY 12 rfl ?_;refine aO kr ?_;refine hK0.out _ _ ?_;subst hA2;subst hA1;subst hA0
      try clear Ee
      simp only[GE,Act.put,SU];go_wp2;go_ret;go_light;rw[HRES2.out];refine⟨by cases qok<;>rfl,((aG.of hw1).trans hwM).trans (jX _ _ _ _ _ _),fun out ho=>?_⟩;cases qok
      ·cases ho
      ·cases ho;exact hrM.set hka ⟨qlo,qhi⟩
end Go.Proofs.YteebpnbdihcfmaaGreatDoor
