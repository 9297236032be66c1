/- Package bounds; Package bounds -/
import Derived.Test.YteebpnbdihcfmaaGreatDoorJ16
import Derived.Test.YteebpnbdihcfmaaGreatDoorJ21
import Derived.Test.YteebpnbdihcfmaaGreatDoorJ01
set_option linter.unusedVariables false
set_option linter.unusedSimpArgs false
set_option maxRecDepth 100000
set_option maxHeartbeats 20000000
namespace Go.Proofs.YteebpnbdihcfmaaGreatDoor
open Go.RowKit
theorem away_load (x:PIns) (B:Nat) (m:PMod) (hh:HF) (f:PFunc) (ta fa:Option Addr) (tl tc fl fc:Nat) (frm:Nat) (to_:Int) (b n c:Nat) (r:List PSpan) (w:World) (hB:B<=w.heap.size) (hf:FuncOk B w hh f) (hfl:frm<f.code.length) (hn1:f.code.length<=1024) (hx:f.code.getD frm default=x) (hi:InsFine m f x) (hr:SpRow w b n c r) (hrg:(n:Int)=f.regs) (hn:n<=64) (hop:x.op=11):Calls Tryz.prog 47 #[.agg #[.slice ta tl tc,.slice fa fl fc],FuncVal hh f,.int .i64 frm,.int .i64 to_,.slice (some ⟨b,0,none⟩) n c] w (AwayPost b n c w (memWay x f.words r)):=by
 obtain⟨RES,hRES⟩:∃ q,q=(memWay x f.words r):=⟨_,rfl⟩
 rw[<-hRES];have HRES:=qd hRES;clear hRES;obtain⟨pa,pl,pc,cb,co,cc,rfl,hcm,hcB,⟨g0,g1,g2,g3,g4⟩,hcbl,hcb1,hcb2,hcb3,hfr,hwf⟩:=away_pre hB hf hfl hn1 hx;clear hf;unfold FuncVal;dsimp only;have hbl:=hr.lt;obtain⟨op,xa,xb,xc,xn⟩:=x;obtain⟨v1,v2,v3,v4,v5,v6,v7,v8,v9,v10⟩:=hi;dsimp only at *;subst hop;have hmf:=@mkF Tryz.prog;go_enter Tryz.func47,Tryz.ntmps47;go_upto_region 2 with(fail)
 generalize hW0:World.alloc _ _=W0;obtain⟨hb0,OM,OF,OR,OX,hz0⟩:=own_four hW0;clear hW0 g0 g1 g2 g3 g4;have hr0:=hr.below hb0;have x5:=own5 OX;have o1:=own1 OR;go_cut [12] (fun v wx=>v=.bool (decide (to_=xn)&&decide (xn≠(frm:Int)+1))/\wx=W0)
 case first =>
  by_cases e1:to_=xn
  ·have q1:(to_==xn)=true:=by simpa using e1
   by_cases e2:xn=(frm:Int)+1
   ·have q2:(xn != (frm:Int)+1)=false:=by simpa using e2
    go_wp2;go_meet
    all_goals exact⟨by simp[e1,e2],rfl⟩
   ·have q2:(xn != (frm:Int)+1)=true:=by simpa using e2
    go_wp2;go_meet
    all_goals exact⟨by simp[e1,e2],rfl⟩
  ·have q1:(to_==xn)=false:=by simpa using e1
   go_wp2;go_meet
   all_goals exact⟨by simp[e1],rfl⟩
 case rest =>
  obtain⟨rfl,rfl⟩:=hcut;obtain⟨wb,hwb⟩:∃ wb:World,wb=wc:=⟨_,rfl⟩
  subst hwb;generalize hfar:(decide (to_=xn)&&decide (xn≠(frm:Int)+1))=far;have HFAR:=qd hfar;clear hfar;obtain⟨ka,rfl⟩:=Int.eq_ofNat_of_zero_le v3;have hka:ka<n:=oz
  have hka2:(ka:Int)<(n:Int):=oz
  obtain⟨r0,r1,r2,r3⟩:=hr0.cells hka;obtain⟨kb,rfl⟩:=Int.eq_ofNat_of_zero_le v5;have hkb:kb<n:=oz
  have hkb2:(kb:Int)<(n:Int):=oz
  obtain⟨t0,t1,t2,t3⟩:=hr0.cells hkb;have hne:b≠w.heap.size+1+1:=oz
  have HW:=qd (fun w=>words_any xn f.words w);have f5:=own5 OF;have hmem:memWay ⟨11,ka,kb,xc,xn⟩ f.words r=(if(wordsP xn f.words).2=false then none else if(meetR r kb (wordsP xn f.words).1).2 then some (spSet (meetR r kb (wordsP xn f.words).1).1 ka allP)else none):=by
   unfold memWay;simp
  have hres:=HRES.out;rw[hmem]at hres;clear HRES hmem t0 t1 t2 t3;generalize wordsP xn f.words=wp at *;obtain⟨⟨lo,hi⟩,ok⟩:=wp;have HM:=qd (fun w' h1 h2=>meets_any kb ⟨lo,hi⟩ (w.heap.size+1+1) b n c r w' h1 h2 hkb hne hn);unfold spanV at HW HM;dsimp only at HW HM hres;have hrr:=qd (rfl:r=r);cases ok
  ·have hres2:RES=none:=by rw[hres];rfl
   clear hres;go_wp2_with (first|(go_at_call 87;refine(HW.out _).mono ?_;rintro e w1 ⟨rfl,hb1⟩)|fail)
   go_ret;go_light;rw[hres2];exact⟨rfl,Chg.of (hb0.trans ((hb1.mono oz).trans (bal |>.mono (by have:=hb1.size;omega)))),fun out ho=>by cases ho⟩
  ·go_upto_region 28 with(first|(go_at_call 87;refine(HW.out _).mono ?_;rintro e w1 ⟨rfl,hb1⟩)|fail)
   generalize hW3:World.alloc _ _=W3;have hz1:=hb1.size;have hb3:Below wb.heap.size wb W3:=by rw[<-hW3];exact bel
   have hz3:=hb3.size;have OS:Own W3 w1.heap.size [.int .i64 lo,.int .i64 hi]:=by rw[<-hW3];exact Own.new _ _ _
   have OX3:=OX.below hb3;have OR3:=OR.below hb3;have hr3:=hr0.below hb3;have HM2:=qd (HM.out W3 OR3 hr3);have hb13:Below w.heap.size w W3:=hb0.trans (hb3.mono oz);have x3:=own5 OX3;have o3:=own1 OR3;have g3:=own2 OS;clear HM HW hW3 f5 x5 o1 OF OM OX OR hr0 hb1;clear r0 r1 r2 r3;generalize meetR r kb ⟨lo,hi⟩=q at *;obtain⟨q,ok⟩:=q;dsimp only at HM2 hres;cases ok
   ·have hres2:RES=none:=by rw[hres];rfl
    clear hres;go_wp2_with (first|(go_at_call 83;refine HM2.out.mono ?_;rintro e w9 ⟨rfl,hr9,hc9⟩)|fail)
    go_ret;go_light;rw[hres2];exact⟨rfl,(Chg.of hb13).trans hc9,fun out ho=>by cases ho⟩
   ·have hres2:RES=some (spSet q ka allP):=by rw[hres];rfl
    have HRES2:=qd hres2;clear hres hres2;go_upto_region 31 with(first|(go_at_call 83;refine HM2.out.mono ?_;rintro e w9 ⟨rfl,hr9,hc9⟩;have hz9:=hc9.size;have x9:=own5 (hc9.own OX3 (by show ¬(_=b);omega));have o9:=own1 (hc9.own OR3 (by show ¬(_=b);omega));have HR9:=qd hr9;have HC9:=qd hc9;clear hr9 hc9;obtain⟨p0,p1,p2,p3⟩:=HR9.out.cells hka)|fail)
    clear x3 o3 OX3 OR3;have hbL9:=HR9.out.lt;have HAl:=qd sall_any;unfold spanV at HAl;refine wp_below_tail 4 kr kr (fun T F hF hall=>?_);simp only[TD];have hFc:=fun t=>(bcell (hF t)).1;have hFf:=fun t=>(bcell (hF t)).2;have hFs:=fun t=>(hF t).size;have hNE:Nonempty T:=(hall _ (Below.refl _ _)).elim fun t _=>⟨t⟩;repeat(refine WQ_step (fun K hK=>?_);go_simp;refine hK _ ?_;clear hK K)
    (refine WQ_step (fun K hK=>?_);go_simp;refine⟨_,fun t=>calls_family (hF t) hall (HAl.out (F t)),hK _ ?_⟩;clear hK K)
    repeat(refine WQ_step (fun K hK=>?_);go_simp;refine hK _ ?_;clear hK K)
    refine WQ_nil (fun t=>?_);have hft:=hF t;go_wp2;go_ret;go_light;rw[HRES2.out];refine⟨rfl,((Chg.of hb13).trans (HC9.out.trans (Chg.of hft))).trans (chg2 _ _ _ _ _ _),fun out ho=>?_⟩;cases ho;exact(HR9.out.below hft).set hka allP
theorem away_unless (x:PIns) (B:Nat) (m:PMod) (hh:HF) (f:PFunc) (ta fa:Option Addr) (tl tc fl fc:Nat) (frm:Nat) (to_:Int) (b n c:Nat) (r:List PSpan) (w:World) (hB:B<=w.heap.size) (hf:FuncOk B w hh f) (hfl:frm<f.code.length) (hn1:f.code.length<=1024) (hx:f.code.getD frm default=x) (hi:InsFine m f x) (hr:SpRow w b n c r) (hrg:(n:Int)=f.regs) (hn:n<=64) (hop:x.op=16):Calls Tryz.prog 47 #[.agg #[.slice ta tl tc,.slice fa fl fc],FuncVal hh f,.int .i64 frm,.int .i64 to_,.slice (some ⟨b,0,none⟩) n c] w (AwayPost b n c w (ifWay x (decide (to_=x.n)&&decide (x.n≠(frm:Int)+1)) (decide (x.n=(frm:Int)+1)) r)):=by
 obtain⟨RES,hRES⟩:∃ q,q=(ifWay x (decide (to_=x.n)&&decide (x.n≠(frm:Int)+1)) (decide (x.n=(frm:Int)+1)) r):=⟨_,rfl⟩
 rw[<-hRES];have HRES:=qd hRES;clear hRES;obtain⟨pa,pl,pc,cb,co,cc,rfl,hcm,hcB,⟨g0,g1,g2,g3,g4⟩,hcbl,hcb1,hcb2,hcb3,hfr,hwf⟩:=away_pre hB hf hfl hn1 hx;clear hf;unfold FuncVal;dsimp only;have hbl:=hr.lt;obtain⟨op,xa,xb,xc,xn⟩:=x;obtain⟨v1,v2,v3,v4,v5,v6,v7,v8,v9,v10⟩:=hi;dsimp only at *;subst hop;have hmf:=@mkF Tryz.prog;go_enter Tryz.func47,Tryz.ntmps47;go_upto_region 2 with(fail)
 generalize hW0:World.alloc _ _=W0;obtain⟨hb0,OM,OF,OR,OX,hz0⟩:=own_four hW0;clear hW0 g0 g1 g2 g3 g4;have hr0:=hr.below hb0;have x5:=own5 OX;have o1:=own1 OR;go_cut [12] (fun v wx=>v=.bool (decide (to_=xn)&&decide (xn≠(frm:Int)+1))/\wx=W0)
 case first =>
  by_cases e1:to_=xn
  ·have q1:(to_==xn)=true:=by simpa using e1
   by_cases e2:xn=(frm:Int)+1
   ·have q2:(xn != (frm:Int)+1)=false:=by simpa using e2
    go_wp2;go_meet
    all_goals exact⟨by simp[e1,e2],rfl⟩
   ·have q2:(xn != (frm:Int)+1)=true:=by simpa using e2
    go_wp2;go_meet
    all_goals exact⟨by simp[e1,e2],rfl⟩
  ·have q1:(to_==xn)=false:=by simpa using e1
   go_wp2;go_meet
   all_goals exact⟨by simp[e1],rfl⟩
 case rest =>
  obtain⟨rfl,rfl⟩:=hcut;obtain⟨wb,hwb⟩:∃ wb:World,wb=wc:=⟨_,rfl⟩
  subst hwb;generalize hfar:(decide (to_=xn)&&decide (xn≠(frm:Int)+1))=far;have HFAR:=qd hfar;clear hfar;obtain⟨ka,rfl⟩:=Int.eq_ofNat_of_zero_le v3;have hka:ka<n:=oz
  have hka2:(ka:Int)<(n:Int):=oz
  obtain⟨r0,r1,r2,r3⟩:=hr0.cells hka;have hres:=HRES.out;rw[HFAR.out]at hres;clear HRES HFAR;unfold ifWay at hres;dsimp only at hres;by_cases h1:xn=(frm:Int)+1
  ·have q9:(xn==(frm:Int)+1)=true:=by simpa using h1
   rw[if_pos (by simpa using h1)]at hres;have HR2:=qd hres;clear hres;go_wp2;go_ret;go_light;rw[HR2.out];exact⟨rfl,Chg.of hb0,fun out ho=>by cases ho;exact hr0⟩
  ·have q9:(xn==(frm:Int)+1)=false:=by simpa using h1
   rw[if_neg (by simpa using h1)]at hres;cases far
   case true =>
    rw[if_pos (by simp),Int.toNat_natCast]at hres;have hne:b≠w.heap.size+1+1:=oz
    have HM:=qd (meets_any ka ⟨0,0⟩ (w.heap.size+1+1) b n c r wb OR hr0 hka hne hn);generalize meetR r ka ⟨0,0⟩=q at *;obtain⟨q,ok⟩:=q;dsimp only at HM;unfold spanV at HM;dsimp only at HM;go_wp2_with (first|(go_at_call 83;refine HM.out.mono ?_;rintro e w9 ⟨rfl,hr9,hc9⟩)|fail)
    go_ret;go_light;subst hres;refine⟨by cases ok<;>rfl,(Chg.of hb0).trans hc9,fun out ho=>?_⟩;cases ok
    ·cases ho
    ·cases ho;exact hr9
   case false =>
    rw[if_neg (by simp)]at hres;unfold spAt spSet at hres;rw[Int.toNat_natCast]at hres;have hcf:∀ (args:Array Value) (w:World),(callFunc 86 args).run Tryz.prog w=.ok (.enter 86 args) w:=fun _ _=>rfl;have HW0:=qd (fun w=>without_is (r.getD ka default) w);have HRES:=qd hres;clear hres;generalize without0P (r.getD ka default)=q at *;obtain⟨⟨qlo,qhi⟩,qok⟩:=q;obtain⟨pa,hpa⟩:∃ p,r.getD ka default=p:=⟨_,rfl⟩
    rw[hpa]at HW0 r0 r1;clear hpa;obtain⟨alo,ahi⟩:=pa;dsimp only at HW0 HRES r0 r1;have HSS:Hid (∀ w',Chg (· = b) wb w'->w'.cell? ⟨w.heap.size+1+1,0,none⟩=some (.slice (some ⟨b,0,none⟩) n c)/\w'.cell? ⟨w.heap.size+1+1+1,1,none⟩=some (.int .i64 ka)):=qd (fun w' hw=>by
     obtain⟨_,s0,_⟩:=own1 (hw.own OR (by show ¬(_=b);omega));have x5:=own5 (hw.own OX (by show ¬(_=b);omega));exact⟨s0,x5.2.2.1⟩)
    go_upto_region 45 with(fail)
    clear x5 o1 OM OF OR OX hr hmf hx hrg hfr hwf h1 q9 v1 v2 v4 v5 v6 v7 v8 v9 v10 hcm hcB hcbl hcb1 hcb2 hcb3 hfl hn1;generalize hA0:(Act.mk _ _:Act)=a0;have Ee:a0.eval (.tmp 9)=.pointer (some ⟨w.heap.size+1+1,0,none⟩)/\a0.eval (.tmp 11)=.pointer (some ⟨w.heap.size+1+1+1,0,none⟩)/\a0.tmps.size=290:=by rw[<-hA0];exact⟨rfl,rfl,rfl⟩
    refine region_held_plain (fun w'=>Chg (· = b) wb w') kr ((Chg.refl _ wb).drew) ?_;intro K0 hK0 hHeld
    try dsimp only at hHeld
    refine wtk 0 rfl ?_;try simp only[GE]
    refine wtk 1 rfl ?_;try simp only[GE]
    refine wtk 2 rfl ?_;try simp only[GE]
    refine wtk 3 rfl ?_;try simp only[GE]
    refine wtk 4 rfl ?_;try simp only[GE]
    refine wtk 5 rfl ?_;try simp only[GE]
    refine wtk 6 rfl ?_;try simp only[GE]
    generalize hA1:(Act.put _ _ _:Act)=a1;replace Ee:a1.eval (.tmp 212)=.pointer (some ⟨b,ka*2,none⟩)/\a1.eval (.tmp 206)=.slice (some ⟨b,0,none⟩) n c/\a1.eval (.tmp 208)=.int .i64 ka/\a1.tmps.size=290:=ee1;refine readyH1 7 ?_ kr ?_ ?_;rotate_left
    ·exact rfl
    intro K hK;simp only[GE];refine stv ?_;refine hK.out _ _ (chq) fun hHeld=>?_;clear hK K;try simp only[GE]
    generalize hA2:(Act.put _ _ _:Act)=a2;replace Ee:a2.eval (.tmp 213)=.agg #[.int .i64 alo,.int .i64 ahi]/\a2.eval (.tmp 206)=.slice (some ⟨b,0,none⟩) n c/\a2.eval (.tmp 208)=.int .i64 ka/\a2.tmps.size=290:=ee2;refine readyH1 8 ?_ kr ?_ ?_;rotate_left
    ·exact rfl
    intro K hK;refine step_callF rfl 86 [.tmp 213] #[47] rfl hcf [.agg #[.int .i64 alo,.int .i64 ahi]] (by simp only[GE,MX,EX,Ee,reduceIte,Nat.reduceEqDiff,Nat.reduceLT,Nat.reduceBEq]) _ (HW0.out _) ?_;rintro v wM ⟨rfl,hbM⟩;have hwM:Chg (· = b) wb wM:=hHeld.trans (Chg.of hbM);have hzM:=hwM.size;have hrM:SpRow wM b n c r:=(hr0.below ((Below.refl _ _).drew)).below hbM;obtain⟨q0,q1,q2,q3⟩:=hrM.cells hka;refine hK.out _ _ (hwM) fun hHeld=>?_;clear hK K;try simp only[GE]
    refine wtk 9 rfl ?_;try simp only[GE]
    refine wtk 10 rfl ?_;try simp only[GE]
    refine wtk 11 rfl ?_;try simp only[GE]
    refine wtk 12 rfl ?_;try simp only[GE]
    generalize hA3:(Act.put _ _ _:Act)=a3;replace Ee:a3.eval (.tmp 215)=.agg #[.int .i64 qlo,.int .i64 qhi]/\a3.eval (.tmp 216)=.bool qok/\a3.eval (.tmp 217)=.pointer (some ⟨b,ka*2,none⟩)/\a3.tmps.size=290:=ee3;refine readyH1 13 ?_ kr ?_ ?_;rotate_left
    ·exact rfl
    intro K hK;simp only[GE];refine sts ?_;refine hK.out _ _ (chq) fun hHeld=>?_;clear hK K;try simp only[GE]
    refine wtk 14 rfl ?_;try simp only[GE]
    refine anyH_done kr ?_;refine hK0.out _ _ ?_;subst hA3;subst hA2;subst hA1;subst hA0
    try clear Ee
    simp only[GE,Act.put,SU];go_wp2;go_ret;go_light;rw[HRES.out];refine⟨by cases qok<;>rfl,((Chg.of hb0).trans hwM).trans (chg2 _ _ _ _ _ _),fun out ho=>?_⟩;cases qok
    ·cases ho
    ·cases ho;exact hrM.set hka ⟨qlo,qhi⟩
end Go.Proofs.YteebpnbdihcfmaaGreatDoor
