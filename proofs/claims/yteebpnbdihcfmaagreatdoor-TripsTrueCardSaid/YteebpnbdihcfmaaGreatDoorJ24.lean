/- Package bounds -/
import Derived.Test.YteebpnbdihcfmaaGreatDoorJ16
import Derived.Test.YteebpnbdihcfmaaGreatDoorJ01
set_option linter.unusedVariables false
set_option linter.unusedSimpArgs false
set_option maxRecDepth 100000
set_option maxHeartbeats 20000000
namespace Go.Proofs.YteebpnbdihcfmaaGreatDoor
open Go.RowKit
theorem away_check (x:PIns) (B:Nat) (m:PMod) (hh:HF) (f:PFunc) (ta fa:Option Addr) (tl tc fl fc:Nat) (frm:Nat) (to_:Int) (b n c:Nat) (r:List PSpan) (w:World) (hB:B<=w.heap.size) (hf:FuncOk B w hh f) (hfl:frm<f.code.length) (hn1:f.code.length<=1024) (hx:f.code.getD frm default=x) (hi:InsFine m f x) (hr:SpRow w b n c r) (hrg:(n:Int)=f.regs) (hn:n<=64) (hop:x.op=13):Calls Tryz.prog 47 #[.agg #[.slice ta tl tc,.slice fa fl fc],FuncVal hh f,.int .i64 frm,.int .i64 to_,.slice (some ⟨b,0,none⟩) n c] w (AwayPost b n c w (optB (meetR r x.a.toNat ⟨0,wrap64 (x.n-1)⟩))):=by
 obtain⟨RES,hRES⟩:∃ q,q=(optB (meetR r x.a.toNat ⟨0,wrap64 (x.n-1)⟩)):=⟨_,rfl⟩
 rw[<-hRES];have HRES:=qd hRES;clear hRES;obtain⟨pa,pl,pc,cb,co,cc,rfl,hcm,hcB,⟨g0,g1,g2,g3,g4⟩,hcbl,hcb1,hcb2,hcb3,hfr,hwf⟩:=away_pre hB hf hfl hn1 hx;clear hf;unfold FuncVal;dsimp only;have hbl:=hr.lt;obtain⟨op,xa,xb,xc,xn⟩:=x;obtain⟨v1,v2,v3,v4,v5,v6,v7,v8,v9,v10⟩:=hi;dsimp only at *;subst hop;have hmf:=@mkF Tryz.prog;go_enter Tryz.func47,Tryz.ntmps47;go_upto_region 2 with(fail)
 generalize hW0:World.alloc _ _=W0;obtain⟨hb0,OM,OF,OR,OX,hz0⟩:=own_four hW0;clear hW0 g0 g1 g2 g3 g4;have hr0:=hr.below hb0;have x5:=own5 OX;have o1:=own1 OR;go_cut [12] (fun v wx=>v=.bool (decide (to_=xn)&&decide (xn≠(frm:Int)+1))/\wx=W0)
 case first =>
  by_cases e1:to_=xn
  ·have q1:(to_==xn)=true:=by simpa using e1
   by_cases e2:xn=(frm:Int)+1
   ·have q2:(xn != (frm:Int)+1)=false:=by simpa using e2
    go_wp2;go_meet
    all_goals exact⟨by simp[e1,e2],rfl⟩
   ·have q2:(xn != (frm:Int)+1)=true:=by simpa using e2
    go_wp2;go_meet
    all_goals exact⟨by simp[e1,e2],rfl⟩
  ·have q1:(to_==xn)=false:=by simpa using e1
   go_wp2;go_meet
   all_goals exact⟨by simp[e1],rfl⟩
 case rest =>
  obtain⟨rfl,rfl⟩:=hcut;obtain⟨wb,hwb⟩:∃ wb:World,wb=wc:=⟨_,rfl⟩
  subst hwb;generalize hfar:(decide (to_=xn)&&decide (xn≠(frm:Int)+1))=far;have HFAR:=qd hfar;clear hfar;obtain⟨ka,rfl⟩:=Int.eq_ofNat_of_zero_le v3;have hka:ka<n:=oz
  have hka2:(ka:Int)<(n:Int):=oz
  obtain⟨r0,r1,r2,r3⟩:=hr0.cells hka;have hne:b≠w.heap.size+1+1:=oz
  have HM:=qd (meets_any ka ⟨0,wrap64 (xn-1)⟩ (w.heap.size+1+1) b n c r wb OR hr0 hka hne hn);have hres:=HRES.out;clear HRES;rw[Int.toNat_natCast]at hres;generalize meetR r ka ⟨0,wrap64 (xn-1)⟩=q at *;obtain⟨q,ok⟩:=q;dsimp only at HM;unfold spanV at HM;dsimp only at HM;go_wp2_with (first|(go_at_call 83;refine HM.out.mono ?_;rintro e w9 ⟨rfl,hr9,hc9⟩)|fail)
  go_ret;go_light;subst hres;refine⟨by cases ok<;>rfl,(Chg.of hb0).trans hc9,fun out ho=>?_⟩;cases ok
  ·cases ho
  ·cases ho;exact hr9
theorem away_store (x:PIns) (B:Nat) (m:PMod) (hh:HF) (f:PFunc) (ta fa:Option Addr) (tl tc fl fc:Nat) (frm:Nat) (to_:Int) (b n c:Nat) (r:List PSpan) (w:World) (hB:B<=w.heap.size) (hf:FuncOk B w hh f) (hfl:frm<f.code.length) (hn1:f.code.length<=1024) (hx:f.code.getD frm default=x) (hi:InsFine m f x) (hr:SpRow w b n c r) (hrg:(n:Int)=f.regs) (hn:n<=64) (hop:x.op=12):Calls Tryz.prog 47 #[.agg #[.slice ta tl tc,.slice fa fl fc],FuncVal hh f,.int .i64 frm,.int .i64 to_,.slice (some ⟨b,0,none⟩) n c] w (AwayPost b n c w (memWay x f.words r)):=by
 obtain⟨RES,hRES⟩:∃ q,q=(memWay x f.words r):=⟨_,rfl⟩
 rw[<-hRES];have HRES:=qd hRES;clear hRES;obtain⟨pa,pl,pc,cb,co,cc,rfl,hcm,hcB,⟨g0,g1,g2,g3,g4⟩,hcbl,hcb1,hcb2,hcb3,hfr,hwf⟩:=away_pre hB hf hfl hn1 hx;clear hf;unfold FuncVal;dsimp only;have hbl:=hr.lt;obtain⟨op,xa,xb,xc,xn⟩:=x;obtain⟨v1,v2,v3,v4,v5,v6,v7,v8,v9,v10⟩:=hi;dsimp only at *;subst hop;have hmf:=@mkF Tryz.prog;go_enter Tryz.func47,Tryz.ntmps47;go_upto_region 2 with(fail)
 generalize hW0:World.alloc _ _=W0;obtain⟨hb0,OM,OF,OR,OX,hz0⟩:=own_four hW0;clear hW0 g0 g1 g2 g3 g4;have hr0:=hr.below hb0;have x5:=own5 OX;have o1:=own1 OR;go_cut [12] (fun v wx=>v=.bool (decide (to_=xn)&&decide (xn≠(frm:Int)+1))/\wx=W0)
 case first =>
  by_cases e1:to_=xn
  ·have q1:(to_==xn)=true:=by simpa using e1
   by_cases e2:xn=(frm:Int)+1
   ·have q2:(xn != (frm:Int)+1)=false:=by simpa using e2
    go_wp2;go_meet
    all_goals exact⟨by simp[e1,e2],rfl⟩
   ·have q2:(xn != (frm:Int)+1)=true:=by simpa using e2
    go_wp2;go_meet
    all_goals exact⟨by simp[e1,e2],rfl⟩
  ·have q1:(to_==xn)=false:=by simpa using e1
   go_wp2;go_meet
   all_goals exact⟨by simp[e1],rfl⟩
 case rest =>
  obtain⟨rfl,rfl⟩:=hcut;obtain⟨wb,hwb⟩:∃ wb:World,wb=wc:=⟨_,rfl⟩
  subst hwb;generalize hfar:(decide (to_=xn)&&decide (xn≠(frm:Int)+1))=far;have HFAR:=qd hfar;clear hfar;obtain⟨ka,rfl⟩:=Int.eq_ofNat_of_zero_le v3;have hka:ka<n:=oz
  have hka2:(ka:Int)<(n:Int):=oz
  obtain⟨r0,r1,r2,r3⟩:=hr0.cells hka;obtain⟨kb,rfl⟩:=Int.eq_ofNat_of_zero_le v5;have hkb:kb<n:=oz
  have hkb2:(kb:Int)<(n:Int):=oz
  obtain⟨t0,t1,t2,t3⟩:=hr0.cells hkb;have hne:b≠w.heap.size+1+1:=oz
  have HW:=qd (fun w=>words_any xn f.words w);have f5:=own5 OF;have hmem:memWay ⟨12,ka,kb,xc,xn⟩ f.words r=(if(wordsP xn f.words).2=false then none else if(meetR r kb (wordsP xn f.words).1).2 then some ((meetR r kb (wordsP xn f.words).1).1)else none):=by
   unfold memWay;simp
  have hres:=HRES.out;rw[hmem]at hres;clear HRES hmem t0 t1 t2 t3;generalize wordsP xn f.words=wp at *;obtain⟨⟨lo,hi⟩,ok⟩:=wp;have HM:=qd (fun w' h1 h2=>meets_any kb ⟨lo,hi⟩ (w.heap.size+1+1) b n c r w' h1 h2 hkb hne hn);unfold spanV at HW HM;dsimp only at HW HM hres;have hrr:=qd (rfl:r=r);cases ok
  ·have hres2:RES=none:=by rw[hres];rfl
   clear hres;go_wp2_with (first|(go_at_call 87;refine(HW.out _).mono ?_;rintro e w1 ⟨rfl,hb1⟩)|fail)
   go_ret;go_light;rw[hres2];exact⟨rfl,Chg.of (hb0.trans ((hb1.mono oz).trans (bal |>.mono (by have:=hb1.size;omega)))),fun out ho=>by cases ho⟩
  ·go_upto_region 28 with(first|(go_at_call 87;refine(HW.out _).mono ?_;rintro e w1 ⟨rfl,hb1⟩)|fail)
   generalize hW3:World.alloc _ _=W3;have hz1:=hb1.size;have hb3:Below wb.heap.size wb W3:=by rw[<-hW3];exact bel
   have hz3:=hb3.size;have OS:Own W3 w1.heap.size [.int .i64 lo,.int .i64 hi]:=by rw[<-hW3];exact Own.new _ _ _
   have OX3:=OX.below hb3;have OR3:=OR.below hb3;have hr3:=hr0.below hb3;have HM2:=qd (HM.out W3 OR3 hr3);have hb13:Below w.heap.size w W3:=hb0.trans (hb3.mono oz);have x3:=own5 OX3;have o3:=own1 OR3;have g3:=own2 OS;clear HM HW hW3 f5 x5 o1 OF OM OX OR hr0 hb1;clear r0 r1 r2 r3;generalize meetR r kb ⟨lo,hi⟩=q at *;obtain⟨q,ok⟩:=q;dsimp only at HM2 hres;cases ok
   ·have hres2:RES=none:=by rw[hres];rfl
    clear hres;go_wp2_with (first|(go_at_call 83;refine HM2.out.mono ?_;rintro e w9 ⟨rfl,hr9,hc9⟩)|fail)
    go_ret;go_light;rw[hres2];exact⟨rfl,(Chg.of hb13).trans hc9,fun out ho=>by cases ho⟩
   ·have hres2:RES=some (q):=by rw[hres];rfl
    have HRES2:=qd hres2;clear hres hres2;go_wp2_with (first|(go_at_call 83;refine HM2.out.mono ?_;rintro e w9 ⟨rfl,hr9,hc9⟩;have hz9:=hc9.size;have x9:=own5 (hc9.own OX3 (by show ¬(_=b);omega)))|fail)
    go_ret;go_light;rw[HRES2.out];exact⟨rfl,(Chg.of hb13).trans hc9,fun out ho=>by cases ho;exact hr9⟩
end Go.Proofs.YteebpnbdihcfmaaGreatDoor
