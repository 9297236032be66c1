/- Package bounds; Package bounds; Package span -/
import Derived.Test.YteebpnbdihcfmaaGreatDoorJ13
import Derived.Test.YteebpnbdihcfmaaGreatDoorJ02
import Derived.Test.YteebpnbdihcfmaaGreatDoorJ01
set_option linter.unusedVariables false
set_option linter.unusedSimpArgs false
set_option maxRecDepth 100000
set_option maxHeartbeats 20000000
namespace Go.Proofs.YteebpnbdihcfmaaGreatDoor
open Go.RowKit
theorem away_ret (x:PIns) (B:Nat) (m:PMod) (hh:HF) (f:PFunc) (ta fa:Option Addr) (tl tc fl fc:Nat) (frm:Nat) (to_:Int) (b n c:Nat) (r:List PSpan) (w:World) (hB:B<=w.heap.size) (hf:FuncOk B w hh f) (hfl:frm<f.code.length) (hn1:f.code.length<=1024) (hx:f.code.getD frm default=x) (hi:InsFine m f x) (hr:SpRow w b n c r) (hrg:(n:Int)=f.regs) (hn:n<=64) (hop:x.op=0):Calls Tryz.prog 47 #[.agg #[.slice ta tl tc,.slice fa fl fc],FuncVal hh f,.int .i64 frm,.int .i64 to_,.slice (some ⟨b,0,none⟩) n c] w (AwayPost b n c w (some r)):=by
 obtain⟨pa,pl,pc,cb,co,cc,rfl,hcm,hcB,⟨g0,g1,g2,g3,g4⟩,hcbl,hcb1,hcb2,hcb3,hfr,hwf⟩:=away_pre hB hf hfl hn1 hx;clear hf;unfold FuncVal;dsimp only;have hbl:=hr.lt;obtain⟨op,xa,xb,xc,xn⟩:=x;obtain⟨v1,v2,v3,v4,v5,v6,v7,v8,v9,v10⟩:=hi;dsimp only at *;subst hop;have hmf:=@mkF Tryz.prog;go_enter Tryz.func47,Tryz.ntmps47;go_upto_region 2 with(fail)
 generalize hW0:World.alloc _ _=W0;obtain⟨hb0,OM,OF,OR,OX,hz0⟩:=own_four hW0;clear hW0 g0 g1 g2 g3 g4;have hr0:=hr.below hb0;have x5:=own5 OX;have o1:=own1 OR;go_cut [12] (fun v wx=>v=.bool (decide (to_=xn)&&decide (xn≠(frm:Int)+1))/\wx=W0)
 case first =>
  by_cases e1:to_=xn
  ·have q1:(to_==xn)=true:=by simpa using e1
   by_cases e2:xn=(frm:Int)+1
   ·have q2:(xn != (frm:Int)+1)=false:=by simpa using e2
    go_wp2;go_meet
    all_goals exact⟨by simp[e1,e2],rfl⟩
   ·have q2:(xn != (frm:Int)+1)=true:=by simpa using e2
    go_wp2;go_meet
    all_goals exact⟨by simp[e1,e2],rfl⟩
  ·have q1:(to_==xn)=false:=by simpa using e1
   go_wp2;go_meet
   all_goals exact⟨by simp[e1],rfl⟩
 case rest =>
  obtain⟨rfl,rfl⟩:=hcut;obtain⟨wb,hwb⟩:∃ wb:World,wb=wc:=⟨_,rfl⟩
  subst hwb;generalize hfar:(decide (to_=xn)&&decide (xn≠(frm:Int)+1))=far;have HFAR:=qd hfar;clear hfar;go_wp2;go_ret;go_light;exact⟨rfl,Chg.of hb0,fun out ho=>by cases ho;exact hr0⟩
theorem away_jump (x:PIns) (B:Nat) (m:PMod) (hh:HF) (f:PFunc) (ta fa:Option Addr) (tl tc fl fc:Nat) (frm:Nat) (to_:Int) (b n c:Nat) (r:List PSpan) (w:World) (hB:B<=w.heap.size) (hf:FuncOk B w hh f) (hfl:frm<f.code.length) (hn1:f.code.length<=1024) (hx:f.code.getD frm default=x) (hi:InsFine m f x) (hr:SpRow w b n c r) (hrg:(n:Int)=f.regs) (hn:n<=64) (hop:x.op=14):Calls Tryz.prog 47 #[.agg #[.slice ta tl tc,.slice fa fl fc],FuncVal hh f,.int .i64 frm,.int .i64 to_,.slice (some ⟨b,0,none⟩) n c] w (AwayPost b n c w (some r)):=by
 obtain⟨pa,pl,pc,cb,co,cc,rfl,hcm,hcB,⟨g0,g1,g2,g3,g4⟩,hcbl,hcb1,hcb2,hcb3,hfr,hwf⟩:=away_pre hB hf hfl hn1 hx;clear hf;unfold FuncVal;dsimp only;have hbl:=hr.lt;obtain⟨op,xa,xb,xc,xn⟩:=x;obtain⟨v1,v2,v3,v4,v5,v6,v7,v8,v9,v10⟩:=hi;dsimp only at *;subst hop;have hmf:=@mkF Tryz.prog;go_enter Tryz.func47,Tryz.ntmps47;go_upto_region 2 with(fail)
 generalize hW0:World.alloc _ _=W0;obtain⟨hb0,OM,OF,OR,OX,hz0⟩:=own_four hW0;clear hW0 g0 g1 g2 g3 g4;have hr0:=hr.below hb0;have x5:=own5 OX;have o1:=own1 OR;go_cut [12] (fun v wx=>v=.bool (decide (to_=xn)&&decide (xn≠(frm:Int)+1))/\wx=W0)
 case first =>
  by_cases e1:to_=xn
  ·have q1:(to_==xn)=true:=by simpa using e1
   by_cases e2:xn=(frm:Int)+1
   ·have q2:(xn != (frm:Int)+1)=false:=by simpa using e2
    go_wp2;go_meet
    all_goals exact⟨by simp[e1,e2],rfl⟩
   ·have q2:(xn != (frm:Int)+1)=true:=by simpa using e2
    go_wp2;go_meet
    all_goals exact⟨by simp[e1,e2],rfl⟩
  ·have q1:(to_==xn)=false:=by simpa using e1
   go_wp2;go_meet
   all_goals exact⟨by simp[e1],rfl⟩
 case rest =>
  obtain⟨rfl,rfl⟩:=hcut;obtain⟨wb,hwb⟩:∃ wb:World,wb=wc:=⟨_,rfl⟩
  subst hwb;generalize hfar:(decide (to_=xn)&&decide (xn≠(frm:Int)+1))=far;have HFAR:=qd hfar;clear hfar;go_wp2;go_ret;go_light;exact⟨rfl,Chg.of hb0,fun out ho=>by cases ho;exact hr0⟩
theorem away_move (x:PIns) (B:Nat) (m:PMod) (hh:HF) (f:PFunc) (ta fa:Option Addr) (tl tc fl fc:Nat) (frm:Nat) (to_:Int) (b n c:Nat) (r:List PSpan) (w:World) (hB:B<=w.heap.size) (hf:FuncOk B w hh f) (hfl:frm<f.code.length) (hn1:f.code.length<=1024) (hx:f.code.getD frm default=x) (hi:InsFine m f x) (hr:SpRow w b n c r) (hrg:(n:Int)=f.regs) (hn:n<=64) (hop:x.op=2):Calls Tryz.prog 47 #[.agg #[.slice ta tl tc,.slice fa fl fc],FuncVal hh f,.int .i64 frm,.int .i64 to_,.slice (some ⟨b,0,none⟩) n c] w (AwayPost b n c w (some (spSet r x.a (spAt r x.b)))):=by
 obtain⟨pa,pl,pc,cb,co,cc,rfl,hcm,hcB,⟨g0,g1,g2,g3,g4⟩,hcbl,hcb1,hcb2,hcb3,hfr,hwf⟩:=away_pre hB hf hfl hn1 hx;clear hf;unfold FuncVal;dsimp only;have hbl:=hr.lt;obtain⟨op,xa,xb,xc,xn⟩:=x;obtain⟨v1,v2,v3,v4,v5,v6,v7,v8,v9,v10⟩:=hi;dsimp only at *;subst hop;have hmf:=@mkF Tryz.prog;go_enter Tryz.func47,Tryz.ntmps47;go_upto_region 2 with(fail)
 generalize hW0:World.alloc _ _=W0;obtain⟨hb0,OM,OF,OR,OX,hz0⟩:=own_four hW0;clear hW0 g0 g1 g2 g3 g4;have hr0:=hr.below hb0;have x5:=own5 OX;have o1:=own1 OR;go_cut [12] (fun v wx=>v=.bool (decide (to_=xn)&&decide (xn≠(frm:Int)+1))/\wx=W0)
 case first =>
  by_cases e1:to_=xn
  ·have q1:(to_==xn)=true:=by simpa using e1
   by_cases e2:xn=(frm:Int)+1
   ·have q2:(xn != (frm:Int)+1)=false:=by simpa using e2
    go_wp2;go_meet
    all_goals exact⟨by simp[e1,e2],rfl⟩
   ·have q2:(xn != (frm:Int)+1)=true:=by simpa using e2
    go_wp2;go_meet
    all_goals exact⟨by simp[e1,e2],rfl⟩
  ·have q1:(to_==xn)=false:=by simpa using e1
   go_wp2;go_meet
   all_goals exact⟨by simp[e1],rfl⟩
 case rest =>
  obtain⟨rfl,rfl⟩:=hcut;obtain⟨wb,hwb⟩:∃ wb:World,wb=wc:=⟨_,rfl⟩
  subst hwb;generalize hfar:(decide (to_=xn)&&decide (xn≠(frm:Int)+1))=far;have HFAR:=qd hfar;clear hfar;obtain⟨ka,rfl⟩:=Int.eq_ofNat_of_zero_le v3;have hka:ka<n:=oz
  have hka2:(ka:Int)<(n:Int):=oz
  obtain⟨r0,r1,r2,r3⟩:=hr0.cells hka;obtain⟨kb,rfl⟩:=Int.eq_ofNat_of_zero_le v5;have hkb:kb<n:=oz
  have hkb2:(kb:Int)<(n:Int):=oz
  obtain⟨t0,t1,t2,t3⟩:=hr0.cells hkb;obtain⟨⟨pl',ph'⟩,hp⟩:∃ p,r.getD kb default=p:=⟨_,rfl⟩
  rw[hp]at t0 t1;dsimp only at t0 t1;go_upto_region 8 with(fail)
  refine wp_still 9 kr kr ?_;simp only[TD];repeat(refine WS_step (fun K hK=>?_);go_simp;refine hK _ ?_;clear hK K)
  refine WS_nil ?_;go_wp2;go_ret;go_light;refine⟨rfl,(Chg.of hb0.drew).trans (chg2 _ _ _ _ _ _),fun out ho=>?_⟩;cases ho;unfold spSet spAt;rw[Int.toNat_natCast,Int.toNat_natCast,hp];exact(hr0.below ((Below.refl _ _).drew)).set hka ⟨pl',ph'⟩
theorem sdo_div (a b:PSpan) (w:World) (ha:a.lo<=a.hi) (hb:b.lo<=b.hi):Calls Tryz.prog 85 #[.int .i64 6,spanV a,spanV b] w fun e w'=>e=.returned (.tuple #[spanV (spanDo 6 a b).1,.bool (spanDo 6 a b).2])/\Below w.heap.size w w':=by
 have HA:=qd (fun w=>none_no a w ha);have HB:=qd (fun w=>none_no b w hb);have HX:=qd (fun w hz=>sdivided_any a b w hb hz);by_cases hz:b.lo=0/\b.hi=0
 ·have hd:spanDo 6 a b=(zeroP,false):=by unfold spanDo;rw[show eqP b zeroP=true by simp[eqP,zeroP,hz.1,hz.2]];rfl
  rw[hd];clear hd HX;unfold spanV zeroP at *;obtain⟨lo,hi⟩:=a;obtain⟨lo2,hi2⟩:=b;dsimp only at *;obtain⟨rfl,rfl⟩:=hz;by_cases hl:lo=hi
  ·subst hl;go_enter Tryz.func85,Tryz.ntmps85;go_wp2_with (first|(go_at_call 55;refine(HA.out _).mono ?_;rintro e w1 ⟨rfl,hb1⟩;clear HA;have o1:Own w1 w.heap.size [.int .i64 lo,.int .i64 lo]:=ownbq;have o2:Own w1 (w.heap.size+1) [.int .i64 0,.int .i64 0]:=ownbq;have o3:Own w1 (w.heap.size+1+1) [.int .i64 0,.int .i64 0]:=ownbq;have q1:=own2 o1;have q2:=own2 o2;have hbz:Below w.heap.size w w1:=bel)|(go_at_call 55;refine(HB.out _).mono ?_;rintro e w2 ⟨rfl,hb2⟩;clear HB;have p1:=o1.below hb2;have p2:=o2.below hb2;have p3:=o3.below hb2;have r1:=own2 p1;have r2:=own2 p2;have r3:=own2 p3;have s3:=set2 p3;have hby:Below w.heap.size w w2:=bel;clear hb2 hb1 hbz o1 o2 o3 q1 q2)|fail)
   refine flag_end (by rfl) (by rfl) (by rfl) ownbq si ?_;exact⟨rfl,bel⟩
  ·go_enter Tryz.func85,Tryz.ntmps85;go_wp2_with (first|(go_at_call 55;refine(HA.out _).mono ?_;rintro e w1 ⟨rfl,hb1⟩;clear HA;have o1:Own w1 w.heap.size [.int .i64 lo,.int .i64 hi]:=ownbq;have o2:Own w1 (w.heap.size+1) [.int .i64 0,.int .i64 0]:=ownbq;have o3:Own w1 (w.heap.size+1+1) [.int .i64 0,.int .i64 0]:=ownbq;have q1:=own2 o1;have q2:=own2 o2;have hbz:Below w.heap.size w w1:=bel)|(go_at_call 55;refine(HB.out _).mono ?_;rintro e w2 ⟨rfl,hb2⟩;clear HB;have p1:=o1.below hb2;have p2:=o2.below hb2;have p3:=o3.below hb2;have r1:=own2 p1;have r2:=own2 p2;have r3:=own2 p3;have s3:=set2 p3;have hby:Below w.heap.size w w2:=bel;clear hb2 hb1 hbz o1 o2 o3 q1 q2)|fail)
   refine flag_end (by rfl) (by rfl) (by rfl) ownbq si ?_;exact⟨rfl,bel⟩
 ·have hd:spanDo 6 a b=(dividedP a b,true):=by unfold spanDo;rw[show eqP b zeroP=false by unfold eqP zeroP;by_cases h0:b.lo=0<;>simp_all];rfl
  rw[hd];replace HX:=qd (fun w=>HX.out w hz);dsimp only;generalize dividedP a b=R at *;clear hd;obtain⟨rlo,rhi⟩:=R;unfold spanV at *;obtain⟨lo,hi⟩:=a;obtain⟨lo2,hi2⟩:=b;dsimp only at *;by_cases hl:lo=hi
  ·subst hl;by_cases hk:lo2=hi2
   ·subst hk;have hz2:¬lo2=0:=oz
    go_enter Tryz.func85,Tryz.ntmps85;go_wp2_with (first|(go_at_call 55;refine(HA.out _).mono ?_;rintro e w1 ⟨rfl,hb1⟩;clear HA;have o1:Own w1 w.heap.size [.int .i64 lo,.int .i64 lo]:=ownbq;have o2:Own w1 (w.heap.size+1) [.int .i64 lo2,.int .i64 lo2]:=ownbq;have o3:Own w1 (w.heap.size+1+1) [.int .i64 0,.int .i64 0]:=ownbq;have q1:=own2 o1;have q2:=own2 o2;have hbz:Below w.heap.size w w1:=bel)|(go_at_call 55;refine(HB.out _).mono ?_;rintro e w2 ⟨rfl,hb2⟩;clear HB;have p1:=o1.below hb2;have p2:=o2.below hb2;have p3:=o3.below hb2;have r1:=own2 p1;have r2:=own2 p2;have r3:=own2 p3;have s3:=set2 p3;have hby:Below w.heap.size w w2:=bel;clear hb2 hb1 hbz o1 o2 o3 q1 q2)|fail)
    refine(HX.out _).mono ?_;rintro e w5 ⟨rfl,hb5⟩;have t3:=p3.below hb5;have u3:=own2 t3;have v3:=set2 t3;have hz5:=hb5.size;go_wp2;refine flag_end (by rfl) (by rfl) (by rfl) ownbq si ?_;exact⟨rfl,bel⟩
   ·by_cases hz2:lo2=0
    ·subst hz2;have hz3:¬hi2=0:=oz
     go_enter Tryz.func85,Tryz.ntmps85;go_wp2_with (first|(go_at_call 55;refine(HA.out _).mono ?_;rintro e w1 ⟨rfl,hb1⟩;clear HA;have o1:Own w1 w.heap.size [.int .i64 lo,.int .i64 lo]:=ownbq;have o2:Own w1 (w.heap.size+1) [.int .i64 0,.int .i64 hi2]:=ownbq;have o3:Own w1 (w.heap.size+1+1) [.int .i64 0,.int .i64 0]:=ownbq;have q1:=own2 o1;have q2:=own2 o2;have hbz:Below w.heap.size w w1:=bel)|(go_at_call 55;refine(HB.out _).mono ?_;rintro e w2 ⟨rfl,hb2⟩;clear HB;have p1:=o1.below hb2;have p2:=o2.below hb2;have p3:=o3.below hb2;have r1:=own2 p1;have r2:=own2 p2;have r3:=own2 p3;have s3:=set2 p3;have hby:Below w.heap.size w w2:=bel;clear hb2 hb1 hbz o1 o2 o3 q1 q2)|fail)
     refine(HX.out _).mono ?_;rintro e w5 ⟨rfl,hb5⟩;have t3:=p3.below hb5;have u3:=own2 t3;have v3:=set2 t3;have hz5:=hb5.size;go_wp2;refine flag_end (by rfl) (by rfl) (by rfl) ownbq si ?_;exact⟨rfl,bel⟩
    ·go_enter Tryz.func85,Tryz.ntmps85;go_wp2_with (first|(go_at_call 55;refine(HA.out _).mono ?_;rintro e w1 ⟨rfl,hb1⟩;clear HA;have o1:Own w1 w.heap.size [.int .i64 lo,.int .i64 lo]:=ownbq;have o2:Own w1 (w.heap.size+1) [.int .i64 lo2,.int .i64 hi2]:=ownbq;have o3:Own w1 (w.heap.size+1+1) [.int .i64 0,.int .i64 0]:=ownbq;have q1:=own2 o1;have q2:=own2 o2;have hbz:Below w.heap.size w w1:=bel)|(go_at_call 55;refine(HB.out _).mono ?_;rintro e w2 ⟨rfl,hb2⟩;clear HB;have p1:=o1.below hb2;have p2:=o2.below hb2;have p3:=o3.below hb2;have r1:=own2 p1;have r2:=own2 p2;have r3:=own2 p3;have s3:=set2 p3;have hby:Below w.heap.size w w2:=bel;clear hb2 hb1 hbz o1 o2 o3 q1 q2)|fail)
     refine(HX.out _).mono ?_;rintro e w5 ⟨rfl,hb5⟩;have t3:=p3.below hb5;have u3:=own2 t3;have v3:=set2 t3;have hz5:=hb5.size;go_wp2;refine flag_end (by rfl) (by rfl) (by rfl) ownbq si ?_;exact⟨rfl,bel⟩
  ·by_cases hz2:lo2=0
   ·subst hz2;have hz3:¬hi2=0:=oz
    go_enter Tryz.func85,Tryz.ntmps85;go_wp2_with (first|(go_at_call 55;refine(HA.out _).mono ?_;rintro e w1 ⟨rfl,hb1⟩;clear HA;have o1:Own w1 w.heap.size [.int .i64 lo,.int .i64 hi]:=ownbq;have o2:Own w1 (w.heap.size+1) [.int .i64 0,.int .i64 hi2]:=ownbq;have o3:Own w1 (w.heap.size+1+1) [.int .i64 0,.int .i64 0]:=ownbq;have q1:=own2 o1;have q2:=own2 o2;have hbz:Below w.heap.size w w1:=bel)|(go_at_call 55;refine(HB.out _).mono ?_;rintro e w2 ⟨rfl,hb2⟩;clear HB;have p1:=o1.below hb2;have p2:=o2.below hb2;have p3:=o3.below hb2;have r1:=own2 p1;have r2:=own2 p2;have r3:=own2 p3;have s3:=set2 p3;have hby:Below w.heap.size w w2:=bel;clear hb2 hb1 hbz o1 o2 o3 q1 q2)|fail)
    refine(HX.out _).mono ?_;rintro e w5 ⟨rfl,hb5⟩;have t3:=p3.below hb5;have u3:=own2 t3;have v3:=set2 t3;have hz5:=hb5.size;go_wp2;refine flag_end (by rfl) (by rfl) (by rfl) ownbq si ?_;exact⟨rfl,bel⟩
   ·go_enter Tryz.func85,Tryz.ntmps85;go_wp2_with (first|(go_at_call 55;refine(HA.out _).mono ?_;rintro e w1 ⟨rfl,hb1⟩;clear HA;have o1:Own w1 w.heap.size [.int .i64 lo,.int .i64 hi]:=ownbq;have o2:Own w1 (w.heap.size+1) [.int .i64 lo2,.int .i64 hi2]:=ownbq;have o3:Own w1 (w.heap.size+1+1) [.int .i64 0,.int .i64 0]:=ownbq;have q1:=own2 o1;have q2:=own2 o2;have hbz:Below w.heap.size w w1:=bel)|(go_at_call 55;refine(HB.out _).mono ?_;rintro e w2 ⟨rfl,hb2⟩;clear HB;have p1:=o1.below hb2;have p2:=o2.below hb2;have p3:=o3.below hb2;have r1:=own2 p1;have r2:=own2 p2;have r3:=own2 p3;have s3:=set2 p3;have hby:Below w.heap.size w w2:=bel;clear hb2 hb1 hbz o1 o2 o3 q1 q2)|fail)
    refine(HX.out _).mono ?_;rintro e w5 ⟨rfl,hb5⟩;have t3:=p3.below hb5;have u3:=own2 t3;have v3:=set2 t3;have hz5:=hb5.size;go_wp2;refine flag_end (by rfl) (by rfl) (by rfl) ownbq si ?_;exact⟨rfl,bel⟩
theorem sdo_rem (a b:PSpan) (w:World) (ha:a.lo<=a.hi) (hb:b.lo<=b.hi) (h1:In64 b.lo) (h2:In64 b.hi):Calls Tryz.prog 85 #[.int .i64 7,spanV a,spanV b] w fun e w'=>e=.returned (.tuple #[spanV (spanDo 7 a b).1,.bool (spanDo 7 a b).2])/\Below w.heap.size w w':=by
 have HA:=qd (fun w=>none_no a w ha);have HB:=qd (fun w=>none_no b w hb);have HX:=qd (fun w (hz:¬(b.lo=0/\b.hi=0))=>sleft_any a b w h1 h2);by_cases hz:b.lo=0/\b.hi=0
 ·have hd:spanDo 7 a b=(zeroP,false):=by unfold spanDo;rw[show eqP b zeroP=true by simp[eqP,zeroP,hz.1,hz.2]];rfl
  rw[hd];clear hd HX;unfold spanV zeroP at *;obtain⟨lo,hi⟩:=a;obtain⟨lo2,hi2⟩:=b;dsimp only at *;obtain⟨rfl,rfl⟩:=hz;by_cases hl:lo=hi
  ·subst hl;go_enter Tryz.func85,Tryz.ntmps85;go_wp2_with (first|(go_at_call 55;refine(HA.out _).mono ?_;rintro e w1 ⟨rfl,hb1⟩;clear HA;have o1:Own w1 w.heap.size [.int .i64 lo,.int .i64 lo]:=ownbq;have o2:Own w1 (w.heap.size+1) [.int .i64 0,.int .i64 0]:=ownbq;have o3:Own w1 (w.heap.size+1+1) [.int .i64 0,.int .i64 0]:=ownbq;have q1:=own2 o1;have q2:=own2 o2;have hbz:Below w.heap.size w w1:=bel)|(go_at_call 55;refine(HB.out _).mono ?_;rintro e w2 ⟨rfl,hb2⟩;clear HB;have p1:=o1.below hb2;have p2:=o2.below hb2;have p3:=o3.below hb2;have r1:=own2 p1;have r2:=own2 p2;have r3:=own2 p3;have s3:=set2 p3;have hby:Below w.heap.size w w2:=bel;clear hb2 hb1 hbz o1 o2 o3 q1 q2)|fail)
   refine flag_end (by rfl) (by rfl) (by rfl) ownbq si ?_;exact⟨rfl,bel⟩
  ·go_enter Tryz.func85,Tryz.ntmps85;go_wp2_with (first|(go_at_call 55;refine(HA.out _).mono ?_;rintro e w1 ⟨rfl,hb1⟩;clear HA;have o1:Own w1 w.heap.size [.int .i64 lo,.int .i64 hi]:=ownbq;have o2:Own w1 (w.heap.size+1) [.int .i64 0,.int .i64 0]:=ownbq;have o3:Own w1 (w.heap.size+1+1) [.int .i64 0,.int .i64 0]:=ownbq;have q1:=own2 o1;have q2:=own2 o2;have hbz:Below w.heap.size w w1:=bel)|(go_at_call 55;refine(HB.out _).mono ?_;rintro e w2 ⟨rfl,hb2⟩;clear HB;have p1:=o1.below hb2;have p2:=o2.below hb2;have p3:=o3.below hb2;have r1:=own2 p1;have r2:=own2 p2;have r3:=own2 p3;have s3:=set2 p3;have hby:Below w.heap.size w w2:=bel;clear hb2 hb1 hbz o1 o2 o3 q1 q2)|fail)
   refine flag_end (by rfl) (by rfl) (by rfl) ownbq si ?_;exact⟨rfl,bel⟩
 ·have hd:spanDo 7 a b=(leftP a b,true):=by unfold spanDo;rw[show eqP b zeroP=false by unfold eqP zeroP;by_cases h0:b.lo=0<;>simp_all];rfl
  rw[hd];replace HX:=qd (fun w=>HX.out w hz);dsimp only;generalize leftP a b=R at *;clear hd;obtain⟨rlo,rhi⟩:=R;unfold spanV at *;obtain⟨lo,hi⟩:=a;obtain⟨lo2,hi2⟩:=b;dsimp only at *;by_cases hl:lo=hi
  ·subst hl;by_cases hk:lo2=hi2
   ·subst hk;have hz2:¬lo2=0:=oz
    go_enter Tryz.func85,Tryz.ntmps85;go_wp2_with (first|(go_at_call 55;refine(HA.out _).mono ?_;rintro e w1 ⟨rfl,hb1⟩;clear HA;have o1:Own w1 w.heap.size [.int .i64 lo,.int .i64 lo]:=ownbq;have o2:Own w1 (w.heap.size+1) [.int .i64 lo2,.int .i64 lo2]:=ownbq;have o3:Own w1 (w.heap.size+1+1) [.int .i64 0,.int .i64 0]:=ownbq;have q1:=own2 o1;have q2:=own2 o2;have hbz:Below w.heap.size w w1:=bel)|(go_at_call 55;refine(HB.out _).mono ?_;rintro e w2 ⟨rfl,hb2⟩;clear HB;have p1:=o1.below hb2;have p2:=o2.below hb2;have p3:=o3.below hb2;have r1:=own2 p1;have r2:=own2 p2;have r3:=own2 p3;have s3:=set2 p3;have hby:Below w.heap.size w w2:=bel;clear hb2 hb1 hbz o1 o2 o3 q1 q2)|fail)
    refine(HX.out _).mono ?_;rintro e w5 ⟨rfl,hb5⟩;have t3:=p3.below hb5;have u3:=own2 t3;have v3:=set2 t3;have hz5:=hb5.size;go_wp2;refine flag_end (by rfl) (by rfl) (by rfl) ownbq si ?_;exact⟨rfl,bel⟩
   ·by_cases hz2:lo2=0
    ·subst hz2;have hz3:¬hi2=0:=oz
     go_enter Tryz.func85,Tryz.ntmps85;go_wp2_with (first|(go_at_call 55;refine(HA.out _).mono ?_;rintro e w1 ⟨rfl,hb1⟩;clear HA;have o1:Own w1 w.heap.size [.int .i64 lo,.int .i64 lo]:=ownbq;have o2:Own w1 (w.heap.size+1) [.int .i64 0,.int .i64 hi2]:=ownbq;have o3:Own w1 (w.heap.size+1+1) [.int .i64 0,.int .i64 0]:=ownbq;have q1:=own2 o1;have q2:=own2 o2;have hbz:Below w.heap.size w w1:=bel)|(go_at_call 55;refine(HB.out _).mono ?_;rintro e w2 ⟨rfl,hb2⟩;clear HB;have p1:=o1.below hb2;have p2:=o2.below hb2;have p3:=o3.below hb2;have r1:=own2 p1;have r2:=own2 p2;have r3:=own2 p3;have s3:=set2 p3;have hby:Below w.heap.size w w2:=bel;clear hb2 hb1 hbz o1 o2 o3 q1 q2)|fail)
     refine(HX.out _).mono ?_;rintro e w5 ⟨rfl,hb5⟩;have t3:=p3.below hb5;have u3:=own2 t3;have v3:=set2 t3;have hz5:=hb5.size;go_wp2;refine flag_end (by rfl) (by rfl) (by rfl) ownbq si ?_;exact⟨rfl,bel⟩
    ·go_enter Tryz.func85,Tryz.ntmps85;go_wp2_with (first|(go_at_call 55;refine(HA.out _).mono ?_;rintro e w1 ⟨rfl,hb1⟩;clear HA;have o1:Own w1 w.heap.size [.int .i64 lo,.int .i64 lo]:=ownbq;have o2:Own w1 (w.heap.size+1) [.int .i64 lo2,.int .i64 hi2]:=ownbq;have o3:Own w1 (w.heap.size+1+1) [.int .i64 0,.int .i64 0]:=ownbq;have q1:=own2 o1;have q2:=own2 o2;have hbz:Below w.heap.size w w1:=bel)|(go_at_call 55;refine(HB.out _).mono ?_;rintro e w2 ⟨rfl,hb2⟩;clear HB;have p1:=o1.below hb2;have p2:=o2.below hb2;have p3:=o3.below hb2;have r1:=own2 p1;have r2:=own2 p2;have r3:=own2 p3;have s3:=set2 p3;have hby:Below w.heap.size w w2:=bel;clear hb2 hb1 hbz o1 o2 o3 q1 q2)|fail)
     refine(HX.out _).mono ?_;rintro e w5 ⟨rfl,hb5⟩;have t3:=p3.below hb5;have u3:=own2 t3;have v3:=set2 t3;have hz5:=hb5.size;go_wp2;refine flag_end (by rfl) (by rfl) (by rfl) ownbq si ?_;exact⟨rfl,bel⟩
  ·by_cases hz2:lo2=0
   ·subst hz2;have hz3:¬hi2=0:=oz
    go_enter Tryz.func85,Tryz.ntmps85;go_wp2_with (first|(go_at_call 55;refine(HA.out _).mono ?_;rintro e w1 ⟨rfl,hb1⟩;clear HA;have o1:Own w1 w.heap.size [.int .i64 lo,.int .i64 hi]:=ownbq;have o2:Own w1 (w.heap.size+1) [.int .i64 0,.int .i64 hi2]:=ownbq;have o3:Own w1 (w.heap.size+1+1) [.int .i64 0,.int .i64 0]:=ownbq;have q1:=own2 o1;have q2:=own2 o2;have hbz:Below w.heap.size w w1:=bel)|(go_at_call 55;refine(HB.out _).mono ?_;rintro e w2 ⟨rfl,hb2⟩;clear HB;have p1:=o1.below hb2;have p2:=o2.below hb2;have p3:=o3.below hb2;have r1:=own2 p1;have r2:=own2 p2;have r3:=own2 p3;have s3:=set2 p3;have hby:Below w.heap.size w w2:=bel;clear hb2 hb1 hbz o1 o2 o3 q1 q2)|fail)
    refine(HX.out _).mono ?_;rintro e w5 ⟨rfl,hb5⟩;have t3:=p3.below hb5;have u3:=own2 t3;have v3:=set2 t3;have hz5:=hb5.size;go_wp2;refine flag_end (by rfl) (by rfl) (by rfl) ownbq si ?_;exact⟨rfl,bel⟩
   ·go_enter Tryz.func85,Tryz.ntmps85;go_wp2_with (first|(go_at_call 55;refine(HA.out _).mono ?_;rintro e w1 ⟨rfl,hb1⟩;clear HA;have o1:Own w1 w.heap.size [.int .i64 lo,.int .i64 hi]:=ownbq;have o2:Own w1 (w.heap.size+1) [.int .i64 lo2,.int .i64 hi2]:=ownbq;have o3:Own w1 (w.heap.size+1+1) [.int .i64 0,.int .i64 0]:=ownbq;have q1:=own2 o1;have q2:=own2 o2;have hbz:Below w.heap.size w w1:=bel)|(go_at_call 55;refine(HB.out _).mono ?_;rintro e w2 ⟨rfl,hb2⟩;clear HB;have p1:=o1.below hb2;have p2:=o2.below hb2;have p3:=o3.below hb2;have r1:=own2 p1;have r2:=own2 p2;have r3:=own2 p3;have s3:=set2 p3;have hby:Below w.heap.size w w2:=bel;clear hb2 hb1 hbz o1 o2 o3 q1 q2)|fail)
    refine(HX.out _).mono ?_;rintro e w5 ⟨rfl,hb5⟩;have t3:=p3.below hb5;have u3:=own2 t3;have v3:=set2 t3;have hz5:=hb5.size;go_wp2;refine flag_end (by rfl) (by rfl) (by rfl) ownbq si ?_;exact⟨rfl,bel⟩
end Go.Proofs.YteebpnbdihcfmaaGreatDoor
