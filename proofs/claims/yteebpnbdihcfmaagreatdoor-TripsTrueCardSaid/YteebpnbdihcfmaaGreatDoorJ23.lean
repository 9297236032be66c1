/- Package bounds; Package bounds -/
import Derived.Test.YteebpnbdihcfmaaGreatDoorJ21
import Derived.Test.YteebpnbdihcfmaaGreatDoorJ16
import Derived.Test.YteebpnbdihcfmaaGreatDoorJ01
set_option linter.unusedVariables false
set_option linter.unusedSimpArgs false
set_option maxRecDepth 100000
set_option maxHeartbeats 20000000
namespace Go.Proofs.YteebpnbdihcfmaaGreatDoor
open Go.RowKit
theorem away_rem (x:PIns) (B:Nat) (m:PMod) (hh:HF) (f:PFunc) (ta fa:Option Addr) (tl tc fl fc:Nat) (frm:Nat) (to_:Int) (b n c:Nat) (r:List PSpan) (w:World) (hB:B<=w.heap.size) (hf:FuncOk B w hh f) (hfl:frm<f.code.length) (hn1:f.code.length<=1024) (hx:f.code.getD frm default=x) (hi:InsFine m f x) (hr:SpRow w b n c r) (hrg:(n:Int)=f.regs) (hn:n<=64) (hop:x.op=7) (hrok:LOk n r):Calls Tryz.prog 47 #[.agg #[.slice ta tl tc,.slice fa fl fc],FuncVal hh f,.int .i64 frm,.int .i64 to_,.slice (some ⟨b,0,none⟩) n c] w (AwayPost b n c w (opWay x r)):=by
 obtain⟨pa,pl,pc,cb,co,cc,rfl,hcm,hcB,⟨g0,g1,g2,g3,g4⟩,hcbl,hcb1,hcb2,hcb3,hfr,hwf⟩:=away_pre hB hf hfl hn1 hx;clear hf;unfold FuncVal;dsimp only;have hbl:=hr.lt;obtain⟨op,xa,xb,xc,xn⟩:=x;obtain⟨v1,v2,v3,v4,v5,v6,v7,v8,v9,v10⟩:=hi;dsimp only at *;subst hop;have hmf:=@mkF Tryz.prog;go_enter Tryz.func47,Tryz.ntmps47;go_upto_region 2 with(fail)
 generalize hW0:World.alloc _ _=W0;obtain⟨hb0,OM,OF,OR,OX,hz0⟩:=own_four hW0;clear hW0 g0 g1 g2 g3 g4;have hr0:=hr.below hb0;have x5:=own5 OX;have o1:=own1 OR;go_cut [12] (fun v wx=>v=.bool (decide (to_=xn)&&decide (xn≠(frm:Int)+1))/\wx=W0)
 case first =>
  by_cases e1:to_=xn
  ·have q1:(to_==xn)=true:=by simpa using e1
   by_cases e2:xn=(frm:Int)+1
   ·have q2:(xn != (frm:Int)+1)=false:=by simpa using e2
    go_wp2;go_meet
    all_goals exact⟨by simp[e1,e2],rfl⟩
   ·have q2:(xn != (frm:Int)+1)=true:=by simpa using e2
    go_wp2;go_meet
    all_goals exact⟨by simp[e1,e2],rfl⟩
  ·have q1:(to_==xn)=false:=by simpa using e1
   go_wp2;go_meet
   all_goals exact⟨by simp[e1],rfl⟩
 case rest =>
  obtain⟨rfl,rfl⟩:=hcut;obtain⟨wb,hwb⟩:∃ wb:World,wb=wc:=⟨_,rfl⟩
  subst hwb;generalize hfar:(decide (to_=xn)&&decide (xn≠(frm:Int)+1))=far;have HFAR:=qd hfar;clear hfar;obtain⟨ka,rfl⟩:=Int.eq_ofNat_of_zero_le v3;have hka:ka<n:=oz
  have hka2:(ka:Int)<(n:Int):=oz
  obtain⟨r0,r1,r2,r3⟩:=hr0.cells hka;obtain⟨kb,rfl⟩:=Int.eq_ofNat_of_zero_le v5;have hkb:kb<n:=oz
  have hkb2:(kb:Int)<(n:Int):=oz
  obtain⟨t0,t1,t2,t3⟩:=hr0.cells hkb;obtain⟨kc,rfl⟩:=Int.eq_ofNat_of_zero_le v7;have hkc:kc<n:=oz
  have hkc2:(kc:Int)<(n:Int):=oz
  go_upto_region 17 with(fail)
  have hL:=hrok;have hpb:SpOk (r.getD kb default):=hL.2 kb oz;have hpc:SpOk (r.getD kc default):=hL.2 kc oz;have HD:=qd (fun w=>do_is 7 (r.getD kb default) (r.getD kc default) w oz hpb hpc);have hres:opWay ⟨7,ka,kb,kc,xn⟩ r=if(spanDo 7 (r.getD kb default) (r.getD kc default)).2 then some ((r.set kc (without0P (r.getD kc default)).1).set ka (spanDo 7 (r.getD kb default) (r.getD kc default)).1)else none:=by
   unfold opWay spAt spSet;simp
  have hcf:∀ (args:Array Value) (w:World),(callFunc 85 args).run Tryz.prog w=.ok (.enter 85 args) w:=fun _ _=>rfl;have HRES:=qd hres;clear hres hpb hpc hL hrok x5 o1 r0 r1 r2 r3 t0 t1 t2 t3;have HSS:Hid (∀ w',Below wb.heap.size wb w'->w'.cell? ⟨w.heap.size+1+1,0,none⟩=some (.slice (some ⟨b,0,none⟩) n c)/\w'.cell? ⟨w.heap.size+1+1+1,0,none⟩=some (.int .i64 7)/\w'.cell? ⟨w.heap.size+1+1+1,2,none⟩=some (.int .i64 kb)/\w'.cell? ⟨w.heap.size+1+1+1,3,none⟩=some (.int .i64 kc) /\
   w'.cell? ⟨b,kb*2,none⟩=some (.int .i64 (r.getD kb default).lo)/\w'.cell? ⟨b,kb*2+1,none⟩=some (.int .i64 (r.getD kb default).hi)/\w'.cell? ⟨b,kc*2,none⟩=some (.int .i64 (r.getD kc default).lo)/\w'.cell? ⟨b,kc*2+1,none⟩=some (.int .i64 (r.getD kc default).hi)):=qd (fun w' hw=>by
   obtain⟨_,s0,_⟩:=own1 (OR.below hw);have x5:=own5 (OX.below hw);obtain⟨b0,b1,_,_⟩:=(hr0.below hw).cells hkb;obtain⟨c0,c1,_,_⟩:=(hr0.below hw).cells hkc;exact⟨s0,x5.2.1,x5.2.2.2.1,x5.2.2.2.2.1,b0,b1,c0,c1⟩)
  have HW0:=qd (fun w=>without_is (r.getD kc default) w);generalize without0P (r.getD kc default)=wq at *;obtain⟨⟨qlo,qhi⟩,qok⟩:=wq;generalize spanDo 7 (r.getD kb default) (r.getD kc default)=res at *;obtain⟨⟨rlo,rhi⟩,rok⟩:=res;generalize r.getD kb default=pb at *;generalize r.getD kc default=pc at *;obtain⟨blo,bhi⟩:=pb;obtain⟨clo,chi⟩:=pc;dsimp only at HD HSS HRES HW0;have HOX:=qd OX;have HOR:=qd OR;have HR0:=qd hr0;clear OX OR hr0 OM OF hr hmf hx hrg hfr hwf v1 v2 v4 v6 v8 v9 v10 hcm hcB hcbl hcb1 hcb2 hcb3 hfl hn1;have hzw:w.heap.size+4<=wb.heap.size:=hz0;go_cut [14,15] (fun v14 v15 wc=>∃ k:Nat,v14=.pointer (some ⟨k,0,none⟩)/\v15=.bool rok/\Hid (Own wc k [.int .i64 rlo,.int .i64 rhi])/\Below wb.heap.size wb wc/\wb.heap.size<=k)
  case first =>
   generalize hA0:(Act.mk _ _:Act)=a0;have Ee:a0.eval (.tmp 9)=.pointer (some ⟨w.heap.size+1+1,0,none⟩)/\a0.eval (.tmp 11)=.pointer (some ⟨w.heap.size+1+1+1,0,none⟩)/\a0.tmps.size=290:=by rw[<-hA0];exact⟨rfl,rfl,rfl⟩
   refine region_held_plain (fun w'=>Below wb.heap.size wb w') kr ((Below.refl _ wb).drew) ?_;intro K0 hK0 hHeld
   try dsimp only at hHeld
   refine wtk 0 rfl ?_;try simp only[GE]
   refine wtk 1 rfl ?_;try simp only[GE]
   refine wtk 2 rfl ?_;try simp only[GE]
   refine wtk 3 rfl ?_;try simp only[GE]
   refine wtk 4 rfl ?_;try simp only[GE]
   refine wtk 5 rfl ?_;try simp only[GE]
   refine wtk 6 rfl ?_;try simp only[GE]
   refine wtk 7 rfl ?_;try simp only[GE]
   refine wtk 8 rfl ?_;try simp only[GE]
   refine wtk 9 rfl ?_;try simp only[GE]
   refine wtk 10 rfl ?_;try simp only[GE]
   refine wtk 11 rfl ?_;try simp only[GE]
   generalize hA1:(Act.put _ _ _:Act)=a1;replace Ee:a1.eval (.tmp 76)=.int .i64 7/\a1.eval (.tmp 81)=.agg #[.int .i64 blo,.int .i64 bhi]/\a1.eval (.tmp 86)=.agg #[.int .i64 clo,.int .i64 chi]/\a1.tmps.size=290:=ee1;refine wpAnyH_ready (rs:=[12,16]) kr si ?_;refine AllReadyH.cons rfl (fun K hK=>?_) (AllReadyH.cons rfl (fun K hK=>?_) AllReadyH.nil)
   ·refine step_callF rfl 85 [.tmp 76,.tmp 81,.tmp 86] #[3,47,47] rfl hcf [.int .i64 7,.agg #[.int .i64 blo,.int .i64 bhi],.agg #[.int .i64 clo,.int .i64 chi]] (by simp only[GE,MX,EX,Ee,reduceIte,Nat.reduceEqDiff,Nat.reduceLT,Nat.reduceBEq]) _ (HD.out _) ?_;rintro v wM ⟨rfl,hbM⟩;have hwM:Below wb.heap.size wb wM:=hHeld.trans (hbM.mono hHeld.size);have hzM:=hwM.size;refine hK.out _ _ (hwM) fun hHeld=>?_;clear hK K;try simp only[GE]
    refine wtk 13 rfl ?_;try simp only[GE]
    refine wtk 14 rfl ?_;try simp only[GE]
    refine wtk 15 rfl ?_;try simp only[GE]
    generalize hA2:(Act.put _ _ _:Act)=a2;replace Ee:a2.eval (.tmp 88)=.agg #[.int .i64 rlo,.int .i64 rhi]/\a2.eval (.tmp 89)=.bool rok/\a2.tmps.size=290:=ee2;refine readyH1 16 ?_ kr ?_ ?_;rotate_left
    ·exact rfl
    intro K hK;simp only[GE];refine stv ?_;refine hK.out _ _ (bel) fun hHeld=>?_;clear hK K;try simp only[GE]
    generalize hA3:(Act.put _ _ _:Act)=a3;replace Ee:a3.eval (.tmp 88)=.agg #[.int .i64 rlo,.int .i64 rhi]/\a3.eval (.tmp 89)=.bool rok/\a3.eval (.tmp 14)=.pointer (some ⟨wM.heap.size,0,none⟩)/\a3.tmps.size=290:=ee3;refine readyH1 17 ?_ kr ?_ ?_;rotate_left
    ·exact rfl
    intro K hK;simp only[GE];refine sts ?_;refine hK.out _ _ (bel) fun hHeld=>?_;clear hK K;try simp only[GE]
    generalize hA4:(Act.put _ _ _:Act)=a4;replace Ee:a4.eval (.tmp 89)=.bool rok/\a4.tmps.size=290:=ee4;refine wtk 18 rfl ?_;try simp only[GE]
    refine anyH_done kr ?_;refine hK0.out _ _ ?_;subst hA4;subst hA3;subst hA2;subst hA1;subst hA0
    try clear Ee
    simp only[GE,Act.put,SU];go_wp2;go_meet;exact⟨wM.heap.size,rfl,rfl,qd (Own.new _ _ _),bel,hzM⟩
   ·simp only[GE];refine stv ?_;refine hK.out _ _ (bel) fun hHeld=>?_;clear hK K;try simp only[GE]
    generalize hA2:(Act.put _ _ _:Act)=a2;replace Ee:a2.eval (.tmp 76)=.int .i64 7/\a2.eval (.tmp 81)=.agg #[.int .i64 blo,.int .i64 bhi]/\a2.eval (.tmp 86)=.agg #[.int .i64 clo,.int .i64 chi]/\a2.eval (.tmp 14)=.pointer (some ⟨wb.heap.size,0,none⟩)/\a2.tmps.size=290:=ee2;refine readyH1 12 ?_ kr ?_ ?_;rotate_left
    ·exact rfl
    intro K hK;refine step_callF rfl 85 [.tmp 76,.tmp 81,.tmp 86] #[3,47,47] rfl hcf [.int .i64 7,.agg #[.int .i64 blo,.int .i64 bhi],.agg #[.int .i64 clo,.int .i64 chi]] (by simp only[GE,MX,EX,Ee,reduceIte,Nat.reduceEqDiff,Nat.reduceLT,Nat.reduceBEq]) _ (HD.out _) ?_;rintro v wM ⟨rfl,hbM⟩;have hwM:Below wb.heap.size wb wM:=hHeld.trans (hbM.mono hHeld.size);have hzM:=hwM.size;have pM:=Own.below (Own.drew (Own.new' wb [.int .i64 0,.int .i64 0] 47 wb.heap.size rfl)) hbM;have oM:=own2 pM;refine hK.out _ _ (hwM) fun hHeld=>?_;clear hK K;try simp only[GE]
    refine wtk 13 rfl ?_;try simp only[GE]
    refine wtk 14 rfl ?_;try simp only[GE]
    refine wtk 15 rfl ?_;try simp only[GE]
    generalize hA3:(Act.put _ _ _:Act)=a3;replace Ee:a3.eval (.tmp 88)=.agg #[.int .i64 rlo,.int .i64 rhi]/\a3.eval (.tmp 89)=.bool rok/\a3.eval (.tmp 14)=.pointer (some ⟨wb.heap.size,0,none⟩)/\a3.tmps.size=290:=ee3;refine readyH1 17 ?_ kr ?_ ?_;rotate_left
    ·exact rfl
    intro K hK;simp only[GE];refine sts ?_;refine hK.out _ _ (bel) fun hHeld=>?_;clear hK K;try simp only[GE]
    generalize hA4:(Act.put _ _ _:Act)=a4;replace Ee:a4.eval (.tmp 89)=.bool rok/\a4.tmps.size=290:=ee4;refine wtk 18 rfl ?_;try simp only[GE]
    refine anyH_done kr ?_;refine hK0.out _ _ ?_;subst hA4;subst hA3;subst hA2;subst hA1;subst hA0
    try clear Ee
    simp only[GE,Act.put,SU];go_wp2;go_meet;exact⟨wb.heap.size,rfl,rfl,qd ((pM.set 0 _ si).set 1 _ si),bel,Nat.le_refl _⟩
  case rest =>
   obtain⟨k,rfl,rfl,OK,hbd,hkl⟩:=hcut;have hzd:=hbd.size;obtain⟨k0,k1,k2,k3,k4⟩:=own2 OK.out;have x5:=own5 (HOX.out.below hbd);have o1:=own1 (HOR.out.below hbd);have HRd:=qd (HR0.out.below hbd);obtain⟨r0,r1,r2,r3⟩:=HRd.out.cells hka;have hbl2:b<wc.heap.size:=HRd.out.lt;cases rok
   ·go_wp2;go_ret;go_light;have e:=HRES.out;simp only[Bool.false_eq_true,if_false,reduceIte]at e;rw[e];exact⟨rfl,Chg.of (hb0.trans (hbd.mono oz)),fun out ho=>by cases ho⟩
   ·have hcf2:∀ (args:Array Value) (w:World),(callFunc 86 args).run Tryz.prog w=.ok (.enter 86 args) w:=fun _ _=>rfl;have HSS2:Hid (∀ w',Chg (· = b) wc w'->w'.cell? ⟨w.heap.size+1+1,0,none⟩=some (.slice (some ⟨b,0,none⟩) n c)/\w'.cell? ⟨w.heap.size+1+1+1,3,none⟩=some (.int .i64 kc)):=qd (fun w' hw=>by
     obtain⟨_,s0,_⟩:=own1 (hw.own (HOR.out.below hbd) (by show ¬(_=b);omega));have x5:=own5 (hw.own (HOX.out.below hbd) (by show ¬(_=b);omega));exact⟨s0,x5.2.2.2.2.1⟩)
    obtain⟨-,-,-,-,-,-,c6,c7⟩:=HSS.out wc hbd;clear HD;go_upto_region 21 with(fail)
    clear x5 o1 r0 r1 r2 r3 k0 k1 k2 k3 k4;generalize hA0:(Act.mk _ _:Act)=a0;have Ee:a0.eval (.tmp 9)=.pointer (some ⟨w.heap.size+1+1,0,none⟩)/\a0.eval (.tmp 11)=.pointer (some ⟨w.heap.size+1+1+1,0,none⟩)/\a0.tmps.size=290:=by rw[<-hA0];exact⟨rfl,rfl,rfl⟩
    refine region_held_plain (fun w'=>Chg (· = b) wc w') kr ((Chg.refl _ wc).drew) ?_;intro K0 hK0 hHeld
    try dsimp only at hHeld
    refine wtk2 0 rfl ?_;try simp only[GE]
    refine wtk2 1 rfl ?_;try simp only[GE]
    refine wtk2 2 rfl ?_;try simp only[GE]
    refine wtk2 3 rfl ?_;try simp only[GE]
    refine wtk2 4 rfl ?_;try simp only[GE]
    refine wtk2 5 rfl ?_;try simp only[GE]
    refine wtk2 6 rfl ?_;try simp only[GE]
    generalize hA1:(Act.put _ _ _:Act)=a1;replace Ee:a1.eval (.tmp 107)=.pointer (some ⟨b,kc*2,none⟩)/\a1.eval (.tmp 101)=.slice (some ⟨b,0,none⟩) n c/\a1.eval (.tmp 103)=.int .i64 kc/\a1.tmps.size=290:=ee1;refine readyH1 7 ?_ kr ?_ ?_;rotate_left
    ·exact rfl
    intro K hK;simp only[GE];refine stv ?_;refine hK.out _ _ (chq) fun hHeld=>?_;clear hK K;try simp only[GE]
    generalize hA2:(Act.put _ _ _:Act)=a2;replace Ee:a2.eval (.tmp 108)=.agg #[.int .i64 clo,.int .i64 chi]/\a2.eval (.tmp 101)=.slice (some ⟨b,0,none⟩) n c/\a2.eval (.tmp 103)=.int .i64 kc/\a2.tmps.size=290:=ee2;refine readyH1 8 ?_ kr ?_ ?_;rotate_left
    ·exact rfl
    intro K hK;refine step_callF rfl 86 [.tmp 108] #[47] rfl hcf2 [.agg #[.int .i64 clo,.int .i64 chi]] (by simp only[GE,MX,EX,Ee,reduceIte,Nat.reduceEqDiff,Nat.reduceLT,Nat.reduceBEq]) _ (HW0.out _) ?_;rintro v wM ⟨rfl,hbM⟩;have hwM:Chg (· = b) wc wM:=hHeld.trans (Chg.of hbM);have hzM:=hwM.size;have hrM:SpRow wM b n c r:=(HRd.out.below ((Below.refl _ _).drew)).below hbM;obtain⟨q0,q1,q2,q3⟩:=hrM.cells hkc;refine hK.out _ _ (hwM) fun hHeld=>?_;clear hK K;try simp only[GE]
    refine wtk2 9 rfl ?_;try simp only[GE]
    refine wtk2 10 rfl ?_;try simp only[GE]
    refine wtk2 11 rfl ?_;try simp only[GE]
    refine wtk2 12 rfl ?_;try simp only[GE]
    generalize hA3:(Act.put _ _ _:Act)=a3;replace Ee:a3.eval (.tmp 110)=.agg #[.int .i64 qlo,.int .i64 qhi]/\a3.eval (.tmp 112)=.pointer (some ⟨b,kc*2,none⟩)/\a3.tmps.size=290:=ee3;refine readyH1 13 ?_ kr ?_ ?_;rotate_left
    ·exact rfl
    intro K hK;simp only[GE];refine sts ?_;refine hK.out _ _ (chq) fun hHeld=>?_;clear hK K;try simp only[GE]
    refine anyH_done kr ?_;refine hK0.out _ _ ?_;subst hA3;subst hA2;subst hA1;subst hA0
    try clear Ee
    simp only[GE,Act.put,SU];generalize hW9:(wM.setCell ⟨b,kc*2,none⟩ (.int .i64 qlo)).setCell ⟨b,kc*2+1,none⟩ (.int .i64 qhi)=w9;have hC9:Chg (· = b) wc w9:=by rw[<-hW9];exact hwM.trans (chg2 _ _ _ _ _ _)
    have hR9:SpRow w9 b n c (r.set kc ⟨qlo,qhi⟩):=by rw[<-hW9];exact hrM.set hkc ⟨qlo,qhi⟩
    clear hW9 hwM hrM hbM q0 q1 q2 q3 c6 c7;obtain⟨u0,u1,u2,u3,u4⟩:=own2 (hC9.own OK.out (by show ¬(_=b);omega));have x9:=own5 (hC9.own (HOX.out.below hbd) (by show ¬(_=b);omega));have o9:=own1 (hC9.own (HOR.out.below hbd) (by show ¬(_=b);omega));have HR9:=qd hR9;have HC9:=qd hC9;clear hR9 hC9;obtain⟨r0,r1,r2,r3⟩:=HR9.out.cells hka;go_wp2;go_ret;go_light;have e:=HRES.out;simp only[if_true,reduceIte]at e;rw[e];exact⟨rfl,(Chg.of (hb0.trans (hbd.mono oz))).trans (HC9.out.trans (chg2 _ _ _ _ _ _)),fun out ho=>by cases ho;exact HR9.out.set hka ⟨rlo,rhi⟩⟩
theorem away_step (x:PIns) (B:Nat) (m:PMod) (hh:HF) (f:PFunc) (ta fa:Option Addr) (tl tc fl fc:Nat) (frm:Nat) (to_:Int) (b n c:Nat) (r:List PSpan) (w:World) (hB:B<=w.heap.size) (hf:FuncOk B w hh f) (hfl:frm<f.code.length) (hn1:f.code.length<=1024) (hx:f.code.getD frm default=x) (hi:InsFine m f x) (hr:SpRow w b n c r) (hrg:(n:Int)=f.regs) (hn:n<=64) (hop:x.op=18) (hrok:LOk n r):Calls Tryz.prog 47 #[.agg #[.slice ta tl tc,.slice fa fl fc],FuncVal hh f,.int .i64 frm,.int .i64 to_,.slice (some ⟨b,0,none⟩) n c] w (AwayPost b n c w (some (spSet r x.a (spanDo 3 (spAt r x.a) ⟨1,1⟩).1))):=by
 obtain⟨pa,pl,pc,cb,co,cc,rfl,hcm,hcB,⟨g0,g1,g2,g3,g4⟩,hcbl,hcb1,hcb2,hcb3,hfr,hwf⟩:=away_pre hB hf hfl hn1 hx;clear hf;unfold FuncVal;dsimp only;have hbl:=hr.lt;obtain⟨op,xa,xb,xc,xn⟩:=x;obtain⟨v1,v2,v3,v4,v5,v6,v7,v8,v9,v10⟩:=hi;dsimp only at *;subst hop;have hmf:=@mkF Tryz.prog;go_enter Tryz.func47,Tryz.ntmps47;go_upto_region 2 with(fail)
 generalize hW0:World.alloc _ _=W0;obtain⟨hb0,OM,OF,OR,OX,hz0⟩:=own_four hW0;clear hW0 g0 g1 g2 g3 g4;have hr0:=hr.below hb0;have x5:=own5 OX;have o1:=own1 OR;go_cut [12] (fun v wx=>v=.bool (decide (to_=xn)&&decide (xn≠(frm:Int)+1))/\wx=W0)
 case first =>
  by_cases e1:to_=xn
  ·have q1:(to_==xn)=true:=by simpa using e1
   by_cases e2:xn=(frm:Int)+1
   ·have q2:(xn != (frm:Int)+1)=false:=by simpa using e2
    go_wp2;go_meet
    all_goals exact⟨by simp[e1,e2],rfl⟩
   ·have q2:(xn != (frm:Int)+1)=true:=by simpa using e2
    go_wp2;go_meet
    all_goals exact⟨by simp[e1,e2],rfl⟩
  ·have q1:(to_==xn)=false:=by simpa using e1
   go_wp2;go_meet
   all_goals exact⟨by simp[e1],rfl⟩
 case rest =>
  obtain⟨rfl,rfl⟩:=hcut;obtain⟨wb,hwb⟩:∃ wb:World,wb=wc:=⟨_,rfl⟩
  subst hwb;generalize hfar:(decide (to_=xn)&&decide (xn≠(frm:Int)+1))=far;have HFAR:=qd hfar;clear hfar;obtain⟨ka,rfl⟩:=Int.eq_ofNat_of_zero_le v3;have hka:ka<n:=oz
  have hka2:(ka:Int)<(n:Int):=oz
  obtain⟨r0,r1,r2,r3⟩:=hr0.cells hka;have hcf:∀ (args:Array Value) (w:World),(callFunc 85 args).run Tryz.prog w=.ok (.enter 85 args) w:=fun _ _=>rfl;have HD:=qd (fun w=>do_is 3 (r.getD ka default) ⟨1,1⟩ w oz (hrok.2 ka oz) ⟨by unfold In64;dsimp only;omega,by unfold In64;dsimp only;omega,Int.le_refl _⟩);have HRES:=qd (show some (spSet r ka (spanDo 3 (spAt r ka) ⟨1,1⟩).1)=some (r.set ka (spanDo 3 (r.getD ka default) ⟨1,1⟩).1) by unfold spSet spAt;simp);generalize spanDo 3 (r.getD ka default) ⟨1,1⟩=res at *;obtain⟨⟨rlo,rhi⟩,rok⟩:=res;obtain⟨pa,hpa⟩:∃ p,r.getD ka default=p:=⟨_,rfl⟩
  rw[hpa]at HD r0 r1;clear hpa;obtain⟨alo,ahi⟩:=pa;dsimp only at HD HRES r0 r1;have HSS:Hid (∀ w',Chg (· = b) wb w'->w'.cell? ⟨w.heap.size+1+1,0,none⟩=some (.slice (some ⟨b,0,none⟩) n c)/\w'.cell? ⟨w.heap.size+1+1+1,1,none⟩=some (.int .i64 ka)):=qd (fun w' hw=>by
   obtain⟨_,s0,_⟩:=own1 (hw.own OR (by show ¬(_=b);omega));have x5:=own5 (hw.own OX (by show ¬(_=b);omega));exact⟨s0,x5.2.2.1⟩)
  go_upto_region 24 with(fail)
  clear x5 o1 OM OF OR OX hr hmf hx hrg hfr hwf v1 v2 v4 v5 v6 v7 v8 v9 v10 hcm hcB hcbl hcb1 hcb2 hcb3 hfl hn1;generalize hA0:(Act.mk _ _:Act)=a0;have Ee:a0.eval (.tmp 9)=.pointer (some ⟨w.heap.size+1+1,0,none⟩)/\a0.eval (.tmp 11)=.pointer (some ⟨w.heap.size+1+1+1,0,none⟩)/\a0.tmps.size=290:=by rw[<-hA0];exact⟨rfl,rfl,rfl⟩
  refine region_held_plain (fun w'=>Chg (· = b) wb w') kr ((Chg.refl _ wb).drew) ?_;intro K0 hK0 hHeld
  try dsimp only at hHeld
  refine wtk 0 rfl ?_;try simp only[GE]
  refine wtk 1 rfl ?_;try simp only[GE]
  refine wtk 2 rfl ?_;try simp only[GE]
  refine wtk 3 rfl ?_;try simp only[GE]
  refine wtk 4 rfl ?_;try simp only[GE]
  refine wtk 5 rfl ?_;try simp only[GE]
  refine wtk 6 rfl ?_;try simp only[GE]
  refine wtk 8 rfl ?_;try simp only[GE]
  generalize hA1:(Act.put _ _ _:Act)=a1;replace Ee:a1.eval (.tmp 127)=.pointer (some ⟨b,ka*2,none⟩)/\a1.eval (.tmp 129)=.agg #[.int .i64 1,.int .i64 1]/\a1.eval (.tmp 121)=.slice (some ⟨b,0,none⟩) n c/\a1.eval (.tmp 123)=.int .i64 ka/\a1.tmps.size=290:=ee1;refine readyH1 7 ?_ kr ?_ ?_;rotate_left
  ·exact rfl
  intro K hK;simp only[GE];refine stv ?_;refine hK.out _ _ (chq) fun hHeld=>?_;clear hK K;try simp only[GE]
  generalize hA2:(Act.put _ _ _:Act)=a2;replace Ee:a2.eval (.tmp 128)=.agg #[.int .i64 alo,.int .i64 ahi]/\a2.eval (.tmp 129)=.agg #[.int .i64 1,.int .i64 1]/\a2.eval (.tmp 121)=.slice (some ⟨b,0,none⟩) n c/\a2.eval (.tmp 123)=.int .i64 ka/\a2.tmps.size=290:=ee2;refine readyH1 9 ?_ kr ?_ ?_;rotate_left
  ·exact rfl
  intro K hK;refine step_callF rfl 85 [.const (.int .i64 3),.tmp 128,.tmp 129] #[3,47,47] rfl hcf [.int .i64 3,.agg #[.int .i64 alo,.int .i64 ahi],.agg #[.int .i64 1,.int .i64 1]] (by simp only[GE,MX,EX,Ee,reduceIte,Nat.reduceEqDiff,Nat.reduceLT,Nat.reduceBEq]) _ (HD.out _) ?_;rintro v wM ⟨rfl,hbM⟩;have hwM:Chg (· = b) wb wM:=hHeld.trans (Chg.of hbM);have hzM:=hwM.size;have hrM:SpRow wM b n c r:=(hr0.below ((Below.refl _ _).drew)).below hbM;obtain⟨q0,q1,q2,q3⟩:=hrM.cells hka;refine hK.out _ _ (hwM) fun hHeld=>?_;clear hK K;try simp only[GE]
  refine wtk 10 rfl ?_;try simp only[GE]
  refine wtk 11 rfl ?_;try simp only[GE]
  refine wtk 12 rfl ?_;try simp only[GE]
  refine wtk 13 rfl ?_;try simp only[GE]
  generalize hA3:(Act.put _ _ _:Act)=a3;replace Ee:a3.eval (.tmp 131)=.agg #[.int .i64 rlo,.int .i64 rhi]/\a3.eval (.tmp 133)=.pointer (some ⟨b,ka*2,none⟩)/\a3.tmps.size=290:=ee3;refine readyH1 14 ?_ kr ?_ ?_;rotate_left
  ·exact rfl
  intro K hK;simp only[GE];refine sts ?_;refine hK.out _ _ (chq) fun hHeld=>?_;clear hK K;try simp only[GE]
  refine anyH_done kr ?_;refine hK0.out _ _ ?_;subst hA3;subst hA2;subst hA1;subst hA0
  try clear Ee
  simp only[GE,Act.put,SU];go_wp2;go_ret;go_light;rw[HRES.out];exact⟨rfl,((Chg.of hb0).trans hwM).trans (chg2 _ _ _ _ _ _),fun out ho=>by cases ho;exact hrM.set hka ⟨rlo,rhi⟩⟩
end Go.Proofs.YteebpnbdihcfmaaGreatDoor
