/- R16 -/
import Derived.Test.YteebpnbdihcfmaaGreatDoorJ24
set_option linter.unusedVariables false
set_option linter.unusedSimpArgs false
set_option maxRecDepth 100000
set_option maxHeartbeats 20000000
namespace Go.Proofs.YteebpnbdihcfmaaGreatDoor
open Go.RowKit
theorem aGo {p:Prop}(h:p:=by
 try clear Ee
 simp only[GE,Act.put,SU];have hRR:=HRR.out;clear HRR;cases rok
 ·rw[if_neg (by simp)]at hRR;subst hRR;go_wp2
  try rw[Exit.noGoto_ret]
  refine bodyPost_ret (v:=.tuple #[.slice none 0 0,.bool false]) (by simp[results,Tryz.results29,go_sem]) rfl ?_;exact jB hb1 (hwM.trans (jX _ _ _ _ _ _)) hob'
 ·rw[if_pos rfl]at hRR;subst hRR;go_wp2;refine bodyPost_ret (v:=.tuple #[.slice (some ⟨ob,0,none⟩) n oc,.bool true]) (by simp[results,Tryz.results29,go_sem]) rfl ?_;exact jC hb1 hwM hob' hrM hka rlo rhi):p:=h
theorem aTk (x:dJ) (B:Nat) (m:bA) (hh:HF) (f:aC) (ta fa:Option Addr) (tl tc fl fc:Nat) (frm:Nat) (to_:Int) (g n c:Nat) (r:List aB) (w:World) (hB:B<=w.heap.size) (hmo:cP B w (.agg #[.slice ta tl tc,.slice fa fl fc]) m) (hf:aZ B w hh f) (hfl:frm<f.code.length) (hn1:f.code.length<=1024) (hx:f.code.getD frm default=x) (hi:cY m f x) (hr:kA w g n c r) (hrg:(n:Int)=f.regs) (hn:n<=64) (hrok:gU n r) (hw0:0<=f.words) (hw1:f.words<=4096) (hop:(x.op=3\/x.op=4\/x.op=5\/x.op=8\/x.op=9)\/(x.op=10)\/(x.op=18)):Calls Tryz.prog 29 #[.agg #[.slice ta tl tc,.slice fa fl fc],aI hh f,.int .i64 frm,.int .i64 to_,.slice (some ⟨g,0,none⟩) n c] w (lM w n (gP m f frm to_ r)):=by
 have hn64:=xU hf hfl;rw[hx]at hn64;obtain⟨pa,pl,pc,cb,co,cc,rfl,hcm,hcB,⟨g0,g1,g2,g3,g4⟩,hcbl,hcb1,hcb2,hcb3,hfr,hwf⟩:=dW hB hf hfl hn1 hx;unfold aI;dsimp only;obtain⟨op,xa,xb,xc,xn⟩:=x;obtain⟨v1,v2,v3,v4,v5,v6,v7,v8,v9,v10⟩:=hi;dsimp only at *;obtain⟨ka,rfl⟩:=Int.eq_ofNat_of_zero_le v3;obtain⟨kb,rfl⟩:=Int.eq_ofNat_of_zero_le v5;obtain⟨kc,rfl⟩:=Int.eq_ofNat_of_zero_le v7;have hka:ka<n:=oz
 have hkb:kb<n:=oz
 have hkc:kc<n:=oz
 have ia:(ka:Int)<(n:Int):=oz
 have ib:(kb:Int)<(n:Int):=oz
 have ic:(kc:Int)<(n:Int):=oz
 have hgl:=hr.row.lt;obtain⟨R,hRw⟩:∃ R,R=gP m f frm to_ r:=⟨_,rfl⟩
 rw[<-hRw];have hR:R=gZ m f.words ⟨op,ka,kb,kc,xn⟩ (decide (to_=xn)&&decide (xn≠(frm:Int)+1)) (decide (xn=(frm:Int)+1)) r:=by
  rw[hRw];unfold gP;rw[hx]
 have HRE:=qd hR;have HOK:=qd hrok;have HV10:=qd v10;have HMO:=qd hmo;have HRW:=qd hr;have HRG:=qd hrg;clear hR hRw hf hrok v9 v10 hmo v3 v4 v5 v6 v7 v8 hrg hx;go_enter Tryz.func29,Tryz.ntmps29;go_upto_region 2 with(fail)
 generalize hW0:World.alloc _ _=W0;have hb0:Below w.heap.size w W0:=by rw[<-hW0];exact bel
 have hz0:w.heap.size+3<=W0.heap.size:=by rw[<-hW0];simp
 have OM0:aF W0 w.heap.size [.slice ta tl tc,.slice fa fl fc]:=xC
 have OF0:aF W0 (w.heap.size+1) [.string f.name,.slice pa pl pc,.int .i64 f.regs,.int .i64 f.words,.slice (some ⟨cb,co,none⟩) f.code.length cc]:=sP
 have OX0:aF W0 (w.heap.size+1+1) [.int .i64 op,.int .i64 ka,.int .i64 kb,.int .i64 kc,.int .i64 xn]:=lG
 clear hW0 g0 g1 g2 g3 g4;have T0:(W0.alloc (.cells #[] 47)).ownsRow 0 47 2 (.slice (some ⟨W0.heap.size,0,none⟩) 0 0) 0 []:=eE W0 _ 2 rfl;have hbA:Below W0.heap.size W0 (W0.alloc (.cells #[] 47)):=eN;have HR0:=qd (aA hb0 HRW.out);go_upto_region 3 with(first|(at_builtin;refine dD rfl (.tmp 33) (.tmp 34) 39 47 2 16 (.agg #[.int .i64 0,.int .i64 0]) rfl Tryz.underlying39 Tryz.infoSp rfl dc (.slice (some ⟨W0.heap.size,0,none⟩) 0 0) 0 [] rfl T0 (.slice (some ⟨g,0,none⟩) n c) n (bL r) rfl (aA hbA HR0.out) (fun h=>absurd h oz) (gL r) bH oz ?_;intro vo w1 hr1 hc9 hg1)|fail)
 rw[Nat.zero_add,List.nil_append]at hr1;have hcT:aG (fun k=>k=W0.heap.size) W0 w1:=(aG.of hbA).trans (hc9.mono fun k _ hk=>by have e:W0.heap.size=k:=eL hk;exact e.symm);have hb1:Below w.heap.size w w1:=hb0.trans (hcT.below _ hb0.size (fun k _ e=>by omega));have OM1:=qd (hcT.own OM0 oz);have OF1:=qd (hcT.own OF0 oz);have OX1:=qd (hcT.own OX0 oz);have HR1:Hid (kA w1 g n c r):=qd (aA hb1 HRW.out);have hov:∀ j,vo.ownBlock=some j->w.heap.size+2<j:=fun j hj=>by
  rcases hg1 j hj with e|e
  ·have e2:W0.heap.size=j:=eL e
   omega
  ·have:=hbA.size;omega
 obtain⟨ob,oc,rfl,hoc1,hoc2,hol⟩:=bB hr1 oz;have hob:w.heap.size+2<ob:=hov ob rfl;have hob':w.heap.size<=ob:=oz
 have HO1:Hid (kA w1 ob n oc r):=qd hr1;have hgw:g<w1.heap.size:=by have:=hb1.size;omega
 have hne:g≠ob:=oz
 have HSS0:Hid (∀ w',aG (· = ob) w1 w'->(w'.cell? ⟨w.heap.size+1+1,0,none⟩=some (.int .i64 op)/\w'.cell? ⟨w.heap.size+1+1,1,none⟩=some (.int .i64 ka)/\w'.cell? ⟨w.heap.size+1+1,2,none⟩=some (.int .i64 kb)/\w'.cell? ⟨w.heap.size+1+1,3,none⟩=some (.int .i64 kc)/\w'.cell? ⟨w.heap.size+1+1,4,none⟩=some (.int .i64 xn)/\w'.cell? ⟨w.heap.size+1,3,none⟩=some (.int .i64 f.words))/\∀ i,i<n->w'.cell? ⟨g,i*2,none⟩=some (.int .i64 (r.getD i default).lo)/\w'.cell? ⟨g,i*2+1,none⟩=some (.int .i64 (r.getD i default).hi)):=qd fun w' hw=>by
  have x:=aX (hw.own OX1.out (by show ¬(_=ob);omega));have f:=aX (hw.own OF1.out (by show ¬(_=ob);omega));refine⟨⟨x.2.1,x.2.2.1,x.2.2.2.1,x.2.2.2.2.1,x.2.2.2.2.2.1,f.2.2.2.2.1⟩,fun i hi=>?_⟩;obtain⟨q0,q1,-,-⟩:=(bF.chg HR1.out.row hw hne).cells hi;exact⟨q0,q1⟩
 clear hc9 hg1 hcT T0 hbA hb0 HR0 hov OM0 OF0 OX0 hr1 hr;have x5:=aX OX1.out;go_upto_region 5 with(fail)
 rcases hop with hop|hop|hop
 ·as_aux_lemma =>
   have HD:=qd (fun w=>aH1 op (r.getD kb default) (r.getD kc default) w oz oz (HOK.out.2 kb oz) (HOK.out.2 kc oz));have hRe:R=if(aS op (r.getD kb default) (r.getD kc default)).2 then some (r.set ka (aS op (r.getD kb default) (r.getD kc default)).1)else none:=by
    rw[HRE.out];rcases hop with rfl|rfl|rfl|rfl|rfl<;>simp[gZ,lL,fI,eC]
   have hcf:∀ (args:Array Value) (w:World),(callFunc 62 args).run Tryz.prog w=.ok (.enter 62 args) w:=fun _ _=>rfl;have HRR:=qd hRe;clear hRe HRE;have g1:(op==1)=false:=by simp;omega
   have g2:(op==2)=false:=by simp;omega
   go_upto_if 69 with(fail)
   go_cut [69,71,72,73,74] (fun v y1 y2 y3 y4 wx=>v=.bool true/\wx=w1)
   case first =>
    clear HD HRR HSS0;rcases hop with rfl|rfl|rfl|rfl|rfl<;>(go_wp2;go_meet;exact⟨rfl,rfl⟩)
   case rest =>
    obtain⟨rfl,h⟩:=hcut;have h':=h.symm;subst h';clear h;go_upto_region 16 with(fail)
    clear x5;generalize aS op (r.getD kb default) (r.getD kc default)=res at *;obtain⟨⟨rlo,rhi⟩,rok⟩:=res;have HSS:Hid (∀ w',aG (· = ob) w1 w'->w'.cell? ⟨w.heap.size+1+1,0,none⟩=some (.int .i64 op)/\w'.cell? ⟨w.heap.size+1+1,1,none⟩=some (.int .i64 ka)/\w'.cell? ⟨w.heap.size+1+1,2,none⟩=some (.int .i64 kb)/\w'.cell? ⟨w.heap.size+1+1,3,none⟩=some (.int .i64 kc)/\w'.cell? ⟨g,kb*2,none⟩=some (.int .i64 (r.getD kb default).lo)/\w'.cell? ⟨g,kb*2+1,none⟩=some (.int .i64 (r.getD kb default).hi)/\w'.cell? ⟨g,kc*2,none⟩=some (.int .i64 (r.getD kc default).lo)/\w'.cell? ⟨g,kc*2+1,none⟩=some (.int .i64 (r.getD kc default).hi)):=qd fun w' hw=>by
     obtain⟨hc,hd⟩:=HSS0.out w' hw;exact⟨hc.1,hc.2.1,hc.2.2.1,hc.2.2.2.1,(hd _ hkb).1,(hd _ hkb).2,(hd _ hkc).1,(hd _ hkc).2⟩
    clear HSS0;generalize r.getD kb default=pb at *;obtain⟨blo,bhi⟩:=pb;generalize r.getD kc default=pc at *;obtain⟨clo,chi⟩:=pc;dsimp only at HD HSS HRR;generalize hA0:(Act.mk _ _:Act)=a0;have Ee:a0.eval (.tmp 4)=.slice (some ⟨g,0,none⟩) n c/\a0.eval (.tmp 6)=.pointer (some ⟨w.heap.size+1,0,none⟩)/\a0.eval (.tmp 12)=.pointer (some ⟨w.heap.size+1+1,0,none⟩)/\a0.eval (.tmp 13)=.slice (some ⟨ob,0,none⟩) n oc/\a0.tmps.size=358:=aFs
    refine aE (fun w'=>aG (· = ob) w1 w') kr ((aG.refl _ w1).drew) ?_;intro K0 hK0 hHeld
    try dsimp only at hHeld
    refine aL 0 rfl ?_;refine aL 1 rfl ?_;refine aL 2 rfl ?_;refine aL 3 rfl ?_;refine aL 4 rfl ?_;refine aL 5 rfl ?_;refine aL 6 rfl ?_;refine aL 7 rfl ?_;refine aL 8 rfl ?_;refine aL 9 rfl ?_;refine aL 10 rfl ?_;refine aL 11 rfl ?_;refine aL 12 rfl ?_;refine aL 13 rfl ?_;refine aL 14 rfl ?_;generalize hA1:(Act.put _ _ _:Act)=a1;replace Ee:a1.eval (.tmp 80)=.int .i64 op/\a1.eval (.tmp 85)=.agg #[.int .i64 blo,.int .i64 bhi]/\a1.eval (.tmp 90)=.agg #[.int .i64 clo,.int .i64 chi]/\a1.eval (.tmp 76)=.slice (some ⟨ob,0,none⟩) n oc/\a1.eval (.tmp 78)=.int .i64 ka/\a1.tmps.size=358:=oZ;refine fD 15 rfl fun K hK=>?_;refine aP rfl 62 [.tmp 80,.tmp 85,.tmp 90] #[3,47,47] rfl hcf [.int .i64 op,.agg #[.int .i64 blo,.int .i64 bhi],.agg #[.int .i64 clo,.int .i64 chi]] iD _ (HD.out _) ?_;rintro v wM ⟨rfl,hbM⟩;have hwM:aG (· = ob) w1 wM:=hHeld.trans (aG.of hbM);have hzM:=hwM.size;have hrM:kA wM ob n oc r:=aA hbM (aA ((Below.refl _ _).drew) HO1.out);obtain⟨q0,q1,q2,q3⟩:=hrM.row.cells hka;refine hK.out _ _ (hwM) fun hHeld=>?_;clear hK K;refine aL 16 rfl ?_;refine aL 17 rfl ?_;refine aL 18 rfl ?_;refine aL 19 rfl ?_;generalize hA2:(Act.put _ _ _:Act)=a2;replace Ee:a2.eval (.tmp 92)=.agg #[.int .i64 rlo,.int .i64 rhi]/\a2.eval (.tmp 93)=.bool rok/\a2.eval (.tmp 94)=.pointer (some ⟨ob,ka*2,none⟩)/\a2.tmps.size=358:=mQ;refine fD 20 rfl fun K hK=>?_;refine pA ?_;refine hK.out _ _ (chq) fun hHeld=>?_;clear hK K;refine aL 21 rfl ?_;refine aO kr ?_;refine hK0.out _ _ ?_;subst hA2;subst hA1;subst hA0
    exact aGo
 ·as_aux_lemma =>
   subst hop;have HD:=qd (fun w=>aSd (r.getD kb default) w (HOK.out.2 kb oz));have hRe:R=if(aS 10 (r.getD kb default) (r.getD kb default)).2 then some (r.set ka (aS 10 (r.getD kb default) (r.getD kb default)).1)else none:=by
    rw[HRE.out];simp[gZ,lL,fI,eC,aS]
   have hcf:∀ (args:Array Value) (w:World),(callFunc 62 args).run Tryz.prog w=.ok (.enter 62 args) w:=fun _ _=>rfl;go_upto_region 18 with(fail)
   have HRR:=qd hRe;clear hRe HRE x5;generalize aS 10 (r.getD kb default) (r.getD kb default)=res at *;obtain⟨⟨rlo,rhi⟩,rok⟩:=res;have HSS:Hid (∀ w',aG (· = ob) w1 w'->w'.cell? ⟨w.heap.size+1+1,1,none⟩=some (.int .i64 ka)/\w'.cell? ⟨w.heap.size+1+1,2,none⟩=some (.int .i64 kb)/\w'.cell? ⟨g,kb*2,none⟩=some (.int .i64 (r.getD kb default).lo)/\w'.cell? ⟨g,kb*2+1,none⟩=some (.int .i64 (r.getD kb default).hi)):=qd fun w' hw=>by
    obtain⟨hc,hd⟩:=HSS0.out w' hw;exact⟨hc.2.1,hc.2.2.1,(hd _ hkb).1,(hd _ hkb).2⟩
   clear HSS0;generalize r.getD kb default=pb at *;obtain⟨blo,bhi⟩:=pb;dsimp only at HD HSS HRR;generalize hA0:(Act.mk _ _:Act)=a0;have Ee:a0.eval (.tmp 4)=.slice (some ⟨g,0,none⟩) n c/\a0.eval (.tmp 6)=.pointer (some ⟨w.heap.size+1,0,none⟩)/\a0.eval (.tmp 12)=.pointer (some ⟨w.heap.size+1+1,0,none⟩)/\a0.eval (.tmp 13)=.slice (some ⟨ob,0,none⟩) n oc/\a0.tmps.size=358:=aFs
   refine aE (fun w'=>aG (· = ob) w1 w') kr ((aG.refl _ w1).drew) ?_;intro K0 hK0 hHeld
   try dsimp only at hHeld
   refine aL 0 rfl ?_;refine aL 1 rfl ?_;refine aL 2 rfl ?_;refine aL 3 rfl ?_;refine aL 4 rfl ?_;refine aL 5 rfl ?_;refine aL 6 rfl ?_;refine aL 7 rfl ?_;refine aL 8 rfl ?_;refine aL 9 rfl ?_;refine aL 10 rfl ?_;refine aL 11 rfl ?_;refine aL 12 rfl ?_;generalize hA1:(Act.put _ _ _:Act)=a1;replace Ee:a1.eval (.tmp 105)=.agg #[.int .i64 blo,.int .i64 bhi]/\a1.eval (.tmp 110)=.agg #[.int .i64 blo,.int .i64 bhi]/\a1.eval (.tmp 98)=.slice (some ⟨ob,0,none⟩) n oc/\a1.eval (.tmp 100)=.int .i64 ka/\a1.tmps.size=358:=oZ;refine fD 13 rfl fun K hK=>?_;refine aP rfl 62 [.const (.int .i64 10),.tmp 105,.tmp 110] #[3,47,47] rfl hcf [.int .i64 10,.agg #[.int .i64 blo,.int .i64 bhi],.agg #[.int .i64 blo,.int .i64 bhi]] iD _ (HD.out _) ?_;rintro v wM ⟨rfl,hbM⟩;have hwM:aG (· = ob) w1 wM:=hHeld.trans (aG.of hbM);have hzM:=hwM.size;have hrM:kA wM ob n oc r:=aA hbM (aA ((Below.refl _ _).drew) HO1.out);obtain⟨q0,q1,q2,q3⟩:=hrM.row.cells hka;refine hK.out _ _ (hwM) fun hHeld=>?_;clear hK K;refine aL 14 rfl ?_;refine aL 15 rfl ?_;refine aL 16 rfl ?_;refine aL 17 rfl ?_;generalize hA2:(Act.put _ _ _:Act)=a2;replace Ee:a2.eval (.tmp 112)=.agg #[.int .i64 rlo,.int .i64 rhi]/\a2.eval (.tmp 113)=.bool rok/\a2.eval (.tmp 114)=.pointer (some ⟨ob,ka*2,none⟩)/\a2.tmps.size=358:=mQ;refine fD 18 rfl fun K hK=>?_;refine pA ?_;refine hK.out _ _ (chq) fun hHeld=>?_;clear hK K;refine aL 19 rfl ?_;refine aO kr ?_;refine hK0.out _ _ ?_;subst hA2;subst hA1;subst hA0
   exact aGo
 ·as_aux_lemma =>
   subst hop;have HD:=qd (fun w=>aH1 3 (r.getD ka default) ⟨1,1⟩ w oz oz (HOK.out.2 ka oz) ⟨by unfold aM;dsimp only;omega,by unfold aM;dsimp only;omega,Int.le_refl _⟩);have hRe:R=if true=(aS 3 (r.getD ka default) ⟨1,1⟩).2 then some (r.set ka (aS 3 (r.getD ka default) ⟨1,1⟩).1)else none:=by
    rw[HRE.out];simp[gZ,fI,eC,aS]
   have hcf:∀ (args:Array Value) (w:World),(callFunc 62 args).run Tryz.prog w=.ok (.enter 62 args) w:=fun _ _=>rfl;go_upto_region 27 with(fail)
   have HRR:=qd hRe;clear hRe HRE x5;generalize aS 3 (r.getD ka default) ⟨1,1⟩=res at *;obtain⟨⟨rlo,rhi⟩,rok⟩:=res;have HSS:Hid (∀ w',aG (· = ob) w1 w'->w'.cell? ⟨w.heap.size+1+1,1,none⟩=some (.int .i64 ka)/\w'.cell? ⟨g,ka*2,none⟩=some (.int .i64 (r.getD ka default).lo)/\w'.cell? ⟨g,ka*2+1,none⟩=some (.int .i64 (r.getD ka default).hi)):=qd fun w' hw=>by
    obtain⟨hc,hd⟩:=HSS0.out w' hw;exact⟨hc.2.1,(hd _ hka).1,(hd _ hka).2⟩
   clear HSS0;generalize r.getD ka default=pa at *;obtain⟨alo,ahi⟩:=pa;dsimp only at HD HSS HRR;generalize hA0:(Act.mk _ _:Act)=a0;have Ee:a0.eval (.tmp 4)=.slice (some ⟨g,0,none⟩) n c/\a0.eval (.tmp 6)=.pointer (some ⟨w.heap.size+1,0,none⟩)/\a0.eval (.tmp 12)=.pointer (some ⟨w.heap.size+1+1,0,none⟩)/\a0.eval (.tmp 13)=.slice (some ⟨ob,0,none⟩) n oc/\a0.tmps.size=358:=aFs
   refine aE (fun w'=>aG (· = ob) w1 w') kr ((aG.refl _ w1).drew) ?_;intro K0 hK0 hHeld
   try dsimp only at hHeld
   refine aL 0 rfl ?_;refine aL 1 rfl ?_;refine aL 2 rfl ?_;refine aL 3 rfl ?_;refine aL 4 rfl ?_;refine aL 5 rfl ?_;refine aL 6 rfl ?_;refine aL 7 rfl ?_;refine aL 8 rfl ?_;generalize hA1:(Act.put _ _ _:Act)=a1;replace Ee:a1.eval (.tmp 164)=.agg #[.int .i64 alo,.int .i64 ahi]/\a1.eval (.tmp 165)=.agg #[.int .i64 1,.int .i64 1]/\a1.eval (.tmp 157)=.slice (some ⟨ob,0,none⟩) n oc/\a1.eval (.tmp 159)=.int .i64 ka/\a1.tmps.size=358:=oZ;refine fD 9 rfl fun K hK=>?_;refine aP rfl 62 [.const (.int .i64 3),.tmp 164,.tmp 165] #[3,47,47] rfl hcf [.int .i64 3,.agg #[.int .i64 alo,.int .i64 ahi],.agg #[.int .i64 1,.int .i64 1]] iD _ (HD.out _) ?_;rintro v wM ⟨rfl,hbM⟩;have hwM:aG (· = ob) w1 wM:=hHeld.trans (aG.of hbM);have hzM:=hwM.size;have hrM:kA wM ob n oc r:=aA hbM (aA ((Below.refl _ _).drew) HO1.out);obtain⟨q0,q1,q2,q3⟩:=hrM.row.cells hka;refine hK.out _ _ (hwM) fun hHeld=>?_;clear hK K;refine aL 10 rfl ?_;refine aL 11 rfl ?_;refine aL 12 rfl ?_;refine aL 13 rfl ?_;generalize hA2:(Act.put _ _ _:Act)=a2;replace Ee:a2.eval (.tmp 167)=.agg #[.int .i64 rlo,.int .i64 rhi]/\a2.eval (.tmp 168)=.bool rok/\a2.eval (.tmp 169)=.pointer (some ⟨ob,ka*2,none⟩)/\a2.tmps.size=358:=mQ;refine fD 14 rfl fun K hK=>?_;refine pA ?_;refine hK.out _ _ (chq) fun hHeld=>?_;clear hK K;refine aL 15 rfl ?_;refine aO kr ?_;refine hK0.out _ _ ?_;subst hA2;subst hA1;subst hA0
   exact aGo
end Go.Proofs.YteebpnbdihcfmaaGreatDoor
