/- R16 -/
import Derived.Test.YteebpnbdihcfmaaGreatDoorJ24
set_option linter.unusedVariables false
set_option linter.unusedSimpArgs false
set_option maxRecDepth 100000
set_option maxHeartbeats 20000000
namespace Go.Proofs.YteebpnbdihcfmaaGreatDoor
open Go.RowKit
theorem aVv {p:Prop}(h:p:=by
 clear hq;have HD:=qd (fun w=>aH1 op (r.getD kb default) (r.getD kc default) w oz oz (HOK.out.2 kb oz) (HOK.out.2 kc oz));have HW:=qd (fun w=>rW (r.getD kc default) w);have hRe:R=if(aS op (r.getD kb default) (r.getD kc default)).2 then some ((r.set kc (fN (r.getD kc default)).1).set ka (aS op (r.getD kb default) (r.getD kc default)).1)else none:=by
  rw[HRE.out];rcases hop with rfl|rfl<;>simp only[gZ,lL,fI,eC,Int.toNat_natCast]<;>simp[aS]<;>split<;>first|(rename_i h;simp[aFw (show mC _ cO=false by simpa using h)];done)|simp_all
 have hcf:∀ (args:Array Value) (w:World),(callFunc 62 args).run Tryz.prog w=.ok (.enter 62 args) w:=fun _ _=>rfl;have HRR:=qd hRe;clear hRe HRE;have HOP:=qd hop;clear hop;have g1:(op==1)=false:=by have:=HOP.out;simp;omega
 have g2:(op==2)=false:=by have:=HOP.out;simp;omega
 have g3:(op==3)=false:=by have:=HOP.out;simp;omega
 have g4:(op==4)=false:=by have:=HOP.out;simp;omega
 have g5:(op==5)=false:=by have:=HOP.out;simp;omega
 have g8:(op==8)=false:=by have:=HOP.out;simp;omega
 have g9:(op==9)=false:=by have:=HOP.out;simp;omega
 have g10:(op==10)=false:=by have:=HOP.out;simp;omega
 go_upto_region 21 with(fail)
 clear x5 g1 g2 g3 g4 g5 g8 g9 g10 h6 h7;generalize aS op (r.getD kb default) (r.getD kc default)=res at *;obtain⟨⟨rlo,rhi⟩,rok⟩:=res;generalize fN (r.getD kc default)=wq at *;obtain⟨⟨qlo,qhi⟩,qok⟩:=wq;have HSS:Hid (∀ w',Below w1.heap.size w1 w'->w'.cell? ⟨w.heap.size+1+1,0,none⟩=some (.int .i64 op)/\w'.cell? ⟨w.heap.size+1+1,2,none⟩=some (.int .i64 kb)/\w'.cell? ⟨w.heap.size+1+1,3,none⟩=some (.int .i64 kc)/\w'.cell? ⟨g,kb*2,none⟩=some (.int .i64 (r.getD kb default).lo)/\w'.cell? ⟨g,kb*2+1,none⟩=some (.int .i64 (r.getD kb default).hi)/\w'.cell? ⟨g,kc*2,none⟩=some (.int .i64 (r.getD kc default).lo)/\w'.cell? ⟨g,kc*2+1,none⟩=some (.int .i64 (r.getD kc default).hi)):=qd fun w' hw=>by
  obtain⟨hc,hd⟩:=HSS0.out w' (aG.of hw);exact⟨hc.1,hc.2.2.1,hc.2.2.2.1,(hd _ hkb).1,(hd _ hkb).2,(hd _ hkc).1,(hd _ hkc).2⟩
 generalize r.getD kb default=pb at *;obtain⟨blo,bhi⟩:=pb;obtain⟨pc,hpc⟩:∃ p,r.getD kc default=p:=⟨_,rfl⟩
 rw[hpc]at HD HSS HW;have HPC:=qd hpc;clear hpc;obtain⟨clo,chi⟩:=pc;dsimp only at HD HSS HRR HW;go_cut [17,18] (fun v17 v18 wc=>∃ k:Nat,v17=.pointer (some ⟨k,0,none⟩)/\v18=.bool rok/\Hid (aF wc k [.int .i64 rlo,.int .i64 rhi])/\Below w1.heap.size w1 wc/\w1.heap.size<=k)
 case first =>
  generalize hA0:(Act.mk _ _:Act)=a0;have Ee:a0.eval (.tmp 4)=.slice (some ⟨g,0,none⟩) n c/\a0.eval (.tmp 6)=.pointer (some ⟨w.heap.size+1,0,none⟩)/\a0.eval (.tmp 12)=.pointer (some ⟨w.heap.size+1+1,0,none⟩)/\a0.eval (.tmp 13)=.slice (some ⟨ob,0,none⟩) n oc/\a0.tmps.size=358:=by rw[<-hA0];exact⟨rfl,rfl,rfl,rfl,rfl⟩
  refine aE (fun w'=>Below w1.heap.size w1 w') kr ((Below.refl _ w1).drew) ?_;intro K0 hK0 hHeld
  try dsimp only at hHeld
  refine aL 0 rfl ?_;refine aL 1 rfl ?_;refine aL 2 rfl ?_;refine aL 3 rfl ?_;refine aL 4 rfl ?_;refine aL 5 rfl ?_;refine aL 6 rfl ?_;refine aL 7 rfl ?_;refine aL 8 rfl ?_;refine aL 9 rfl ?_;refine aL 10 rfl ?_;refine aL 11 rfl ?_;generalize hA1:(Act.put _ _ _:Act)=a1;replace Ee:a1.eval (.tmp 120)=.int .i64 op/\a1.eval (.tmp 125)=.agg #[.int .i64 blo,.int .i64 bhi]/\a1.eval (.tmp 130)=.agg #[.int .i64 clo,.int .i64 chi]/\a1.tmps.size=358:=oZ;refine wpAnyH_ready (rs:=[12,16]) kr si ?_;refine iB rfl (fun K hK=>?_) (iB rfl (fun K hK=>?_) AllReadyH.nil)
  ·refine aP rfl 62 [.tmp 120,.tmp 125,.tmp 130] #[3,47,47] rfl hcf [.int .i64 op,.agg #[.int .i64 blo,.int .i64 bhi],.agg #[.int .i64 clo,.int .i64 chi]] (by simp only[GE,MX,EX,Ee,reduceIte,Nat.reduceEqDiff,Nat.reduceLT,Nat.reduceBEq]) _ (HD.out _) ?_;rintro v wM ⟨rfl,hbM⟩;have hwM:Below w1.heap.size w1 wM:=hHeld.trans (hbM.mono hHeld.size);have hzM:=hwM.size;refine hK.out _ _ (hwM) fun hHeld=>?_;clear hK K;refine aL 13 rfl ?_;refine aL 14 rfl ?_;refine aL 15 rfl ?_;generalize hA2:(Act.put _ _ _:Act)=a2;replace Ee:a2.eval (.tmp 132)=.agg #[.int .i64 rlo,.int .i64 rhi]/\a2.eval (.tmp 133)=.bool rok/\a2.tmps.size=358:=mQ;refine fD 16 rfl fun K hK=>?_;refine sX ?_;refine hK.out _ _ (bel) fun hHeld=>?_;clear hK K;generalize hA3:(Act.put _ _ _:Act)=a3;replace Ee:a3.eval (.tmp 132)=.agg #[.int .i64 rlo,.int .i64 rhi]/\a3.eval (.tmp 133)=.bool rok/\a3.eval (.tmp 17)=.pointer (some ⟨wM.heap.size,0,none⟩)/\a3.tmps.size=358:=rV;refine fD 17 rfl fun K hK=>?_;refine pA ?_;refine hK.out _ _ (bel) fun hHeld=>?_;clear hK K;generalize hA4:(Act.put _ _ _:Act)=a4;replace Ee:a4.eval (.tmp 133)=.bool rok/\a4.tmps.size=358:=xE;refine aL 18 rfl ?_;refine aO kr ?_;refine hK0.out _ _ ?_;subst hA4;subst hA3;subst hA2;subst hA1;subst hA0
   try clear Ee
   simp only[GE,Act.put,SU];go_wp2;go_meet;exact⟨wM.heap.size,rfl,rfl,qd (aF.new _ _ _),bel,hzM⟩
  ·refine sX ?_;refine hK.out _ _ (bel) fun hHeld=>?_;clear hK K;generalize hA2:(Act.put _ _ _:Act)=a2;replace Ee:a2.eval (.tmp 120)=.int .i64 op/\a2.eval (.tmp 125)=.agg #[.int .i64 blo,.int .i64 bhi]/\a2.eval (.tmp 130)=.agg #[.int .i64 clo,.int .i64 chi]/\a2.eval (.tmp 17)=.pointer (some ⟨w1.heap.size,0,none⟩)/\a2.tmps.size=358:=mQ;refine fD 12 rfl fun K hK=>?_;refine aP rfl 62 [.tmp 120,.tmp 125,.tmp 130] #[3,47,47] rfl hcf [.int .i64 op,.agg #[.int .i64 blo,.int .i64 bhi],.agg #[.int .i64 clo,.int .i64 chi]] (by simp only[GE,MX,EX,Ee,reduceIte,Nat.reduceEqDiff,Nat.reduceLT,Nat.reduceBEq]) _ (HD.out _) ?_;rintro v wM ⟨rfl,hbM⟩;have hwM:Below w1.heap.size w1 wM:=hHeld.trans (hbM.mono hHeld.size);have hzM:=hwM.size;have pM:=aF.below (aF.drew (aF.new' w1 [.int .i64 0,.int .i64 0] 47 w1.heap.size rfl)) hbM;have oM:=aD pM;refine hK.out _ _ (hwM) fun hHeld=>?_;clear hK K;refine aL 13 rfl ?_;refine aL 14 rfl ?_;refine aL 15 rfl ?_;generalize hA3:(Act.put _ _ _:Act)=a3;replace Ee:a3.eval (.tmp 132)=.agg #[.int .i64 rlo,.int .i64 rhi]/\a3.eval (.tmp 133)=.bool rok/\a3.eval (.tmp 17)=.pointer (some ⟨w1.heap.size,0,none⟩)/\a3.tmps.size=358:=rV;refine fD 17 rfl fun K hK=>?_;refine pA ?_;refine hK.out _ _ (bel) fun hHeld=>?_;clear hK K;generalize hA4:(Act.put _ _ _:Act)=a4;replace Ee:a4.eval (.tmp 133)=.bool rok/\a4.tmps.size=358:=xE;refine aL 18 rfl ?_;refine aO kr ?_;refine hK0.out _ _ ?_;subst hA4;subst hA3;subst hA2;subst hA1;subst hA0
   try clear Ee
   simp only[GE,Act.put,SU];go_wp2;go_meet;exact⟨w1.heap.size,rfl,rfl,qd ((pM.set 0 _ si).set 1 _ si),bel,Nat.le_refl _⟩
 case rest =>
  obtain⟨k,rfl,rfl,OK,hbd,hkl⟩:=hcut;have hRR:=HRR.out;clear HRR HD;have hcd:=aG.of (S:=(· = ob)) hbd;cases rok
  ·rw[if_neg (by simp)]at hRR;subst hRR;go_wp2
   try rw[Exit.noGoto_ret]
   refine bodyPost_ret (v:=.tuple #[.slice none 0 0,.bool false]) (by simp[results,Tryz.results29,go_sem]) rfl ?_;exact jB hb1 hcd hob'
  ·rw[if_pos rfl]at hRR;subst hRR;have HSS2:Hid (∀ w',aG (· = ob) wc w'->w'.cell? ⟨w.heap.size+1+1,3,none⟩=some (.int .i64 kc)/\w'.cell? ⟨g,kc*2,none⟩=some (.int .i64 (r.getD kc default).lo)/\w'.cell? ⟨g,kc*2+1,none⟩=some (.int .i64 (r.getD kc default).hi)):=qd fun w' hw=>by
    obtain⟨hc,hd⟩:=HSS0.out w' (hcd.trans hw);exact⟨hc.2.2.2.1,(hd _ hkc).1,(hd _ hkc).2⟩
   rw[HPC.out]at HSS2;dsimp only at HSS2;clear HSS;have hcf2:∀ (args:Array Value) (w:World),(callFunc 63 args).run Tryz.prog w=.ok (.enter 63 args) w:=fun _ _=>rfl;have OK':aF wc k [.int .i64 rlo,.int .i64 rhi]:=OK.out;go_upto_region 24 with(fail)
   generalize hA0:(Act.mk _ _:Act)=a0;have Ee:a0.eval (.tmp 4)=.slice (some ⟨g,0,none⟩) n c/\a0.eval (.tmp 6)=.pointer (some ⟨w.heap.size+1,0,none⟩)/\a0.eval (.tmp 12)=.pointer (some ⟨w.heap.size+1+1,0,none⟩)/\a0.eval (.tmp 13)=.slice (some ⟨ob,0,none⟩) n oc/\a0.tmps.size=358:=by rw[<-hA0];exact⟨rfl,rfl,rfl,rfl,rfl⟩
   refine aE (fun w'=>aG (· = ob) wc w') kr ((aG.refl _ wc).drew) ?_;intro K0 hK0 hHeld
   try dsimp only at hHeld
   refine eY 0 rfl ?_;refine eY 1 rfl ?_;refine eY 2 rfl ?_;refine eY 3 rfl ?_;refine eY 4 rfl ?_;refine eY 5 rfl ?_;refine eY 6 rfl ?_;refine eY 7 rfl ?_;generalize hA1:(Act.put _ _ _:Act)=a1;replace Ee:a1.eval (.tmp 144)=.agg #[.int .i64 clo,.int .i64 chi]/\a1.eval (.tmp 137)=.slice (some ⟨ob,0,none⟩) n oc/\a1.eval (.tmp 139)=.int .i64 kc/\a1.tmps.size=358:=oZ;refine fD 8 rfl fun K hK=>?_;refine aP rfl 63 [.tmp 144] #[47] rfl hcf2 [.agg #[.int .i64 clo,.int .i64 chi]] (by simp only[GE,MX,EX,Ee,reduceIte,Nat.reduceEqDiff,Nat.reduceLT,Nat.reduceBEq]) _ (HW.out _) ?_;rintro v wM ⟨rfl,hbM⟩;have hwM:aG (· = ob) wc wM:=hHeld.trans (aG.of hbM);have hzM:=hwM.size;have hrM:kA wM ob n oc r:=aA hbM (aA ((Below.refl _ _).drew) (aA hbd HO1.out));obtain⟨q0,q1,q2,q3⟩:=hrM.row.cells hkc;refine hK.out _ _ (hwM) fun hHeld=>?_;clear hK K;refine eY 9 rfl ?_;refine eY 10 rfl ?_;refine eY 11 rfl ?_;refine eY 12 rfl ?_;generalize hA2:(Act.put _ _ _:Act)=a2;replace Ee:a2.eval (.tmp 146)=.agg #[.int .i64 qlo,.int .i64 qhi]/\a2.eval (.tmp 148)=.pointer (some ⟨ob,kc*2,none⟩)/\a2.tmps.size=358:=mQ;refine fD 13 rfl fun K hK=>?_;refine pA ?_;refine hK.out _ _ (chq) fun hHeld=>?_;clear hK K;refine aO kr ?_;refine hK0.out _ _ ?_;subst hA2;subst hA1;subst hA0
   try clear Ee
   simp only[GE,Act.put,SU];generalize hW9:(wM.setCell ⟨ob,kc*2,none⟩ (.int .i64 qlo)).setCell ⟨ob,kc*2+1,none⟩ (.int .i64 qhi)=w9;have hC9:aG (· = ob) wc w9:=by rw[<-hW9];exact hwM.trans (jX _ _ _ _ _ _)
   have hR9:kA w9 ob n oc (r.set kc ⟨qlo,qhi⟩):=by rw[<-hW9];exact hrM.set hkc ⟨qlo,qhi⟩
   clear hW9 hwM hrM hbM q0 q1 q2 q3;obtain⟨u0,u1,u2,u3,u4⟩:=aD (hC9.own OK' (by show ¬(_=ob);omega));have x9:=aX ((hcd.trans hC9).own OX1.out (by show ¬(_=ob);omega));obtain⟨r0,r1,r2,r3⟩:=hR9.row.cells hka;go_wp2;refine bodyPost_ret (v:=.tuple #[.slice (some ⟨ob,0,none⟩) n oc,.bool true]) (by simp[results,Tryz.results29,go_sem]) rfl ?_;exact jC hb1 (hcd.trans hC9) hob' hR9 hka rlo rhi):p:=h
theorem aSl (x:dJ) (B:Nat) (m:bA) (hh:HF) (f:aC) (ta fa:Option Addr) (tl tc fl fc:Nat) (frm:Nat) (to_:Int) (g n c:Nat) (r:List aB) (w:World) (hB:B<=w.heap.size) (hmo:cP B w (.agg #[.slice ta tl tc,.slice fa fl fc]) m) (hf:aZ B w hh f) (hfl:frm<f.code.length) (hn1:f.code.length<=1024) (hx:f.code.getD frm default=x) (hi:cY m f x) (hr:kA w g n c r) (hrg:(n:Int)=f.regs) (hn:n<=64) (hrok:gU n r) (hw0:0<=f.words) (hw1:f.words<=4096) (hop:(x.op=6)\/(x.op=7)\/(x.op=19)):Calls Tryz.prog 29 #[.agg #[.slice ta tl tc,.slice fa fl fc],aI hh f,.int .i64 frm,.int .i64 to_,.slice (some ⟨g,0,none⟩) n c] w (lM w n (gP m f frm to_ r)):=by
 have hn64:=xU hf hfl;rw[hx]at hn64;obtain⟨pa,pl,pc,cb,co,cc,rfl,hcm,hcB,⟨g0,g1,g2,g3,g4⟩,hcbl,hcb1,hcb2,hcb3,hfr,hwf⟩:=dW hB hf hfl hn1 hx;unfold aI;dsimp only;obtain⟨op,xa,xb,xc,xn⟩:=x;obtain⟨v1,v2,v3,v4,v5,v6,v7,v8,v9,v10⟩:=hi;dsimp only at *;obtain⟨ka,rfl⟩:=Int.eq_ofNat_of_zero_le v3;obtain⟨kb,rfl⟩:=Int.eq_ofNat_of_zero_le v5;obtain⟨kc,rfl⟩:=Int.eq_ofNat_of_zero_le v7;have hka:ka<n:=oz
 have hkb:kb<n:=oz
 have hkc:kc<n:=oz
 have ia:(ka:Int)<(n:Int):=oz
 have ib:(kb:Int)<(n:Int):=oz
 have ic:(kc:Int)<(n:Int):=oz
 have hgl:=hr.row.lt;obtain⟨R,hRw⟩:∃ R,R=gP m f frm to_ r:=⟨_,rfl⟩
 rw[<-hRw];have hR:R=gZ m f.words ⟨op,ka,kb,kc,xn⟩ (decide (to_=xn)&&decide (xn≠(frm:Int)+1)) (decide (xn=(frm:Int)+1)) r:=by
  rw[hRw];unfold gP;rw[hx]
 have HRE:=qd hR;have HOK:=qd hrok;have HV10:=qd v10;have HMO:=qd hmo;have HRW:=qd hr;have HRG:=qd hrg;clear hR hRw hf hrok v9 v10 hmo v3 v4 v5 v6 v7 v8 hrg hx;go_enter Tryz.func29,Tryz.ntmps29;go_upto_region 2 with(fail)
 generalize hW0:World.alloc _ _=W0;have hb0:Below w.heap.size w W0:=by rw[<-hW0];exact bel
 have hz0:w.heap.size+3<=W0.heap.size:=by rw[<-hW0];simp
 have OM0:aF W0 w.heap.size [.slice ta tl tc,.slice fa fl fc]:=xC
 have OF0:aF W0 (w.heap.size+1) [.string f.name,.slice pa pl pc,.int .i64 f.regs,.int .i64 f.words,.slice (some ⟨cb,co,none⟩) f.code.length cc]:=sP
 have OX0:aF W0 (w.heap.size+1+1) [.int .i64 op,.int .i64 ka,.int .i64 kb,.int .i64 kc,.int .i64 xn]:=lG
 clear hW0 g0 g1 g2 g3 g4;have T0:(W0.alloc (.cells #[] 47)).ownsRow 0 47 2 (.slice (some ⟨W0.heap.size,0,none⟩) 0 0) 0 []:=eE W0 _ 2 rfl;have hbA:Below W0.heap.size W0 (W0.alloc (.cells #[] 47)):=eN;have HR0:=qd (aA hb0 HRW.out);go_upto_region 3 with(first|(at_builtin;refine dD rfl (.tmp 33) (.tmp 34) 39 47 2 16 (.agg #[.int .i64 0,.int .i64 0]) rfl Tryz.underlying39 Tryz.infoSp rfl dc (.slice (some ⟨W0.heap.size,0,none⟩) 0 0) 0 [] rfl T0 (.slice (some ⟨g,0,none⟩) n c) n (bL r) rfl (aA hbA HR0.out) (fun h=>absurd h oz) (gL r) bH oz ?_;intro vo w1 hr1 hc9 hg1)|fail)
 rw[Nat.zero_add,List.nil_append]at hr1;have hcT:aG (fun k=>k=W0.heap.size) W0 w1:=(aG.of hbA).trans (hc9.mono fun k _ hk=>by have e:W0.heap.size=k:=eL hk;exact e.symm);have hb1:Below w.heap.size w w1:=hb0.trans (hcT.below _ hb0.size (fun k _ e=>by omega));have OM1:=qd (hcT.own OM0 oz);have OF1:=qd (hcT.own OF0 oz);have OX1:=qd (hcT.own OX0 oz);have HR1:Hid (kA w1 g n c r):=qd (aA hb1 HRW.out);have hov:∀ j,vo.ownBlock=some j->w.heap.size+2<j:=fun j hj=>by
  rcases hg1 j hj with e|e
  ·have e2:W0.heap.size=j:=eL e
   omega
  ·have:=hbA.size;omega
 obtain⟨ob,oc,rfl,hoc1,hoc2,hol⟩:=bB hr1 oz;have hob:w.heap.size+2<ob:=hov ob rfl;have hob':w.heap.size<=ob:=oz
 have HO1:Hid (kA w1 ob n oc r):=qd hr1;have hgw:g<w1.heap.size:=by have:=hb1.size;omega
 have hne:g≠ob:=oz
 have HSS0:Hid (∀ w',aG (· = ob) w1 w'->(w'.cell? ⟨w.heap.size+1+1,0,none⟩=some (.int .i64 op)/\w'.cell? ⟨w.heap.size+1+1,1,none⟩=some (.int .i64 ka)/\w'.cell? ⟨w.heap.size+1+1,2,none⟩=some (.int .i64 kb)/\w'.cell? ⟨w.heap.size+1+1,3,none⟩=some (.int .i64 kc)/\w'.cell? ⟨w.heap.size+1+1,4,none⟩=some (.int .i64 xn)/\w'.cell? ⟨w.heap.size+1,3,none⟩=some (.int .i64 f.words))/\∀ i,i<n->w'.cell? ⟨g,i*2,none⟩=some (.int .i64 (r.getD i default).lo)/\w'.cell? ⟨g,i*2+1,none⟩=some (.int .i64 (r.getD i default).hi)):=qd fun w' hw=>by
  have x:=aX (hw.own OX1.out (by show ¬(_=ob);omega));have f:=aX (hw.own OF1.out (by show ¬(_=ob);omega));refine⟨⟨x.2.1,x.2.2.1,x.2.2.2.1,x.2.2.2.2.1,x.2.2.2.2.2.1,f.2.2.2.2.1⟩,fun i hi=>?_⟩;obtain⟨q0,q1,-,-⟩:=(bF.chg HR1.out.row hw hne).cells hi;exact⟨q0,q1⟩
 clear hc9 hg1 hcT T0 hbA hb0 HR0 hov OM0 OF0 OX0 hr1 hr;have x5:=aX OX1.out;go_upto_region 5 with(fail)
 rcases hop with hop|hop|hop
 ·as_aux_lemma =>
   have hq:=hop;clear hop;have hop:op=6\/op=7:=.inl hq;have h6:(op==6)=true:=by rw[hq];rfl
   have h7:(op==7)=false:=by rw[hq];rfl
   exact aVv
 ·as_aux_lemma =>
   have hq:=hop;clear hop;have hop:op=6\/op=7:=.inr hq;have h6:(op==6)=false:=by rw[hq];rfl
   have h7:(op==7)=true:=by rw[hq];rfl
   exact aVv
 ·as_aux_lemma =>
   subst hop;obtain⟨k1,k2,k3⟩:=HV10.out rfl;obtain⟨kn,rfl⟩:=Int.eq_ofNat_of_zero_le k1;obtain⟨_,_,_,_,_,_,hv,-,hfs⟩:=HMO.out;cases hv;obtain⟨hfl1,hfl2,fb,fo,hfb,H,hH⟩:=hfs;have hkn:kn<fl:=oz
   have hkn2:(kn:Int)<(fl:Int):=oz
   obtain⟨rfl,hfbB⟩:=hfb oz;obtain⟨⟨-,y1,-,-,-⟩,-,⟨hpl,hpm,pb,po,hpb,hpc⟩,-,-,-⟩:=hH kn hkn;have hP:eD m (kn:Int)=(m.funcs.getD kn default).params:=by unfold eD;rw[Int.toNat_natCast]
   have hP2:(bX m (kn:Int).toNat).params=(m.funcs.getD kn default).params:=by unfold bX;rw[Int.toNat_natCast]
   rw[hP2]at k3;have hRe:R=(dN r kb (m.funcs.getD kn default).params (m.funcs.getD kn default).params.length).map fun q=>q.set ka kO:=by rw[HRE.out,<-hP];simp[gZ,eC]
   have hrg:=HRG.out;have HRR:=qd hRe;clear hP hP2 HRE hH hfb HV10 hRe;generalize (m.funcs.getD kn default).params=ps at *;generalize H kn=hk at *;obtain⟨qa,ql,qc,_,_,_⟩:=hk;dsimp only at y1 hpl hpm hpb hpc;subst hpl;have j1:=(hb1.cell (p:=⟨fb,fo+kn*5+1,none⟩) (by show fb<_;omega)).trans y1;have m2:=aD OM1.out;have hpsl:kb+ps.length<=n:=oz
   have hpm':ps.length<=9223372036854775807:=hpm;have HPB:=qd hpb;have HPC:=qd hpc;have HALL:=qd (fun w=>sZ w);have hobl:=HO1.out.row.lt;clear hpb hpc y1 ib ic hrg k1 k2 k3 hpm;go_upto_region 40 with(fail)
   go_wp2_with fail;go_loopw [22] (fun i wx=>∃ k:Nat,∃ q,k<=ps.length/\i=.int .i64 k/\Hid (dN r kb ps k=some q)/\Hid (aG (· = ob) w1 wx)/\Hid (kA wx ob n oc q)) (fun i _=>ps.length-(intOf i).toNat)
   case atStart=>exact⟨0,r,Nat.zero_le _,rfl,qd rfl,qd (aG.refl _ _),HO1⟩
   case round =>
    clear x5 j1 m2;obtain⟨k,q,hk,rfl,HMT,HC,HQ⟩:=hrel;have hzx:=HC.out.size;by_cases hkt:k<ps.length
    ·have d3:(k:Int)<(ps.length:Int):=oz
     have hwk:IntKind.i64.wrap ((k:Int)+1)=(k:Int)+1:=IntWalk.i64_in _ oz;have hwb:IntKind.i64.wrap ((kb:Int)+(k:Int))=(kb:Int)+(k:Int):=IntWalk.i64_in _ oz;have d4:(kb:Int)+(k:Int)<(n:Int):=oz
     have d5:(0:Int)<=(kb:Int)+(k:Int):=oz
     have d6:((kb:Int)+(k:Int)).toNat=kb+k:=oz
     obtain⟨rfl,hpbB⟩:=HPB.out oz;obtain⟨p0,p1,-,-⟩:=HPC.out k hkt;have HNX:=qd (aH0 HMT.out);have HD:=qd (fun w=>zU (r.getD (kb+k) default) (ps.getD k default) w);generalize ps.getD k default=pp at *;have HSS:Hid (∀ w',Below wr.heap.size wr w'->w'.cell? ⟨w.heap.size+1+1,2,none⟩=some (.int .i64 kb)/\w'.cell? ⟨g,(kb+k)*2,none⟩=some (.int .i64 (r.getD (kb+k) default).lo)/\w'.cell? ⟨g,(kb+k)*2+1,none⟩=some (.int .i64 (r.getD (kb+k) default).hi)/\w'.cell? ⟨pb,po+k*2,none⟩=some (.int .i64 pp.lo)/\w'.cell? ⟨pb,po+k*2+1,none⟩=some (.int .i64 pp.hi)):=qd fun w' hw=>by
      have hcw:=HC.out.trans (aG.of hw);obtain⟨hc,hd⟩:=HSS0.out w' hcw;refine⟨hc.2.2.1,(hd _ oz).1,(hd _ oz).2,?_,?_⟩
      ·exact((hcw.cellAt (po+k*2) (show pb<w1.heap.size by have:=hb1.size;omega) (by show ¬(pb=ob);omega)).trans (hb1.cell (p:=⟨pb,po+k*2,none⟩) (by show pb<_;omega))).trans p0
      ·exact((hcw.cellAt (po+k*2+1) (show pb<w1.heap.size by have:=hb1.size;omega) (by show ¬(pb=ob);omega)).trans (hb1.cell (p:=⟨pb,po+k*2+1,none⟩) (by show pb<_;omega))).trans p1
     clear p0 p1;generalize cZ (r.getD (kb+k) default) pp=res at *;obtain⟨⟨rlo,rhi⟩,rok⟩:=res;generalize r.getD (kb+k) default=pa at *;obtain⟨alo,ahi⟩:=pa;obtain⟨blo,bhi⟩:=pp;dsimp only at HD HSS HNX;have hcf:∀ (args:Array Value) (w:World),(callFunc 66 args).run Tryz.prog w=.ok (.enter 66 args) w:=fun _ _=>rfl;go_upto_region 43 with(fail)
     obtain⟨wQ,hwQ⟩:∃ wQ:World,wQ=wr:=⟨_,rfl⟩
     subst hwQ;go_cut [23,24] (fun v23 v24 wc=>∃ k:Nat,v23=.pointer (some ⟨k,0,none⟩)/\v24=.bool rok/\Hid (aF wc k [.int .i64 rlo,.int .i64 rhi])/\Below wQ.heap.size wQ wc/\wQ.heap.size<=k)
     case first =>
      generalize hA0:(Act.mk _ _:Act)=a0;have Ee:a0.eval (.tmp 4)=.slice (some ⟨g,0,none⟩) n c/\a0.eval (.tmp 6)=.pointer (some ⟨w.heap.size+1,0,none⟩)/\a0.eval (.tmp 12)=.pointer (some ⟨w.heap.size+1+1,0,none⟩)/\a0.eval (.tmp 13)=.slice (some ⟨ob,0,none⟩) n oc/\a0.eval (.tmp 21)=.slice (some ⟨pb,po,none⟩) ps.length qc/\a0.eval (.tmp 22)=.int .i64 k/\a0.tmps.size=358:=by rw[<-hA0];exact⟨rfl,rfl,rfl,rfl,rfl,rfl,rfl⟩
      refine aE (fun w'=>Below wQ.heap.size wQ w') kr ((Below.refl _ wQ).drew) ?_;intro K0 hK0 hHeld
      try dsimp only at hHeld
      refine aL 0 rfl ?_;refine aL 1 rfl ?_;refine aL 2 rfl ?_;refine aL 3 rfl ?_;refine aL 4 rfl ?_;refine aL 5 rfl ?_;refine aL 6 rfl ?_;refine aL 7 rfl ?_;refine aL 8 rfl ?_;refine aL 9 rfl ?_;refine aL 10 rfl ?_;generalize hA1:(Act.put _ _ _:Act)=a1;replace Ee:a1.eval (.tmp 242)=.agg #[.int .i64 alo,.int .i64 ahi]/\a1.eval (.tmp 246)=.agg #[.int .i64 blo,.int .i64 bhi]/\a1.tmps.size=358:=oZ;refine wpAnyH_ready (rs:=[11,15]) kr si ?_;refine iB rfl (fun K hK=>?_) (iB rfl (fun K hK=>?_) AllReadyH.nil)
      ·refine aP rfl 66 [.tmp 242,.tmp 246] #[47,47] rfl hcf [.agg #[.int .i64 alo,.int .i64 ahi],.agg #[.int .i64 blo,.int .i64 bhi]] iD _ (HD.out _) ?_;rintro v wM ⟨rfl,hbM⟩;have hwM:Below wQ.heap.size wQ wM:=hHeld.trans (hbM.mono hHeld.size);have hzM:=hwM.size;refine hK.out _ _ (hwM) fun hHeld=>?_;clear hK K;refine aL 12 rfl ?_;refine aL 13 rfl ?_;refine aL 14 rfl ?_;generalize hA2:(Act.put _ _ _:Act)=a2;replace Ee:a2.eval (.tmp 248)=.agg #[.int .i64 rlo,.int .i64 rhi]/\a2.eval (.tmp 249)=.bool rok/\a2.tmps.size=358:=mQ;refine fD 15 rfl fun K hK=>?_;refine sX ?_;refine hK.out _ _ (bel) fun hHeld=>?_;clear hK K;generalize hA3:(Act.put _ _ _:Act)=a3;replace Ee:a3.eval (.tmp 248)=.agg #[.int .i64 rlo,.int .i64 rhi]/\a3.eval (.tmp 249)=.bool rok/\a3.eval (.tmp 23)=.pointer (some ⟨wM.heap.size,0,none⟩)/\a3.tmps.size=358:=rV;refine fD 16 rfl fun K hK=>?_;refine pA ?_;refine hK.out _ _ (bel) fun hHeld=>?_;clear hK K;generalize hA4:(Act.put _ _ _:Act)=a4;replace Ee:a4.eval (.tmp 249)=.bool rok/\a4.tmps.size=358:=xE;refine aL 17 rfl ?_;refine aO kr ?_;refine hK0.out _ _ ?_;subst hA4;subst hA3;subst hA2;subst hA1;subst hA0
       try clear Ee
       simp only[GE,Act.put,SU];go_wp2;go_meet;exact⟨wM.heap.size,rfl,rfl,qd (aF.new _ _ _),bel,hzM⟩
      ·refine sX ?_;refine hK.out _ _ (bel) fun hHeld=>?_;clear hK K;generalize hA2:(Act.put _ _ _:Act)=a2;replace Ee:a2.eval (.tmp 242)=.agg #[.int .i64 alo,.int .i64 ahi]/\a2.eval (.tmp 246)=.agg #[.int .i64 blo,.int .i64 bhi]/\a2.eval (.tmp 23)=.pointer (some ⟨wQ.heap.size,0,none⟩)/\a2.tmps.size=358:=mQ;refine fD 11 rfl fun K hK=>?_;refine aP rfl 66 [.tmp 242,.tmp 246] #[47,47] rfl hcf [.agg #[.int .i64 alo,.int .i64 ahi],.agg #[.int .i64 blo,.int .i64 bhi]] iD _ (HD.out _) ?_;rintro v wM ⟨rfl,hbM⟩;have hwM:Below wQ.heap.size wQ wM:=hHeld.trans (hbM.mono hHeld.size);have hzM:=hwM.size;have pM:=aF.below (aF.drew (aF.new' wQ [.int .i64 0,.int .i64 0] 47 wQ.heap.size rfl)) hbM;have oM:=aD pM;refine hK.out _ _ (hwM) fun hHeld=>?_;clear hK K;refine aL 12 rfl ?_;refine aL 13 rfl ?_;refine aL 14 rfl ?_;generalize hA3:(Act.put _ _ _:Act)=a3;replace Ee:a3.eval (.tmp 248)=.agg #[.int .i64 rlo,.int .i64 rhi]/\a3.eval (.tmp 249)=.bool rok/\a3.eval (.tmp 23)=.pointer (some ⟨wQ.heap.size,0,none⟩)/\a3.tmps.size=358:=rV;refine fD 16 rfl fun K hK=>?_;refine pA ?_;refine hK.out _ _ (bel) fun hHeld=>?_;clear hK K;generalize hA4:(Act.put _ _ _:Act)=a4;replace Ee:a4.eval (.tmp 249)=.bool rok/\a4.tmps.size=358:=xE;refine aL 17 rfl ?_;refine aO kr ?_;refine hK0.out _ _ ?_;subst hA4;subst hA3;subst hA2;subst hA1;subst hA0
       try clear Ee
       simp only[GE,Act.put,SU];go_wp2;go_meet;exact⟨wQ.heap.size,rfl,rfl,qd ((pM.set 0 _ si).set 1 _ si),bel,Nat.le_refl _⟩
     case rest =>
      obtain⟨kq,rfl,rfl,OK,hbd,hkl⟩:=hcut;clear HD HSS;have HC2:=qd (HC.out.trans (aG.of hbd));have x5:=aX (HC2.out.own OX1.out (by show ¬(_=ob);omega));have HQ2:Hid (kA wc ob n oc q):=qd (aA hbd HQ.out);obtain⟨k0,k1,k2,k3,k4⟩:=aD OK.out;obtain⟨q0,q1,q2,q3⟩:=HQ2.out.row.cells (show kb+k<n by omega);have hobl2:=HQ2.out.row.lt;have hzc:=hbd.size;cases rok
      ·have hR:R=none:=by obtain⟨d,hd⟩:∃ d,ps.length=k+1+d:=⟨ps.length-(k+1),oz⟩;rw[HRR.out,hd,yX (by rw[HNX.out,if_neg (by simp)]) d];rfl
       subst hR;clear HNX HRR;go_wp2
       try rw[Exit.noGoto_ret]
       refine bodyPost_ret (v:=.tuple #[.slice none 0 0,.bool false]) (by simp[results,Tryz.results29,go_sem]) rfl ?_;exact jB hb1 HC2.out hob'
      ·have HMT2:Hid (dN r kb ps (k+1)=some (q.set (kb+k) ⟨rlo,rhi⟩)):=qd (by rw[HNX.out,if_pos rfl]);clear HNX;go_wp2;refine⟨⟨k+1,_,oz,si,HMT2,qd (HC2.out.trans (jX _ _ _ _ _ _)),qd (HQ2.out.set (show kb+k<n by omega) ⟨rlo,rhi⟩)⟩,?_⟩;go_light;exact ml
    ·obtain rfl:k=ps.length:=oz
     have d3:¬(ps.length:Int)<(ps.length:Int):=oz
     obtain rfl:R=some (q.set ka kO):=by rw[HRR.out,HMT.out];rfl
     have x5:=aX (HC.out.own OX1.out (by show ¬(_=ob);omega));clear HRR HMT;unfold aJ kO at HALL;dsimp only at HALL;go_upto_region 47 with(fail)
     refine bI 4 kr kr (fun T F hF hall=>?_);simp only[TD];have hFc:=fun t=>(bT (hF t)).1;have hFf:=fun t=>(bT (hF t)).2;have hFs:=fun t=>(hF t).size;have hNE:Nonempty T:=(hall _ (Below.refl _ _)).elim fun t _=>⟨t⟩;repeat(refine aU (fun K hK=>?_);go_simp;refine hK _ ?_;clear hK K)
     (refine aU (fun K hK=>?_);go_simp;refine⟨_,fun t=>bE (hF t) hall (HALL.out (F t)),hK _ ?_⟩;clear hK K)
     repeat(refine aU (fun K hK=>?_);go_simp;refine hK _ ?_;clear hK K)
     refine gX (fun t=>?_);have hft:=hF t;have hR8:kA (F t) ob n oc q:=aA hft HQ.out;obtain⟨q0,q1,q2,q3⟩:=hR8.row.cells hka;go_wp2;refine bodyPost_ret (v:=.tuple #[.slice (some ⟨ob,0,none⟩) n oc,.bool true]) (by simp[results,Tryz.results29,go_sem]) rfl ?_;exact jC hb1 (HC.out.trans (aG.of hft)) hob' hR8 hka _ _
end Go.Proofs.YteebpnbdihcfmaaGreatDoor
