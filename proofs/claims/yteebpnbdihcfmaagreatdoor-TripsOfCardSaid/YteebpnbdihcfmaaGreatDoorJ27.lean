/- R16 -/
import Derived.Test.YteebpnbdihcfmaaGreatDoorJ24
set_option linter.unusedVariables false
set_option linter.unusedSimpArgs false
set_option maxRecDepth 100000
set_option maxHeartbeats 20000000
namespace Go.Proofs.YteebpnbdihcfmaaGreatDoor
open Go.RowKit
theorem aVr {p:Prop}(h:p:=by
 clear hq;have HOP:=qd hop;clear hop;have g1:(op==1)=false:=by have:=HOP.out;simp;omega
 have g2:(op==2)=false:=by have:=HOP.out;simp;omega
 have g3:(op==3)=false:=by have:=HOP.out;simp;omega
 have g4:(op==4)=false:=by have:=HOP.out;simp;omega
 have g5:(op==5)=false:=by have:=HOP.out;simp;omega
 have g8:(op==8)=false:=by have:=HOP.out;simp;omega
 have g9:(op==9)=false:=by have:=HOP.out;simp;omega
 have g10:(op==10)=false:=by have:=HOP.out;simp;omega
 have g6:(op==6)=false:=by have:=HOP.out;simp;omega
 have g7:(op==7)=false:=by have:=HOP.out;simp;omega
 have g18:(op==18)=false:=by have:=HOP.out;simp;omega
 have g11:(op==11)=false:=by have:=HOP.out;simp;omega
 have g12:(op==12)=false:=by have:=HOP.out;simp;omega
 have g13:(op==13)=false:=by have:=HOP.out;simp;omega
 have g19:(op==19)=false:=by have:=HOP.out;simp;omega
 have hR0:R=rT ⟨op,ka,kb,kc,xn⟩ (decide (to_=xn)&&decide (xn≠(frm:Int)+1)) (decide (xn=(frm:Int)+1)) r:=by rw[HRE.out];rcases HOP.out with rfl|rfl<;>rfl
 by_cases e1:xn=(frm:Int)+1
 ·have q1:(xn==(frm:Int)+1)=true:=by simpa using e1
  obtain rfl:R=some r:=by rw[hR0,decide_eq_true e1];rfl
  go_wp2;refine bodyPost_ret (v:=.tuple #[.slice (some ⟨ob,0,none⟩) n oc,.bool true]) (by simp[results,Tryz.results29,go_sem]) rfl ?_;exact nR hb1 (aG.refl _ _) hob' HO1.out
 ·have q1:(xn==(frm:Int)+1)=false:=by simpa using e1
  rw[decide_eq_false e1,decide_eq_true e1,Bool.and_true]at hR0;unfold rT at hR0;rw[if_neg (by simp)]at hR0;dsimp only at hR0;have HR0:=qd hR0;clear hR0;go_upto_region 51 with(fail)
  clear h15 h16 g1 g2 g3 g4 g5 g8 g9 g10 g6 g7 g18 g11 g12 g13 g19;cases hz:((xn==to_)==(op==16))
  ·have HD:=qd (fun w=>rW (r.getD ka default) w);have hRe:R=if(fN (r.getD ka default)).2 then some (r.set ka (fN (r.getD ka default)).1)else none:=by
    have h1:=aE6 (HOK.out.2 ka oz).2.2;rw[HR0.out,if_neg (fun e=>by rw[nO xn to_,aJl op 16,e]at hz;simp at hz)];unfold fI eC;rw[Int.toNat_natCast,h1.1];split
    ·rename_i h;rw[h1.2 h]
    ·rfl
   have hcf:∀ (args:Array Value) (w:World),(callFunc 63 args).run Tryz.prog w=.ok (.enter 63 args) w:=fun _ _=>rfl;go_upto_region 54 with(fail)
   have HRR:=qd hRe;clear hRe HRE x5 HR0;generalize fN (r.getD ka default)=res at *;obtain⟨⟨rlo,rhi⟩,rok⟩:=res;have HSS:Hid (∀ w',aG (· = ob) w1 w'->w'.cell? ⟨w.heap.size+1+1,1,none⟩=some (.int .i64 ka)/\w'.cell? ⟨g,ka*2,none⟩=some (.int .i64 (r.getD ka default).lo)/\w'.cell? ⟨g,ka*2+1,none⟩=some (.int .i64 (r.getD ka default).hi)):=qd fun w' hw=>by
    obtain⟨hc,hd⟩:=HSS0.out w' hw;exact⟨hc.2.1,(hd _ hka).1,(hd _ hka).2⟩
   clear HSS0;generalize r.getD ka default=pa at *;obtain⟨alo,ahi⟩:=pa;dsimp only at HD HSS HRR;generalize hA0:(Act.mk _ _:Act)=a0;have Ee:a0.eval (.tmp 4)=.slice (some ⟨g,0,none⟩) n c/\a0.eval (.tmp 6)=.pointer (some ⟨w.heap.size+1,0,none⟩)/\a0.eval (.tmp 12)=.pointer (some ⟨w.heap.size+1+1,0,none⟩)/\a0.eval (.tmp 13)=.slice (some ⟨ob,0,none⟩) n oc/\a0.tmps.size=358:=by rw[<-hA0];exact⟨rfl,rfl,rfl,rfl,rfl⟩
   refine aE (fun w'=>aG (· = ob) w1 w') kr ((aG.refl _ w1).drew) ?_;intro K0 hK0 hHeld
   try dsimp only at hHeld
   refine aL 0 rfl ?_;refine aL 1 rfl ?_;refine aL 2 rfl ?_;refine aL 3 rfl ?_;refine aL 4 rfl ?_;refine aL 5 rfl ?_;refine aL 6 rfl ?_;refine aL 7 rfl ?_;generalize hA1:(Act.put _ _ _:Act)=a1;replace Ee:a1.eval (.tmp 297)=.agg #[.int .i64 alo,.int .i64 ahi]/\a1.eval (.tmp 290)=.slice (some ⟨ob,0,none⟩) n oc/\a1.eval (.tmp 292)=.int .i64 ka/\a1.tmps.size=358:=oZ;refine fD 8 rfl fun K hK=>?_;refine aP rfl 63 [.tmp 297] #[47] rfl hcf [.agg #[.int .i64 alo,.int .i64 ahi]] (by simp only[GE,MX,EX,Ee,reduceIte,Nat.reduceEqDiff,Nat.reduceLT,Nat.reduceBEq]) _ (HD.out _) ?_;rintro v wM ⟨rfl,hbM⟩;have hwM:aG (· = ob) w1 wM:=hHeld.trans (aG.of hbM);have hzM:=hwM.size;have hrM:kA wM ob n oc r:=aA hbM (aA ((Below.refl _ _).drew) HO1.out);obtain⟨q0,q1,q2,q3⟩:=hrM.row.cells hka;refine hK.out _ _ (hwM) fun hHeld=>?_;clear hK K;refine aL 9 rfl ?_;refine aL 10 rfl ?_;refine aL 11 rfl ?_;refine aL 12 rfl ?_;generalize hA2:(Act.put _ _ _:Act)=a2;replace Ee:a2.eval (.tmp 299)=.agg #[.int .i64 rlo,.int .i64 rhi]/\a2.eval (.tmp 300)=.bool rok/\a2.eval (.tmp 301)=.pointer (some ⟨ob,ka*2,none⟩)/\a2.tmps.size=358:=mQ;refine fD 13 rfl fun K hK=>?_;refine pA ?_;refine hK.out _ _ (chq) fun hHeld=>?_;clear hK K;refine aL 14 rfl ?_;refine aO kr ?_;refine hK0.out _ _ ?_;subst hA2;subst hA1;subst hA0
   try clear Ee
   simp only[GE,Act.put,SU];have hRR:=HRR.out;clear HRR;cases rok
   ·rw[if_neg (by simp)]at hRR;subst hRR;go_wp2
    try rw[Exit.noGoto_ret]
    refine bodyPost_ret (v:=.tuple #[.slice none 0 0,.bool false]) (by simp[results,Tryz.results29,go_sem]) rfl ?_;exact jB hb1 (hwM.trans (jX _ _ _ _ _ _)) hob'
   ·rw[if_pos rfl]at hRR;subst hRR;go_wp2;refine bodyPost_ret (v:=.tuple #[.slice (some ⟨ob,0,none⟩) n oc,.bool true]) (by simp[results,Tryz.results29,go_sem]) rfl ?_;exact jC hb1 hwM hob' hrM hka rlo rhi
  ·have HD:=qd (fun w=>zU (r.getD ka default) ⟨0,0⟩ w);have hRe:R=if(cZ (r.getD ka default) ⟨0,0⟩).2 then some (r.set ka (cZ (r.getD ka default) ⟨0,0⟩).1)else none:=by
    rw[HR0.out,if_pos (by rw[nO xn to_,aJl op 16]at hz;simpa using hz)];rfl
   have hcf:∀ (args:Array Value) (w:World),(callFunc 66 args).run Tryz.prog w=.ok (.enter 66 args) w:=fun _ _=>rfl;go_upto_region 53 with(fail)
   have HRR:=qd hRe;clear hRe HRE x5 HR0;generalize cZ (r.getD ka default) ⟨0,0⟩=res at *;obtain⟨⟨rlo,rhi⟩,rok⟩:=res;have HSS:Hid (∀ w',aG (· = ob) w1 w'->w'.cell? ⟨w.heap.size+1+1,1,none⟩=some (.int .i64 ka)/\w'.cell? ⟨g,ka*2,none⟩=some (.int .i64 (r.getD ka default).lo)/\w'.cell? ⟨g,ka*2+1,none⟩=some (.int .i64 (r.getD ka default).hi)):=qd fun w' hw=>by
    obtain⟨hc,hd⟩:=HSS0.out w' hw;exact⟨hc.2.1,(hd _ hka).1,(hd _ hka).2⟩
   clear HSS0;generalize r.getD ka default=pa at *;obtain⟨alo,ahi⟩:=pa;dsimp only at HD HSS HRR;generalize hA0:(Act.mk _ _:Act)=a0;have Ee:a0.eval (.tmp 4)=.slice (some ⟨g,0,none⟩) n c/\a0.eval (.tmp 6)=.pointer (some ⟨w.heap.size+1,0,none⟩)/\a0.eval (.tmp 12)=.pointer (some ⟨w.heap.size+1+1,0,none⟩)/\a0.eval (.tmp 13)=.slice (some ⟨ob,0,none⟩) n oc/\a0.tmps.size=358:=by rw[<-hA0];exact⟨rfl,rfl,rfl,rfl,rfl⟩
   refine aE (fun w'=>aG (· = ob) w1 w') kr ((aG.refl _ w1).drew) ?_;intro K0 hK0 hHeld
   try dsimp only at hHeld
   refine aL 0 rfl ?_;refine aL 1 rfl ?_;refine aL 2 rfl ?_;refine aL 3 rfl ?_;refine aL 4 rfl ?_;refine aL 5 rfl ?_;refine aL 6 rfl ?_;refine aL 7 rfl ?_;refine aL 8 rfl ?_;generalize hA1:(Act.put _ _ _:Act)=a1;replace Ee:a1.eval (.tmp 283)=.agg #[.int .i64 alo,.int .i64 ahi]/\a1.eval (.tmp 284)=.agg #[.int .i64 0,.int .i64 0]/\a1.eval (.tmp 276)=.slice (some ⟨ob,0,none⟩) n oc/\a1.eval (.tmp 278)=.int .i64 ka/\a1.tmps.size=358:=oZ;refine fD 9 rfl fun K hK=>?_;refine aP rfl 66 [.tmp 283,.tmp 284] #[47,47] rfl hcf [.agg #[.int .i64 alo,.int .i64 ahi],.agg #[.int .i64 0,.int .i64 0]] (by simp only[GE,MX,EX,Ee,reduceIte,Nat.reduceEqDiff,Nat.reduceLT,Nat.reduceBEq]) _ (HD.out _) ?_;rintro v wM ⟨rfl,hbM⟩;have hwM:aG (· = ob) w1 wM:=hHeld.trans (aG.of hbM);have hzM:=hwM.size;have hrM:kA wM ob n oc r:=aA hbM (aA ((Below.refl _ _).drew) HO1.out);obtain⟨q0,q1,q2,q3⟩:=hrM.row.cells hka;refine hK.out _ _ (hwM) fun hHeld=>?_;clear hK K;refine aL 10 rfl ?_;refine aL 11 rfl ?_;refine aL 12 rfl ?_;refine aL 13 rfl ?_;generalize hA2:(Act.put _ _ _:Act)=a2;replace Ee:a2.eval (.tmp 286)=.agg #[.int .i64 rlo,.int .i64 rhi]/\a2.eval (.tmp 287)=.bool rok/\a2.eval (.tmp 288)=.pointer (some ⟨ob,ka*2,none⟩)/\a2.tmps.size=358:=mQ;refine fD 14 rfl fun K hK=>?_;refine pA ?_;refine hK.out _ _ (chq) fun hHeld=>?_;clear hK K;refine aL 15 rfl ?_;refine aO kr ?_;refine hK0.out _ _ ?_;subst hA2;subst hA1;subst hA0
   try clear Ee
   simp only[GE,Act.put,SU];have hRR:=HRR.out;clear HRR;cases rok
   ·rw[if_neg (by simp)]at hRR;subst hRR;go_wp2
    try rw[Exit.noGoto_ret]
    refine bodyPost_ret (v:=.tuple #[.slice none 0 0,.bool false]) (by simp[results,Tryz.results29,go_sem]) rfl ?_;exact jB hb1 (hwM.trans (jX _ _ _ _ _ _)) hob'
   ·rw[if_pos rfl]at hRR;subst hRR;go_wp2;refine bodyPost_ret (v:=.tuple #[.slice (some ⟨ob,0,none⟩) n oc,.bool true]) (by simp[results,Tryz.results29,go_sem]) rfl ?_;exact jC hb1 hwM hob' hrM hka rlo rhi):p:=h
theorem aVt {p:Prop}(h:p:=by
 clear hq;have HD:=qd (fun w=>aM5 (r.getD kb default) xn f.words w hn64 hw0 hw1);have HALL:=qd (fun w=>sZ w);have hRe:R=if(zC (r.getD kb default) xn f.words).2 then some (if(op==11)=true then(r.set kb (zC (r.getD kb default) xn f.words).1).set ka kO else r.set kb (zC (r.getD kb default) xn f.words).1)else none:=by
  rw[HRE.out];have hm:=aSm (a:=r.getD kb default) hn64 hw0 hw1;rcases hop with rfl|rfl<;>simp only[gZ,mI,fQ,eC,Int.toNat_natCast]<;>simp only[Int.reduceEq,Int.reduceLE,and_self,and_false,false_and,or_self,or_true,true_or,or_false,if_true,if_false,reduceIte]<;>(cases hk:(fJ xn f.words).2<;>rw[hk]at hm<;>simp at hm<;>simp[<-hm])
 have hcf:∀ (args:Array Value) (w:World),(callFunc 64 args).run Tryz.prog w=.ok (.enter 64 args) w:=fun _ _=>rfl;have HRR:=qd hRe;clear hRe HRE;have HOP:=qd hop;clear hop;have g1:(op==1)=false:=by have:=HOP.out;simp;omega
 have g2:(op==2)=false:=by have:=HOP.out;simp;omega
 have g3:(op==3)=false:=by have:=HOP.out;simp;omega
 have g4:(op==4)=false:=by have:=HOP.out;simp;omega
 have g5:(op==5)=false:=by have:=HOP.out;simp;omega
 have g8:(op==8)=false:=by have:=HOP.out;simp;omega
 have g9:(op==9)=false:=by have:=HOP.out;simp;omega
 have g10:(op==10)=false:=by have:=HOP.out;simp;omega
 have g6:(op==6)=false:=by have:=HOP.out;simp;omega
 have g7:(op==7)=false:=by have:=HOP.out;simp;omega
 have g18:(op==18)=false:=by have:=HOP.out;simp;omega
 go_upto_region 30 with(fail)
 clear x5 g1 g2 g3 g4 g5 g8 g9 g10 g6 g7 g18;generalize zC (r.getD kb default) xn f.words=res at *;obtain⟨⟨rlo,rhi⟩,rok⟩:=res;have HSS:Hid (∀ w',Below w1.heap.size w1 w'->w'.cell? ⟨w.heap.size+1+1,2,none⟩=some (.int .i64 kb)/\w'.cell? ⟨w.heap.size+1+1,4,none⟩=some (.int .i64 xn)/\w'.cell? ⟨w.heap.size+1,3,none⟩=some (.int .i64 f.words)/\w'.cell? ⟨g,kb*2,none⟩=some (.int .i64 (r.getD kb default).lo)/\w'.cell? ⟨g,kb*2+1,none⟩=some (.int .i64 (r.getD kb default).hi)):=qd fun w' hw=>by
  obtain⟨hc,hd⟩:=HSS0.out w' (aG.of hw);exact⟨hc.2.2.1,hc.2.2.2.2.1,hc.2.2.2.2.2,(hd _ hkb).1,(hd _ hkb).2⟩
 clear HSS0;generalize r.getD kb default=pb at *;obtain⟨blo,bhi⟩:=pb;dsimp only at HD HSS HRR;go_cut [19,20] (fun v19 v20 wc=>∃ k:Nat,v19=.pointer (some ⟨k,0,none⟩)/\v20=.bool rok/\Hid (aF wc k [.int .i64 rlo,.int .i64 rhi])/\Below w1.heap.size w1 wc/\w1.heap.size<=k)
 case first =>
  generalize hA0:(Act.mk _ _:Act)=a0;have Ee:a0.eval (.tmp 4)=.slice (some ⟨g,0,none⟩) n c/\a0.eval (.tmp 6)=.pointer (some ⟨w.heap.size+1,0,none⟩)/\a0.eval (.tmp 12)=.pointer (some ⟨w.heap.size+1+1,0,none⟩)/\a0.eval (.tmp 13)=.slice (some ⟨ob,0,none⟩) n oc/\a0.tmps.size=358:=by rw[<-hA0];exact⟨rfl,rfl,rfl,rfl,rfl⟩
  refine aE (fun w'=>Below w1.heap.size w1 w') kr ((Below.refl _ w1).drew) ?_;intro K0 hK0 hHeld
  try dsimp only at hHeld
  refine aL 0 rfl ?_;refine aL 1 rfl ?_;refine aL 2 rfl ?_;refine aL 3 rfl ?_;refine aL 4 rfl ?_;refine aL 5 rfl ?_;refine aL 6 rfl ?_;refine aL 7 rfl ?_;refine aL 8 rfl ?_;generalize hA1:(Act.put _ _ _:Act)=a1;replace Ee:a1.eval (.tmp 178)=.agg #[.int .i64 blo,.int .i64 bhi]/\a1.eval (.tmp 180)=.int .i64 xn/\a1.eval (.tmp 182)=.int .i64 f.words/\a1.tmps.size=358:=oZ;refine wpAnyH_ready (rs:=[9,13]) kr si ?_;refine iB rfl (fun K hK=>?_) (iB rfl (fun K hK=>?_) AllReadyH.nil)
  ·refine aP rfl 64 [.tmp 178,.tmp 180,.tmp 182] #[47,2,3] rfl hcf [.agg #[.int .i64 blo,.int .i64 bhi],.int .i64 xn,.int .i64 f.words] (by simp only[GE,MX,EX,Ee,reduceIte,Nat.reduceEqDiff,Nat.reduceLT,Nat.reduceBEq]) _ (HD.out _) ?_;rintro v wM ⟨rfl,hbM⟩;have hwM:Below w1.heap.size w1 wM:=hHeld.trans (hbM.mono hHeld.size);have hzM:=hwM.size;refine hK.out _ _ (hwM) fun hHeld=>?_;clear hK K;refine aL 10 rfl ?_;refine aL 11 rfl ?_;refine aL 12 rfl ?_;generalize hA2:(Act.put _ _ _:Act)=a2;replace Ee:a2.eval (.tmp 184)=.agg #[.int .i64 rlo,.int .i64 rhi]/\a2.eval (.tmp 185)=.bool rok/\a2.tmps.size=358:=mQ;refine fD 13 rfl fun K hK=>?_;refine sX ?_;refine hK.out _ _ (bel) fun hHeld=>?_;clear hK K;generalize hA3:(Act.put _ _ _:Act)=a3;replace Ee:a3.eval (.tmp 184)=.agg #[.int .i64 rlo,.int .i64 rhi]/\a3.eval (.tmp 185)=.bool rok/\a3.eval (.tmp 19)=.pointer (some ⟨wM.heap.size,0,none⟩)/\a3.tmps.size=358:=rV;refine fD 14 rfl fun K hK=>?_;refine pA ?_;refine hK.out _ _ (bel) fun hHeld=>?_;clear hK K;generalize hA4:(Act.put _ _ _:Act)=a4;replace Ee:a4.eval (.tmp 185)=.bool rok/\a4.tmps.size=358:=xE;refine aL 15 rfl ?_;refine aO kr ?_;refine hK0.out _ _ ?_;subst hA4;subst hA3;subst hA2;subst hA1;subst hA0
   try clear Ee
   simp only[GE,Act.put,SU];go_wp2;go_meet;exact⟨wM.heap.size,rfl,rfl,qd (aF.new _ _ _),bel,hzM⟩
  ·refine sX ?_;refine hK.out _ _ (bel) fun hHeld=>?_;clear hK K;generalize hA2:(Act.put _ _ _:Act)=a2;replace Ee:a2.eval (.tmp 178)=.agg #[.int .i64 blo,.int .i64 bhi]/\a2.eval (.tmp 180)=.int .i64 xn/\a2.eval (.tmp 182)=.int .i64 f.words/\a2.eval (.tmp 19)=.pointer (some ⟨w1.heap.size,0,none⟩)/\a2.tmps.size=358:=mQ;refine fD 9 rfl fun K hK=>?_;refine aP rfl 64 [.tmp 178,.tmp 180,.tmp 182] #[47,2,3] rfl hcf [.agg #[.int .i64 blo,.int .i64 bhi],.int .i64 xn,.int .i64 f.words] (by simp only[GE,MX,EX,Ee,reduceIte,Nat.reduceEqDiff,Nat.reduceLT,Nat.reduceBEq]) _ (HD.out _) ?_;rintro v wM ⟨rfl,hbM⟩;have hwM:Below w1.heap.size w1 wM:=hHeld.trans (hbM.mono hHeld.size);have hzM:=hwM.size;have pM:=aF.below (aF.drew (aF.new' w1 [.int .i64 0,.int .i64 0] 47 w1.heap.size rfl)) hbM;have oM:=aD pM;refine hK.out _ _ (hwM) fun hHeld=>?_;clear hK K;refine aL 10 rfl ?_;refine aL 11 rfl ?_;refine aL 12 rfl ?_;generalize hA3:(Act.put _ _ _:Act)=a3;replace Ee:a3.eval (.tmp 184)=.agg #[.int .i64 rlo,.int .i64 rhi]/\a3.eval (.tmp 185)=.bool rok/\a3.eval (.tmp 19)=.pointer (some ⟨w1.heap.size,0,none⟩)/\a3.tmps.size=358:=rV;refine fD 14 rfl fun K hK=>?_;refine pA ?_;refine hK.out _ _ (bel) fun hHeld=>?_;clear hK K;generalize hA4:(Act.put _ _ _:Act)=a4;replace Ee:a4.eval (.tmp 185)=.bool rok/\a4.tmps.size=358:=xE;refine aL 15 rfl ?_;refine aO kr ?_;refine hK0.out _ _ ?_;subst hA4;subst hA3;subst hA2;subst hA1;subst hA0
   try clear Ee
   simp only[GE,Act.put,SU];go_wp2;go_meet;exact⟨w1.heap.size,rfl,rfl,qd ((pM.set 0 _ si).set 1 _ si),bel,Nat.le_refl _⟩
 case rest =>
  obtain⟨k,rfl,rfl,OK,hbd,hkl⟩:=hcut;have hRR:=HRR.out;clear HRR HD HSS;have hcd:=aG.of (S:=(· = ob)) hbd;have x5:=aX (OX1.out.below hbd);have HO2:Hid (kA wc ob n oc r):=qd (aA hbd HO1.out);obtain⟨k0,k1,k2,k3,k4⟩:=aD OK.out;obtain⟨q0,q1,q2,q3⟩:=HO2.out.row.cells hkb;have hobl:=HO2.out.row.lt;cases rok
  ·rw[if_neg (by simp)]at hRR;subst hRR;go_wp2
   try rw[Exit.noGoto_ret]
   refine bodyPost_ret (v:=.tuple #[.slice none 0 0,.bool false]) (by simp[results,Tryz.results29,go_sem]) rfl ?_;exact jB hb1 hcd hob'
  ·rw[if_pos rfl]at hRR;go_upto_region 34 with(fail)
   generalize hW9:(wc.setCell ⟨ob,kb*2,none⟩ (.int .i64 rlo)).setCell ⟨ob,kb*2+1,none⟩ (.int .i64 rhi)=w9;have hC9:aG (· = ob) w1 w9:=by rw[<-hW9];exact hcd.trans (jX _ _ _ _ _ _)
   have hR9:kA w9 ob n oc (r.set kb ⟨rlo,rhi⟩):=by rw[<-hW9];exact HO2.out.set hkb ⟨rlo,rhi⟩
   clear hW9 k0 k1 k2 k3 k4 q0 q1 q2 q3 x5 HO2;have HR9:=qd hR9;have HC9:=qd hC9;have x5:=aX (hC9.own OX1.out (by show ¬(_=ob);omega));obtain⟨q0,q1,q2,q3⟩:=hR9.row.cells hka;clear hR9 hC9;cases hb:(op==11)
   ·first
    | (cases h11.symm.trans hb;done)
    | (rw[hb]at hRR;subst hRR;go_wp2;refine bodyPost_ret (v:=.tuple #[.slice (some ⟨ob,0,none⟩) n oc,.bool true]) (by simp[results,Tryz.results29,go_sem]) rfl ?_;exact nR hb1 HC9.out hob' HR9.out)
   ·first
    | (cases h11.symm.trans hb;done)
    | (rw[hb]at hRR;subst hRR;unfold aJ kO at HALL;dsimp only at HALL;go_upto_region 35 with(fail);(refine bI 4 kr kr (fun T F hF hall=>?_);simp only[TD];have hFc:=fun t=>(bT (hF t)).1;have hFf:=fun t=>(bT (hF t)).2;have hFs:=fun t=>(hF t).size;have hNE:Nonempty T:=(hall _ (Below.refl _ _)).elim fun t _=>⟨t⟩;repeat(refine aU (fun K hK=>?_);go_simp;refine hK _ ?_;clear hK K));(refine aU (fun K hK=>?_);go_simp;refine⟨_,fun t=>bE (hF t) hall (HALL.out (F t)),hK _ ?_⟩;clear hK K);(repeat(refine aU (fun K hK=>?_);go_simp;refine hK _ ?_;clear hK K));refine gX (fun t=>?_);have hft:=hF t;have hR8:kA (F t) ob n oc (r.set kb ⟨rlo,rhi⟩):=aA hft HR9.out;obtain⟨q0,q1,q2,q3⟩:=hR8.row.cells hka;go_wp2;refine bodyPost_ret (v:=.tuple #[.slice (some ⟨ob,0,none⟩) n oc,.bool true]) (by simp[results,Tryz.results29,go_sem]) rfl ?_;exact jC hb1 (HC9.out.trans (aG.of hft)) hob' hR8 hka _ _)):p:=h
theorem aS3 (x:dJ) (B:Nat) (m:bA) (hh:HF) (f:aC) (ta fa:Option Addr) (tl tc fl fc:Nat) (frm:Nat) (to_:Int) (g n c:Nat) (r:List aB) (w:World) (hB:B<=w.heap.size) (hmo:cP B w (.agg #[.slice ta tl tc,.slice fa fl fc]) m) (hf:aZ B w hh f) (hfl:frm<f.code.length) (hn1:f.code.length<=1024) (hx:f.code.getD frm default=x) (hi:cY m f x) (hr:kA w g n c r) (hrg:(n:Int)=f.regs) (hn:n<=64) (hrok:gU n r) (hw0:0<=f.words) (hw1:f.words<=4096) (hop:(x.op=15)\/(x.op=16)\/(x.op=11)\/(x.op=12)):Calls Tryz.prog 29 #[.agg #[.slice ta tl tc,.slice fa fl fc],aI hh f,.int .i64 frm,.int .i64 to_,.slice (some ⟨g,0,none⟩) n c] w (lM w n (gP m f frm to_ r)):=by
 have hn64:=xU hf hfl;rw[hx]at hn64;obtain⟨pa,pl,pc,cb,co,cc,rfl,hcm,hcB,⟨g0,g1,g2,g3,g4⟩,hcbl,hcb1,hcb2,hcb3,hfr,hwf⟩:=dW hB hf hfl hn1 hx;unfold aI;dsimp only;obtain⟨op,xa,xb,xc,xn⟩:=x;obtain⟨v1,v2,v3,v4,v5,v6,v7,v8,v9,v10⟩:=hi;dsimp only at *;obtain⟨ka,rfl⟩:=Int.eq_ofNat_of_zero_le v3;obtain⟨kb,rfl⟩:=Int.eq_ofNat_of_zero_le v5;obtain⟨kc,rfl⟩:=Int.eq_ofNat_of_zero_le v7;have hka:ka<n:=oz
 have hkb:kb<n:=oz
 have hkc:kc<n:=oz
 have ia:(ka:Int)<(n:Int):=oz
 have ib:(kb:Int)<(n:Int):=oz
 have ic:(kc:Int)<(n:Int):=oz
 have hgl:=hr.row.lt;obtain⟨R,hRw⟩:∃ R,R=gP m f frm to_ r:=⟨_,rfl⟩
 rw[<-hRw];have hR:R=gZ m f.words ⟨op,ka,kb,kc,xn⟩ (decide (to_=xn)&&decide (xn≠(frm:Int)+1)) (decide (xn=(frm:Int)+1)) r:=by
  rw[hRw];unfold gP;rw[hx]
 have HRE:=qd hR;have HOK:=qd hrok;have HV10:=qd v10;have HMO:=qd hmo;have HRW:=qd hr;have HRG:=qd hrg;clear hR hRw hf hrok v9 v10 hmo v3 v4 v5 v6 v7 v8 hrg hx;go_enter Tryz.func29,Tryz.ntmps29;go_upto_region 2 with(fail)
 generalize hW0:World.alloc _ _=W0;have hb0:Below w.heap.size w W0:=by rw[<-hW0];exact bel
 have hz0:w.heap.size+3<=W0.heap.size:=by rw[<-hW0];simp
 have OM0:aF W0 w.heap.size [.slice ta tl tc,.slice fa fl fc]:=xC
 have OF0:aF W0 (w.heap.size+1) [.string f.name,.slice pa pl pc,.int .i64 f.regs,.int .i64 f.words,.slice (some ⟨cb,co,none⟩) f.code.length cc]:=sP
 have OX0:aF W0 (w.heap.size+1+1) [.int .i64 op,.int .i64 ka,.int .i64 kb,.int .i64 kc,.int .i64 xn]:=lG
 clear hW0 g0 g1 g2 g3 g4;have T0:(W0.alloc (.cells #[] 47)).ownsRow 0 47 2 (.slice (some ⟨W0.heap.size,0,none⟩) 0 0) 0 []:=eE W0 _ 2 rfl;have hbA:Below W0.heap.size W0 (W0.alloc (.cells #[] 47)):=eN;have HR0:=qd (aA hb0 HRW.out);go_upto_region 3 with(first|(at_builtin;refine dD rfl (.tmp 33) (.tmp 34) 39 47 2 16 (.agg #[.int .i64 0,.int .i64 0]) rfl Tryz.underlying39 Tryz.infoSp rfl dc (.slice (some ⟨W0.heap.size,0,none⟩) 0 0) 0 [] rfl T0 (.slice (some ⟨g,0,none⟩) n c) n (bL r) rfl (aA hbA HR0.out) (fun h=>absurd h oz) (gL r) bH oz ?_;intro vo w1 hr1 hc9 hg1)|fail)
 rw[Nat.zero_add,List.nil_append]at hr1;have hcT:aG (fun k=>k=W0.heap.size) W0 w1:=(aG.of hbA).trans (hc9.mono fun k _ hk=>by have e:W0.heap.size=k:=eL hk;exact e.symm);have hb1:Below w.heap.size w w1:=hb0.trans (hcT.below _ hb0.size (fun k _ e=>by omega));have OM1:=qd (hcT.own OM0 oz);have OF1:=qd (hcT.own OF0 oz);have OX1:=qd (hcT.own OX0 oz);have HR1:Hid (kA w1 g n c r):=qd (aA hb1 HRW.out);have hov:∀ j,vo.ownBlock=some j->w.heap.size+2<j:=fun j hj=>by
  rcases hg1 j hj with e|e
  ·have e2:W0.heap.size=j:=eL e
   omega
  ·have:=hbA.size;omega
 obtain⟨ob,oc,rfl,hoc1,hoc2,hol⟩:=bB hr1 oz;have hob:w.heap.size+2<ob:=hov ob rfl;have hob':w.heap.size<=ob:=oz
 have HO1:Hid (kA w1 ob n oc r):=qd hr1;have hgw:g<w1.heap.size:=by have:=hb1.size;omega
 have hne:g≠ob:=oz
 have HSS0:Hid (∀ w',aG (· = ob) w1 w'->(w'.cell? ⟨w.heap.size+1+1,0,none⟩=some (.int .i64 op)/\w'.cell? ⟨w.heap.size+1+1,1,none⟩=some (.int .i64 ka)/\w'.cell? ⟨w.heap.size+1+1,2,none⟩=some (.int .i64 kb)/\w'.cell? ⟨w.heap.size+1+1,3,none⟩=some (.int .i64 kc)/\w'.cell? ⟨w.heap.size+1+1,4,none⟩=some (.int .i64 xn)/\w'.cell? ⟨w.heap.size+1,3,none⟩=some (.int .i64 f.words))/\∀ i,i<n->w'.cell? ⟨g,i*2,none⟩=some (.int .i64 (r.getD i default).lo)/\w'.cell? ⟨g,i*2+1,none⟩=some (.int .i64 (r.getD i default).hi)):=qd fun w' hw=>by
  have x:=aX (hw.own OX1.out (by show ¬(_=ob);omega));have f:=aX (hw.own OF1.out (by show ¬(_=ob);omega));refine⟨⟨x.2.1,x.2.2.1,x.2.2.2.1,x.2.2.2.2.1,x.2.2.2.2.2.1,f.2.2.2.2.1⟩,fun i hi=>?_⟩;obtain⟨q0,q1,-,-⟩:=(bF.chg HR1.out.row hw hne).cells hi;exact⟨q0,q1⟩
 clear hc9 hg1 hcT T0 hbA hb0 HR0 hov OM0 OF0 OX0 hr1 hr;have x5:=aX OX1.out;go_upto_region 5 with(fail)
 rcases hop with hop|hop|hop|hop
 ·as_aux_lemma =>
   have hq:=hop;clear hop;have hop:op=15\/op=16:=.inl hq;have h15:(op==15)=true:=by rw[hq];rfl
   have h16:(op==16)=false:=by rw[hq];rfl
   exact aVr
 ·as_aux_lemma =>
   have hq:=hop;clear hop;have hop:op=15\/op=16:=.inr hq;have h15:(op==15)=false:=by rw[hq];rfl
   have h16:(op==16)=true:=by rw[hq];rfl
   exact aVr
 ·as_aux_lemma =>
   have hq:=hop;clear hop;have hop:op=11\/op=12:=.inl hq;have h11:(op==11)=true:=by rw[hq];rfl
   have h12:(op==12)=false:=by rw[hq];rfl
   exact aVt
 ·as_aux_lemma =>
   have hq:=hop;clear hop;have hop:op=11\/op=12:=.inr hq;have h11:(op==11)=false:=by rw[hq];rfl
   have h12:(op==12)=true:=by rw[hq];rfl
   exact aVt
end Go.Proofs.YteebpnbdihcfmaaGreatDoor
