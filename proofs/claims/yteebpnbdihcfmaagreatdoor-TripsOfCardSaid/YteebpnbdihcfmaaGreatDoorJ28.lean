/- R16 -/
import Derived.Test.YteebpnbdihcfmaaGreatDoorJ24
set_option linter.unusedVariables false
set_option linter.unusedSimpArgs false
set_option maxRecDepth 100000
set_option maxHeartbeats 20000000
namespace Go.Proofs.YteebpnbdihcfmaaGreatDoor
open Go.RowKit
theorem oY {p:Prop}(h:p:=by
 simp[results,Tryz.results29,go_sem]):p:=h
theorem aPe {p:Prop}(h:p:=by
 go_wp2
 try rw[Exit.noGoto_ret]
 refine bodyPost_ret (v:=.tuple #[.slice none 0 0,.bool false]) oY rfl ?_;exact jB hb1 hcd hob'):p:=h
theorem aOf {p:Prop}(h:p:=by
 go_wp2;refine bodyPost_ret (v:=.tuple #[.slice (some ⟨ob,0,none⟩) n oc,.bool true]) (by simp[results,Tryz.results29,go_sem]) rfl ?_;exact nR hb1 hcd hob' HO2.out):p:=h
theorem aQe {p:Prop}(h:p:=by
 obtain rfl:R=some r:=by rw[HRE.out];simp[gZ]
 go_wp2;refine bodyPost_ret (v:=.tuple #[.slice (some ⟨ob,0,none⟩) n oc,.bool true]) (by simp[results,Tryz.results29,go_sem]) rfl ?_;exact nR hb1 (aG.refl _ _) hob' HO1.out):p:=h
theorem aSz (x:dJ) (B:Nat) (m:bA) (hh:HF) (f:aC) (ta fa:Option Addr) (tl tc fl fc:Nat) (frm:Nat) (to_:Int) (g n c:Nat) (r:List aB) (w:World) (hB:B<=w.heap.size) (hmo:cP B w (.agg #[.slice ta tl tc,.slice fa fl fc]) m) (hf:aZ B w hh f) (hfl:frm<f.code.length) (hn1:f.code.length<=1024) (hx:f.code.getD frm default=x) (hi:cY m f x) (hr:kA w g n c r) (hrg:(n:Int)=f.regs) (hn:n<=64) (hrok:gU n r) (hw0:0<=f.words) (hw1:f.words<=4096) (hop:(x.op=13)\/(x.op=0\/x.op=14\/x.op=1\/x.op=2)\/(x.op=17)):Calls Tryz.prog 29 #[.agg #[.slice ta tl tc,.slice fa fl fc],aI hh f,.int .i64 frm,.int .i64 to_,.slice (some ⟨g,0,none⟩) n c] w (lM w n (gP m f frm to_ r)):=by
 have hn64:=xU hf hfl;rw[hx]at hn64;obtain⟨pa,pl,pc,cb,co,cc,rfl,hcm,hcB,⟨g0,g1,g2,g3,g4⟩,hcbl,hcb1,hcb2,hcb3,hfr,hwf⟩:=dW hB hf hfl hn1 hx;unfold aI;dsimp only;obtain⟨op,xa,xb,xc,xn⟩:=x;obtain⟨v1,v2,v3,v4,v5,v6,v7,v8,v9,v10⟩:=hi;dsimp only at *;obtain⟨ka,rfl⟩:=Int.eq_ofNat_of_zero_le v3;obtain⟨kb,rfl⟩:=Int.eq_ofNat_of_zero_le v5;obtain⟨kc,rfl⟩:=Int.eq_ofNat_of_zero_le v7;have hka:ka<n:=oz
 have hkb:kb<n:=oz
 have hkc:kc<n:=oz
 have ia:(ka:Int)<(n:Int):=oz
 have ib:(kb:Int)<(n:Int):=oz
 have ic:(kc:Int)<(n:Int):=oz
 have hgl:=hr.row.lt;obtain⟨R,hRw⟩:∃ R,R=gP m f frm to_ r:=⟨_,rfl⟩
 rw[<-hRw];have hR:R=gZ m f.words ⟨op,ka,kb,kc,xn⟩ (decide (to_=xn)&&decide (xn≠(frm:Int)+1)) (decide (xn=(frm:Int)+1)) r:=by
  rw[hRw];unfold gP;rw[hx]
 have HRE:=qd hR;have HOK:=qd hrok;have HV10:=qd v10;have HMO:=qd hmo;have HRW:=qd hr;have HRG:=qd hrg;clear hR hRw hf hrok v9 v10 hmo v3 v4 v5 v6 v7 v8 hrg hx;go_enter Tryz.func29,Tryz.ntmps29;go_upto_region 2 with(fail)
 generalize hW0:World.alloc _ _=W0;have hb0:Below w.heap.size w W0:=by rw[<-hW0];exact bel
 have hz0:w.heap.size+3<=W0.heap.size:=by rw[<-hW0];simp
 have OM0:aF W0 w.heap.size [.slice ta tl tc,.slice fa fl fc]:=xC
 have OF0:aF W0 (w.heap.size+1) [.string f.name,.slice pa pl pc,.int .i64 f.regs,.int .i64 f.words,.slice (some ⟨cb,co,none⟩) f.code.length cc]:=sP
 have OX0:aF W0 (w.heap.size+1+1) [.int .i64 op,.int .i64 ka,.int .i64 kb,.int .i64 kc,.int .i64 xn]:=lG
 clear hW0 g0 g1 g2 g3 g4;have T0:(W0.alloc (.cells #[] 47)).ownsRow 0 47 2 (.slice (some ⟨W0.heap.size,0,none⟩) 0 0) 0 []:=eE W0 _ 2 rfl;have hbA:Below W0.heap.size W0 (W0.alloc (.cells #[] 47)):=eN;have HR0:=qd (aA hb0 HRW.out);go_upto_region 3 with(first|(at_builtin;refine dD rfl (.tmp 33) (.tmp 34) 39 47 2 16 (.agg #[.int .i64 0,.int .i64 0]) rfl Tryz.underlying39 Tryz.infoSp rfl dc (.slice (some ⟨W0.heap.size,0,none⟩) 0 0) 0 [] rfl T0 (.slice (some ⟨g,0,none⟩) n c) n (bL r) rfl (aA hbA HR0.out) (fun h=>absurd h oz) (gL r) bH oz ?_;intro vo w1 hr1 hc9 hg1)|fail)
 rw[Nat.zero_add,List.nil_append]at hr1;have hcT:aG (fun k=>k=W0.heap.size) W0 w1:=(aG.of hbA).trans (hc9.mono fun k _ hk=>by have e:W0.heap.size=k:=eL hk;exact e.symm);have hb1:Below w.heap.size w w1:=hb0.trans (hcT.below _ hb0.size (fun k _ e=>by omega));have OM1:=qd (hcT.own OM0 oz);have OF1:=qd (hcT.own OF0 oz);have OX1:=qd (hcT.own OX0 oz);have HR1:Hid (kA w1 g n c r):=qd (aA hb1 HRW.out);have hov:∀ j,vo.ownBlock=some j->w.heap.size+2<j:=fun j hj=>by
  rcases hg1 j hj with e|e
  ·have e2:W0.heap.size=j:=eL e
   omega
  ·have:=hbA.size;omega
 obtain⟨ob,oc,rfl,hoc1,hoc2,hol⟩:=bB hr1 oz;have hob:w.heap.size+2<ob:=hov ob rfl;have hob':w.heap.size<=ob:=oz
 have HO1:Hid (kA w1 ob n oc r):=qd hr1;have hgw:g<w1.heap.size:=by have:=hb1.size;omega
 have hne:g≠ob:=oz
 have HSS0:Hid (∀ w',aG (· = ob) w1 w'->(w'.cell? ⟨w.heap.size+1+1,0,none⟩=some (.int .i64 op)/\w'.cell? ⟨w.heap.size+1+1,1,none⟩=some (.int .i64 ka)/\w'.cell? ⟨w.heap.size+1+1,2,none⟩=some (.int .i64 kb)/\w'.cell? ⟨w.heap.size+1+1,3,none⟩=some (.int .i64 kc)/\w'.cell? ⟨w.heap.size+1+1,4,none⟩=some (.int .i64 xn)/\w'.cell? ⟨w.heap.size+1,3,none⟩=some (.int .i64 f.words))/\∀ i,i<n->w'.cell? ⟨g,i*2,none⟩=some (.int .i64 (r.getD i default).lo)/\w'.cell? ⟨g,i*2+1,none⟩=some (.int .i64 (r.getD i default).hi)):=qd fun w' hw=>by
  have x:=aX (hw.own OX1.out (by show ¬(_=ob);omega));have f:=aX (hw.own OF1.out (by show ¬(_=ob);omega));refine⟨⟨x.2.1,x.2.2.1,x.2.2.2.1,x.2.2.2.2.1,x.2.2.2.2.2.1,f.2.2.2.2.1⟩,fun i hi=>?_⟩;obtain⟨q0,q1,-,-⟩:=(bF.chg HR1.out.row hw hne).cells hi;exact⟨q0,q1⟩
 clear hc9 hg1 hcT T0 hbA hb0 HR0 hov OM0 OF0 OX0 hr1 hr;have x5:=aX OX1.out;go_upto_region 5 with(fail)
 rcases hop with hop|hop|hop
 ·as_aux_lemma =>
   subst hop;have HD:=qd (fun w=>zU (r.getD ka default) ⟨0,wrap64 (xn-1)⟩ w);have hRe:R=if(cZ (r.getD ka default) ⟨0,wrap64 (xn-1)⟩).2 then some (r.set ka (cZ (r.getD ka default) ⟨0,wrap64 (xn-1)⟩).1)else none:=by
    rw[HRE.out];simp[gZ,aGz,fQ]
   have hcf:∀ (args:Array Value) (w:World),(callFunc 66 args).run Tryz.prog w=.ok (.enter 66 args) w:=fun _ _=>rfl;go_upto_region 37 with(fail)
   have HRR:=qd hRe;clear hRe HRE x5;generalize cZ (r.getD ka default) ⟨0,wrap64 (xn-1)⟩=res at *;have hwn:IntKind.i64.wrap (xn-1)=wrap64 (xn-1):=(oG _).symm;generalize wrap64 (xn-1)=nm at *;obtain⟨⟨rlo,rhi⟩,rok⟩:=res;have HSS:Hid (∀ w',aG (· = ob) w1 w'->w'.cell? ⟨w.heap.size+1+1,1,none⟩=some (.int .i64 ka)/\w'.cell? ⟨w.heap.size+1+1,4,none⟩=some (.int .i64 xn)/\w'.cell? ⟨g,ka*2,none⟩=some (.int .i64 (r.getD ka default).lo)/\w'.cell? ⟨g,ka*2+1,none⟩=some (.int .i64 (r.getD ka default).hi)):=qd fun w' hw=>by
    obtain⟨hc,hd⟩:=HSS0.out w' hw;exact⟨hc.2.1,hc.2.2.2.2.1,(hd _ hka).1,(hd _ hka).2⟩
   clear HSS0;generalize r.getD ka default=pa at *;obtain⟨alo,ahi⟩:=pa;dsimp only at HD HSS HRR;generalize hA0:(Act.mk _ _:Act)=a0;have Ee:a0.eval (.tmp 4)=.slice (some ⟨g,0,none⟩) n c/\a0.eval (.tmp 6)=.pointer (some ⟨w.heap.size+1,0,none⟩)/\a0.eval (.tmp 12)=.pointer (some ⟨w.heap.size+1+1,0,none⟩)/\a0.eval (.tmp 13)=.slice (some ⟨ob,0,none⟩) n oc/\a0.tmps.size=358:=aFs
   refine aE (fun w'=>aG (· = ob) w1 w') kr ((aG.refl _ w1).drew) ?_;intro K0 hK0 hHeld
   try dsimp only at hHeld
   refine aL 0 rfl ?_;refine aL 1 rfl ?_;refine aL 2 rfl ?_;refine aL 3 rfl ?_;refine aL 4 rfl ?_;refine aL 5 rfl ?_;refine aL 6 rfl ?_;refine aL 7 rfl ?_;refine aL 8 rfl ?_;refine aL 9 rfl ?_;refine aL 10 rfl ?_;refine aL 11 rfl ?_;generalize hA1:(Act.put _ _ _:Act)=a1;replace Ee:a1.eval (.tmp 211)=.agg #[.int .i64 alo,.int .i64 ahi]/\a1.eval (.tmp 215)=.agg #[.int .i64 0,.int .i64 nm]/\a1.eval (.tmp 204)=.slice (some ⟨ob,0,none⟩) n oc/\a1.eval (.tmp 206)=.int .i64 ka/\a1.tmps.size=358:=oZ;refine fD 12 rfl fun K hK=>?_;refine aP rfl 66 [.tmp 211,.tmp 215] #[47,47] rfl hcf [.agg #[.int .i64 alo,.int .i64 ahi],.agg #[.int .i64 0,.int .i64 nm]] iD _ (HD.out _) ?_;rintro v wM ⟨rfl,hbM⟩;have hwM:aG (· = ob) w1 wM:=hHeld.trans (aG.of hbM);have hzM:=hwM.size;have hrM:kA wM ob n oc r:=aA hbM (aA ((Below.refl _ _).drew) HO1.out);obtain⟨q0,q1,q2,q3⟩:=hrM.row.cells hka;refine hK.out _ _ (hwM) fun hHeld=>?_;clear hK K;refine aL 13 rfl ?_;refine aL 14 rfl ?_;refine aL 15 rfl ?_;refine aL 16 rfl ?_;generalize hA2:(Act.put _ _ _:Act)=a2;replace Ee:a2.eval (.tmp 217)=.agg #[.int .i64 rlo,.int .i64 rhi]/\a2.eval (.tmp 218)=.bool rok/\a2.eval (.tmp 219)=.pointer (some ⟨ob,ka*2,none⟩)/\a2.tmps.size=358:=mQ;refine fD 17 rfl fun K hK=>?_;refine pA ?_;refine hK.out _ _ (chq) fun hHeld=>?_;clear hK K;refine aL 18 rfl ?_;refine aO kr ?_;refine hK0.out _ _ ?_;subst hA2;subst hA1;subst hA0
   try clear Ee
   simp only[GE,Act.put,SU];have hRR:=HRR.out;clear HRR;cases rok
   ·rw[if_neg (by simp)]at hRR;subst hRR;go_wp2
    try rw[Exit.noGoto_ret]
    refine bodyPost_ret (v:=.tuple #[.slice none 0 0,.bool false]) oY rfl ?_;exact jB hb1 (hwM.trans (jX _ _ _ _ _ _)) hob'
   ·rw[if_pos rfl]at hRR;subst hRR;go_wp2;refine bodyPost_ret (v:=.tuple #[.slice (some ⟨ob,0,none⟩) n oc,.bool true]) oY rfl ?_;exact jC hb1 hwM hob' hrM hka rlo rhi
 ·as_aux_lemma =>
   have za:=HO1.out.row.cells hka;obtain⟨q0,q1,q2,q3⟩:=za;rcases hop with rfl|rfl|rfl|rfl
   ·exact aQe
   ·exact aQe
   ·obtain rfl:R=some (r.set ka ⟨xn,xn⟩):=by rw[HRE.out];simp[gZ,eC]
    go_wp2;refine bodyPost_ret (v:=.tuple #[.slice (some ⟨ob,0,none⟩) n oc,.bool true]) oY rfl ?_;exact jC hb1 (aG.refl _ _) hob' HO1.out hka xn xn
   ·have hRe:R=some (r.set ka (r.getD kb default)):=by rw[HRE.out];simp[gZ,eC,fI]
    obtain⟨r0,r1,r2,r3⟩:=HR1.out.row.cells hkb;clear HSS0 HRE HOK;generalize r.getD kb default=pb at *;obtain⟨blo,bhi⟩:=pb;dsimp only at r0 r1;subst hRe;go_upto_region 10 with(fail)
    refine bC 9 kr kr ?_;simp only[TD];repeat(refine bS (fun K hK=>?_);go_simp;refine hK _ ?_;clear hK K)
    refine cF ?_;go_wp2;refine bodyPost_ret (v:=.tuple #[.slice (some ⟨ob,0,none⟩) n oc,.bool true]) oY rfl ?_;exact jC hb1 (aG.refl _ _).drew hob' HO1.out hka blo bhi
 ·as_aux_lemma =>
   subst hop;have hR0:R=mL ⟨17,ka,kb,kc,xn⟩ (decide (to_=xn)&&decide (xn≠(frm:Int)+1)) (decide (xn=(frm:Int)+1)) r:=by rw[HRE.out];rfl
   unfold mL fI eC at hR0;dsimp only at hR0;simp only[Int.toNat_natCast]at hR0;obtain⟨pa,hpa⟩:∃ p,r.getD ka default=p:=⟨_,rfl⟩
   obtain⟨pb,hpb⟩:∃ p,r.getD kb default=p:=⟨_,rfl⟩
   rw[hpa,hpb]at hR0;have ca:=HR1.out.row.cells hka;have cb:=HR1.out.row.cells hkb;rw[hpa]at ca;rw[hpb]at cb;have HB:=qd (fun w=>aL2 pa pb w (hpa▸HOK.out.2 ka oz) (hpb▸HOK.out.2 kb oz));have HPA:=qd hpa;have HR0:=qd hR0;clear hpa hpb hR0 HRE;generalize hbp:eP pa pb=bp at *;obtain⟨⟨rlo,rhi⟩,⟨tlo,thi⟩,rok⟩:=bp;clear hbp;obtain⟨alo,ahi⟩:=pa;obtain⟨blo,bhi⟩:=pb;dsimp only at HB HR0 ca cb;obtain⟨r0,r1,-,-⟩:=ca;obtain⟨t0,t1,-,-⟩:=cb;go_upto_region 58 with(fail)
   generalize hW2:World.alloc _ _=W2;have hbw:Below w1.heap.size w1 W2:=by rw[<-hW2];exact bel
   have O26:aF W2 w1.heap.size [.int .i64 alo,.int .i64 ahi]:=by rw[<-hW2];exact aK
   have O27:aF W2 (w1.heap.size+1) [.int .i64 blo,.int .i64 bhi]:=by rw[<-hW2];exact aK
   clear hW2 r0 r1 t0 t1 x5;have hcd:=aG.of (S:=(· = ob)) hbw;have OX2:=OX1.out.below hbw;have HO2:Hid (kA W2 ob n oc r):=qd (aA hbw HO1.out);have hzw:=hbw.size;have hobl:=HO1.out.row.lt;have x5:=aX OX2;have k1:=aD O26;have k2:=aD O27;by_cases e1:xn=(frm:Int)+1
   ·have q1:(xn==(frm:Int)+1)=true:=by simpa using e1
    obtain rfl:R=some r:=by rw[HR0.out,if_pos (decide_eq_true e1)]
    exact aOf
   ·have q1:(xn==(frm:Int)+1)=false:=by simpa using e1
    have hR1:=HR0.out;rw[if_neg (by simpa using e1),decide_eq_true e1,Bool.and_true]at hR1;clear HR0;have HR1':=qd hR1;clear hR1;by_cases e2:(ka:Int)=(kb:Int)
    ·have q2:((ka:Int)==(kb:Int))=true:=by simpa using e2
     have hR2:=HR1'.out;rw[if_pos e2]at hR2;clear HR1' q2;obtain rfl:ka=kb:=oz
     clear e2;by_cases e3:to_=xn
     ·have q3:(xn==to_)=true:=by rw[nO];simpa using e3
      obtain rfl:R=some r:=by rw[hR2,if_pos (decide_eq_true e3)]
      clear e3 hR2;exact aOf
     ·have q3:(xn==to_)=false:=by rw[nO];simpa using e3
      obtain rfl:R=none:=by rw[hR2,if_neg (by simpa using e3)]
      clear e3 hR2;exact aPe
    ·have q2:((ka:Int)==(kb:Int))=false:=by simpa using e2
     have hR2:=HR1'.out;rw[if_neg e2]at hR2;clear HR1' e2;by_cases e3:to_=xn
     ·have q3:(xn==to_)=true:=by rw[nO];simpa using e3
      rw[if_pos (decide_eq_true e3)]at hR2;have HR2:=qd hR2;clear hR2 e3;obtain⟨q4,q5,q6,q7⟩:=HO2.out.row.cells hka;by_cases e4:blo<=ahi
      ·have h:=HR2.out;rw[if_pos e4]at h;by_cases e5:alo<blo
       ·rw[show max alo blo=blo by omega]at h;subst h;go_wp2;refine bodyPost_ret (v:=.tuple #[.slice (some ⟨ob,0,none⟩) n oc,.bool true]) oY rfl ?_;exact nR hb1 (hcd.trans (aG.setCell (S:=(· = ob)) (aG.refl _ _) (p:=⟨ob,ka*2,none⟩) (Or.inl rfl) _)) hob' (HO2.out.low hka HPA.out blo)
       ·rw[show max alo blo=alo by omega,aQj HPA.out]at h;subst h;exact aOf
      ·have h:=HR2.out;rw[if_neg e4]at h;subst h;by_cases e5:alo<blo
       ·go_wp2
        try rw[Exit.noGoto_ret]
        refine bodyPost_ret (v:=.tuple #[.slice none 0 0,.bool false]) oY rfl ?_;exact jB hb1 (hcd.trans (aG.setCell (S:=(· = ob)) (aG.refl _ _) (p:=⟨ob,ka*2,none⟩) (Or.inl rfl) _)) hob'
       ·exact aPe
     ·have q3:(xn==to_)=false:=by rw[nO];simpa using e3
      rw[if_neg (by simpa using e3)]at hR2;have HRR:=qd hR2;clear hR2 e3;have HSS:Hid (∀ w',aG (· = ob) W2 w'->w'.cell? ⟨w.heap.size+1+1,1,none⟩=some (.int .i64 ka)/\w'.cell? ⟨w1.heap.size,0,none⟩=some (.int .i64 alo)/\w'.cell? ⟨w1.heap.size,1,none⟩=some (.int .i64 ahi)/\w'.cell? ⟨w1.heap.size+1,0,none⟩=some (.int .i64 blo)/\w'.cell? ⟨w1.heap.size+1,1,none⟩=some (.int .i64 bhi)):=qd fun w' hw=>by
       have x:=aX (hw.own OX2 (by show ¬(_=ob);omega));have y:=aD (hw.own O26 (by show ¬(_=ob);omega));have z:=aD (hw.own O27 (by show ¬(_=ob);omega));exact⟨x.2.2.1,y.2.1,y.2.2.1,z.2.1,z.2.2.1⟩
      have hcf:∀ (args:Array Value) (w:World),(callFunc 67 args).run Tryz.prog w=.ok (.enter 67 args) w:=fun _ _=>rfl;simp only[q1,q3];go_cut [314,315,316,317,318,319,320,321] (fun a1 a2 a3 a4 a5 a6 a7 v wx=>v=.bool false/\wx=W2)
      case first =>
       clear HSS HB HRR HR1 HO1 OX1 HOK;go_wp2;go_meet;exact⟨rfl,rfl⟩
      case rest =>
       obtain⟨rfl,h⟩:=hcut;have h':=h.symm;subst h';clear h;go_upto_region 64 with(fail)
       clear x5 k1 k2;generalize hA0:(Act.mk _ _:Act)=a0;have Ee:a0.eval (.tmp 4)=.slice (some ⟨g,0,none⟩) n c/\a0.eval (.tmp 6)=.pointer (some ⟨w.heap.size+1,0,none⟩)/\a0.eval (.tmp 12)=.pointer (some ⟨w.heap.size+1+1,0,none⟩)/\a0.eval (.tmp 13)=.slice (some ⟨ob,0,none⟩) n oc/\a0.eval (.tmp 26)=.pointer (some ⟨w1.heap.size,0,none⟩)/\a0.eval (.tmp 27)=.pointer (some ⟨w1.heap.size+1,0,none⟩)/\a0.tmps.size=358:=by rw[<-hA0];exact⟨rfl,rfl,rfl,rfl,rfl,rfl,rfl⟩
       refine aE (fun w'=>aG (· = ob) W2 w') kr ((aG.refl _ W2).drew) ?_;intro K0 hK0 hHeld
       try dsimp only at hHeld
       refine aL 0 rfl ?_;refine aL 1 rfl ?_;refine aL 2 rfl ?_;refine aL 3 rfl ?_;refine aL 4 rfl ?_;generalize hA1:(Act.put _ _ _:Act)=a1;replace Ee:a1.eval (.tmp 348)=.agg #[.int .i64 alo,.int .i64 ahi]/\a1.eval (.tmp 349)=.agg #[.int .i64 blo,.int .i64 bhi]/\a1.eval (.tmp 345)=.slice (some ⟨ob,0,none⟩) n oc/\a1.eval (.tmp 347)=.int .i64 ka/\a1.tmps.size=358:=oZ;refine fD 5 rfl fun K hK=>?_;refine aP rfl 67 [.tmp 348,.tmp 349] #[47,47] rfl hcf [.agg #[.int .i64 alo,.int .i64 ahi],.agg #[.int .i64 blo,.int .i64 bhi]] iD _ (HB.out _) ?_;rintro v wM ⟨rfl,hbM⟩;have hwM:aG (· = ob) W2 wM:=hHeld.trans (aG.of hbM);have hzM:=hwM.size;have hrM:kA wM ob n oc r:=aA hbM (aA ((Below.refl _ _).drew) HO2.out);obtain⟨q0,q1,q2,q3⟩:=hrM.row.cells hka;refine hK.out _ _ (hwM) fun hHeld=>?_;clear hK K;refine aL 6 rfl ?_;refine aL 7 rfl ?_;refine aL 8 rfl ?_;refine aL 9 rfl ?_;refine aL 10 rfl ?_;generalize hA2:(Act.put _ _ _:Act)=a2;replace Ee:a2.eval (.tmp 351)=.agg #[.int .i64 rlo,.int .i64 rhi]/\a2.eval (.tmp 353)=.bool rok/\a2.eval (.tmp 354)=.pointer (some ⟨ob,ka*2,none⟩)/\a2.tmps.size=358:=mQ;refine fD 11 rfl fun K hK=>?_;refine pA ?_;refine hK.out _ _ (chq) fun hHeld=>?_;clear hK K;refine aL 12 rfl ?_;refine aO kr ?_;refine hK0.out _ _ ?_;subst hA2;subst hA1;subst hA0
       try clear Ee
       simp only[GE,Act.put,SU];have hRR:=HRR.out;clear HRR;cases rok
       ·rw[if_neg (by simp)]at hRR;subst hRR;go_wp2
        try rw[Exit.noGoto_ret]
        refine bodyPost_ret (v:=.tuple #[.slice none 0 0,.bool false]) oY rfl ?_;exact jB hb1 (hcd.trans (hwM.trans (jX _ _ _ _ _ _))) hob'
       ·rw[if_pos rfl]at hRR;subst hRR;go_wp2;refine bodyPost_ret (v:=.tuple #[.slice (some ⟨ob,0,none⟩) n oc,.bool true]) oY rfl ?_;exact jC hb1 (hcd.trans hwM) hob' hrM hka rlo rhi
end Go.Proofs.YteebpnbdihcfmaaGreatDoor
