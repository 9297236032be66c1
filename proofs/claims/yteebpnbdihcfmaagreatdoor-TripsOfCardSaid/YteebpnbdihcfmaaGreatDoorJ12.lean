/- R9 -/
import Derived.Test.YteebpnbdihcfmaaGreatDoorJ09
set_option linter.unusedVariables false
set_option linter.unusedSimpArgs false
set_option maxRecDepth 100000
set_option maxHeartbeats 20000000
namespace Go.Proofs.YteebpnbdihcfmaaGreatDoor
open Go.RowKit
theorem aNs {p:Prop}(h:p:=by
 have d19:((k:Int)==19)=false:=by have:=K19.out;simp at this ⊢;omega
 clear r43;go_wp2_with (go_at_call 74;refine(HT.out _).mono ?_;rintro e w1 ⟨rfl,rfl⟩)
 all_goals first
  | (go_ret;go_light;refine⟨fU ?_,bel⟩;rw[HY.out];simp[pD]<;>grind)
  | (go_quiet (fail);go_wp2;go_ret;go_light;refine⟨fU ?_,bel⟩;rw[HY.out];simp[pD]<;>grind)):p:=h
theorem aDb {p:Prop}(h:p:=by
 have:=K13.out;simp at this ⊢;omega):p:=h
theorem aVw:∀ k:Nat,k<20->(k=13↔(dM k).n=3)/\(k=19↔(dM k).n=4)/\(decide ((k:Int)=14\/(k:Int)=15\/(k:Int)=16\/(k:Int)=17\/(k:Int)=18)=decide ((dM k).n=2)):=dc
theorem aQ9 {p:Prop}(h:p:=by
 go_wp2_with (go_at_call 74;refine(HT.out _).mono ?_;rintro e w1 ⟨rfl,rfl⟩)
 go_quiet (fail)
 go_wp2
 all_goals(go_ret;go_light;refine⟨fU ?_,bel⟩;rw[HY.out];simp[pD]<;>grind)):p:=h
theorem aP2 {p:Prop}(h:p:=by
 have r43':w1.cell? ⟨w2.heap.size,3,none⟩=some (.bool true):=by simpa using r43
 have d13:((k:Int)==13)=false:=aDb
 exact aNs):p:=h
theorem aHv {p:Prop}(h:p:=by
 refine(kY _ _ _ _).mono ?_;rintro e w1 ⟨rfl,rfl⟩;go_wp2;go_ret;go_light;exact⟨fU HY.out.symm,bel⟩):p:=h
theorem aF8 (B:Nat) (v:Value) (m:bA) (nm:ByteArray) (pa ca:Option Addr) (pl pc cl cc:Nat) (regs wd:Int) (x:dJ) (w:World) (hB:B<=w.heap.size) (hB0:0<B) (hm:cP B w v m) (hx:aFh x) (h1:1<=regs) (h64:regs<=64) (hcl:cl<=maxLen) (hp8:∀ i,i<m.funcs.length->(m.funcs.getD i default).params.length<=8) :
 Calls Tryz.prog 36 #[v,.agg #[.string nm,.slice pa pl pc,.int .i64 regs,.int .i64 wd,.slice ca cl cc],nF x] w fun e w'=>e=.returned (.int .i64 (oU m regs cl x))/\Below w.heap.size w w':=by
 obtain⟨ta,tl,tc,fa,fl,fc,rfl,ht,hf⟩:=hm;obtain⟨hfl',hlen,fb,fo,hfa,H,hcs⟩:=hf;subst hfl';have Hcs:=qd hcs;clear hcs;have Hp8:=qd hp8;clear hp8;obtain⟨op,a,b,c,n⟩:=x;obtain⟨o1,o2,o3,o4,o5⟩:=hx;unfold aM at o1 o2 o3 o4 o5;unfold maxLen at hlen hcl;dsimp only at *;unfold nF oU;dsimp only;by_cases hk:dK op=true
 ·rw[if_neg (by simp[hk])];have hk':=hk;unfold dK at hk';obtain⟨k,rfl⟩:=Int.eq_ofNat_of_zero_le (show 0<=op by grind);have hlt:k<20:=by grind
  obtain⟨k13,k19,kt⟩:=aVw k hlt;clear hk';have hRn:=aVz k;have HH:=qd (aNr (k:Int) · hk);unfold xF at HH;rw[Int.toNat_natCast]at *;generalize dM k=R at *;obtain⟨Rw,Rwt,Ra,Rb,Rc,Rn,Rwr⟩:=R;dsimp only at *;have HT:=qd (show ∀ w1:World,Calls Tryz.prog 74 #[.int .i64 k] w1 fun e w'=>e=.returned (.bool (decide (Rn=2)))/\w'=w1 from fun w1=>by rw[<-kt];exact pT _ _);have K13:=qd k13;clear k13;have K19:=qd k19;clear k19;clear kt;obtain⟨RES,hRES⟩:∃ r,r=yG m regs cl ⟨Rw,Rwt,Ra,Rb,Rc,Rn,Rwr⟩ ⟨k,a,b,c,n⟩:=⟨_,rfl⟩
  rw[<-hRES];have HRES:=qd hRES;clear hRES;go_enter Tryz.func36,Tryz.ntmps36;go_wp2_with (go_at_call 71;refine(sN _ _).mono ?_;rintro e w1 ⟨rfl,rfl⟩)
  generalize hW0:World.alloc _ _=W0;have hb0:Below w.heap.size w W0:=by rw[<-hW0];exact bel
  have O1:=qd (show aF W0 w.heap.size [.slice ta tl tc,.slice fa m.funcs.length fc] by rw[<-hW0];exact((aF.new _ _ _).alloc _).alloc _);have O2:=qd (show aF W0 (w.heap.size+1) [.string nm,.slice pa pl pc,.int .i64 regs,.int .i64 wd,.slice ca cl cc] by rw[<-hW0];exact(aF.new' _ _ _ _ si).alloc _);have O3:=qd (show aF W0 (w.heap.size+1+1) [.int .i64 k,.int .i64 a,.int .i64 b,.int .i64 c,.int .i64 n] by rw[<-hW0];exact aF.new' _ _ _ _ si);clear hW0;refine(HH.out W0).mono ?_;rintro e w2 ⟨rfl,hb2⟩;have P1:=qd (O1.out.below hb2);have P2:=qd (O2.out.below hb2);have P3:=qd (O3.out.below hb2);have p1:=aD P1.out;have p2:=aX P2.out;have p3:=aX P3.out;have z2:=hb2.size;have hbw2:Below w.heap.size w w2:=hb0.trans (Below.mono hb2 hb0.size);go_wp2_with fail;generalize hW1:World.alloc _ _=W1;have R1:=qd (show aF W1 w.heap.size [.slice ta tl tc,.slice fa m.funcs.length fc] by rw[<-hW1];exact P1.out.alloc _);have R2:=qd (show aF W1 (w.heap.size+1) [.string nm,.slice pa pl pc,.int .i64 regs,.int .i64 wd,.slice ca cl cc] by rw[<-hW1];exact P2.out.alloc _);have R3:=qd (show aF W1 (w.heap.size+1+1) [.int .i64 k,.int .i64 a,.int .i64 b,.int .i64 c,.int .i64 n] by rw[<-hW1];exact P3.out.alloc _);have R4:=(show aF W1 w2.heap.size [.bool Ra,.bool Rb,.bool Rc,.bool (decide (Rn≠0))] by rw[<-hW1];have:=aF.new w2 [.bool Ra,.bool Rb,.bool Rc,.bool (decide (Rn≠0))] 134;simpa using this)
  have hbw1:Below w.heap.size w W1:=by rw[<-hW1];exact bel
  clear hW1 p1 p2 p3 P1 P2 P3 O1 O2 O3 hb0 hb2 hbw2 z2;have r1:=aD R1.out;have r2:=aX R2.out;have r3:=aX R3.out;have r40:=R4.2.1 0 _ rfl;have r41:=R4.2.1 1 _ rfl;have r42:=R4.2.1 2 _ rfl;have r43:=R4.2.1 3 _ rfl;have r44:=R4.1;clear R4;by_cases hA:cN Ra a regs≠0
  ·have hres:RES=cN Ra a regs:=by rw[HRES.out];unfold yG;rw[if_pos hA]
   have HY:=qd hres;clear hres;have dA:(cN Ra a regs != 0)=true:=by simpa using hA
   exact aHv
  ·have dA:(cN Ra a regs != 0)=false:=by simpa using hA
   refine(kY _ _ _ _).mono ?_;rintro e w1 ⟨rfl,rfl⟩;go_wp2_with fail;by_cases hBB:cN Rb b regs≠0
   ·have hres:RES=cN Rb b regs:=by rw[HRES.out];unfold yG;rw[if_neg hA,if_pos hBB]
    have HY:=qd hres;clear hres;have dB:(cN Rb b regs != 0)=true:=by simpa using hBB
    exact aHv
   ·have dB:(cN Rb b regs != 0)=false:=by simpa using hBB
    refine(kY _ _ _ _).mono ?_;rintro e w1 ⟨rfl,rfl⟩;go_wp2_with fail;by_cases hCC:cN Rc c regs≠0
    ·have hres:RES=cN Rc c regs:=by rw[HRES.out];unfold yG;rw[if_neg hA,if_neg hBB,if_pos hCC]
     have HY:=qd hres;clear hres;have dC:(cN Rc c regs != 0)=true:=by simpa using hCC
     exact aHv
    ·have hres:RES=pD (fun _=>m.funcs.length) (lJ m) Rn regs cl b n:=by rw[HRES.out];unfold yG;rw[if_neg hA,if_neg hBB,if_neg hCC]
     have HY:=qd hres;clear hres;have dC:(cN Rc c regs != 0)=false:=by simpa using hCC
     have HB9:=qd (show 0<=b/\b<=64 from by
      have hz:cN Rb b regs=0:=by simpa using hBB
      unfold cN at hz;cases Rb<;>grind)
     refine(kY _ _ _ _).mono ?_;rintro e w1 ⟨rfl,rfl⟩;clear hA hBB hCC;generalize cN Ra a regs=FA at *;generalize cN Rb b regs=FB at *;generalize cN Rc c regs=FC at *;have hd1:=(bT hbw1).1;rcases(show Rn=0\/Rn=1\/Rn=2\/Rn=3\/Rn=4 by omega)with rfl|rfl|rfl|rfl|rfl
     ·have r43':w1.cell? ⟨w2.heap.size,3,none⟩=some (.bool false):=by simpa using r43
      have d13:((k:Int)==13)=false:=aDb
      exact aNs
     ·exact aP2
     ·exact aP2
     ·have r43':w1.cell? ⟨w2.heap.size,3,none⟩=some (.bool true):=by simpa using r43
      have d13:((k:Int)==13)=true:=aDb
      exact aNs
     ·have r43':w1.cell? ⟨w2.heap.size,3,none⟩=some (.bool true):=by simpa using r43
      have d13:((k:Int)==13)=false:=aDb
      have d19:((k:Int)==19)=true:=by have:=K19.out;simp at this ⊢;omega
      clear r43;by_cases hn0:n<0
      ·have d1:decide (n<0)=true:=by simpa using hn0
       exact aQ9
      ·obtain⟨N,rfl⟩:=Int.eq_ofNat_of_zero_le (show 0<=n by omega);have d1:decide ((N:Int)<0)=false:=by simp<;>omega
       by_cases hN:N<m.funcs.length
       ·obtain⟨rfl,hfb⟩:=hfa oz;obtain⟨⟨_,q,_⟩,_,⟨hpl,hpm,_⟩,_⟩:=Hcs.out N hN;generalize H N=hh at *;obtain⟨pa',pl',pc',_,_,_⟩:=hh;dsimp only at q hpl hpm;have hP:lJ m N=pl':=by unfold lJ;rw[Int.toNat_natCast,hpl]
        have h8:=Hp8.out N hN;rw[hpl]at h8;have hb9:=HB9.out;have HP:=qd hP;clear hP hpl;unfold maxLen at hpm;have hfb2:fb<w.heap.size/\fb<w1.heap.size:=oz
        have d2:decide ((m.funcs.length:Int)<=N)=false:=by simp<;>omega
        have hwr:IntKind.i64.wrap (b+(pl':Int))=b+(pl':Int):=IntWalk.i64_in _ oz;go_wp2_with (go_at_call 74;refine(HT.out _).mono ?_;rintro e w1 ⟨rfl,rfl⟩)
        go_quiet (fail)
        clear hwr;go_wp2
        all_goals(go_ret;go_light;refine⟨fU ?_,bel⟩;rw[HY.out,aAm _ _ _ _ _ _ (by omega) (by omega),HP.out];first|rw[if_pos (by omega)]|rw[if_neg (by omega)])
       ·have d2:decide ((m.funcs.length:Int)<=N)=true:=by simp<;>omega
        exact aQ9
 ·have hk0:dK op=false:=by simpa using hk
  rw[if_pos hk0];clear hk;go_enter Tryz.func36,Tryz.ntmps36;go_wp2_with (go_at_call 71;refine(sN _ _).mono ?_;rintro e w1 ⟨rfl,rfl⟩)
  go_ret;go_light;exact⟨rfl,bel⟩
theorem vJ {p:Prop}(h:p:=by
 simp[results,Tryz.results11,go_sem,r]):p:=h
theorem aAn (B:Nat) (v:Value) (m:bA) (w:World) (hB:B<=w.heap.size) (hB0:0<B) (hm:cP B w v m) :
 Calls Tryz.prog 11 #[v] w fun e w'=>e=.returned (.agg #[.int .i64 (dS m).e,.int .i64 (dS m).f,.int .i64 (dS m).at_])/\Below w.heap.size w w':=by
 have hm0:=hm;obtain⟨ta,tl,tc,fa,fl,fc,rfl,⟨htl,htm,tb,tO,hta,hts⟩,hf⟩:=hm;have hf0:=hf;obtain⟨hfl',hlen,fb,fo,hfa,H,hcs⟩:=hf;subst hfl' htl;have Hcs:=qd hcs;clear hcs;have Hts:=qd hts;clear hts;unfold maxLen at hlen htm;by_cases h16:16<m.thr.length
 ·have HX:dS m=⟨3,0,16⟩:=by simp[dS,h16]
  have HY:=qd HX;clear HX;go_enter Tryz.func11,Tryz.ntmps11;go_wp2;refine bodyPost_ret (v:=.agg #[.int .i64 3,.int .i64 0,.int .i64 16]) (by simp[results,Tryz.results11,go_sem]) rfl ⟨?_,?_⟩
  ·rw[HY.out]
  ·exact bel
 ·have d16:decide ((16:Int)<(m.thr.length:Int))=false:=by simp<;>omega
  go_enter Tryz.func11,Tryz.ntmps11;go_wp2;generalize hW0:World.alloc _ _=W0;have hb0:Below w.heap.size w W0:=by rw[<-hW0];exact bel
  have om:aF W0 w.heap.size [.slice ta m.thr.length tc,.slice fa m.funcs.length fc]:=mR
  have ore:aF W0 (w.heap.size+1) [.int .i64 0,.int .i64 0,.int .i64 0]:=lG
  clear hW0;go_loopw [3] (fun i wr=>∃ p:Nat,i=.int .i64 ((p:Int)+1)/\(p+1<=m.thr.length\/p=0)/\Below W0.heap.size W0 wr/\Hid (∀ i,i<p+1->kU m.thr i=false)) (fun i _=>m.thr.length-(intOf i).toNat)
  case atStart =>
   refine⟨0,rfl,.inr rfl,Below.refl _ _,?_⟩;intro i h;obtain rfl:i=0:=oz
   simp[kU]
  case round =>
   obtain⟨p,rfl,hp,hbel,hn⟩:=hrel;have om1:=aD (om.below hbel);have or1:=gV (ore.below hbel);have ht16:m.thr.length<=16:=oz
   have hz0:W0.heap.size<=wr.heap.size:=hbel.size;have hzw:w.heap.size<=W0.heap.size:=hb0.size;by_cases hlt:p+1<m.thr.length
   ·obtain⟨rfl,htb⟩:=hta oz;have sm:aQ B w wr:=(aQ.of hb0 hB).trans (aQ.of hbel oz);have t0:=(sm tb (tO+p) htb).trans (Hts.out p oz).1;have t1:=(sm tb (tO+(p+1)) htb).trans (Hts.out (p+1) hlt).1;have hwr:IntKind.i64.wrap ((p:Int)+1-1)=(p:Int):=by rw[IntWalk.i64_in _ (by omega)];omega
    have hi1:0<=(p:Int)+1:=oz
    have hi2:((p:Int)+1).toNat=p+1:=oz
    have hi3:(p:Int)+1<(m.thr.length:Int):=oz
    have hi4:(p:Int)<(m.thr.length:Int):=oz
    go_wp2
    go_quiet (fail)
    go_wp2
    ·have HX:dS m=⟨66,0,(p:Int)+1⟩:=by
      have HT:=eA m.thr.length (kU m.thr) (p+1) hlt (by go_light;simp only[kU];grind) hn.out;unfold dS;rw[if_neg (by omega),HT];rfl
     have HY:=qd HX;clear HX;refine bodyPost_ret (v:=.agg #[.int .i64 66,.int .i64 0,.int .i64 ((p:Int)+1)]) ?_ rfl ⟨?_,?_⟩
     ·have r:=uW ((ore.below hbel).drewN nq) (.int .i64 66) (.int .i64 0) (.int .i64 ((p:Int)+1));exact vJ
     ·rw[HY.out]
     ·exact bel
    ·go_roundw
     case rel =>
      go_light;refine⟨p+1,by go_num,oz,bel,?_⟩;intro i hi;by_cases e:i=p+1
      ·subst e;simp only[kU];grind
      ·exact hn.out i oz
     case measure=>go_light;simp[intOf];omega
   ·have HT:=eB m.thr.length (kU m.thr) (fun i hi=>hn.out i oz);by_cases h32:32<m.funcs.length
    ·have HX:dS m=⟨3,32,0⟩:=by unfold dS;rw[if_neg (by omega),HT,if_pos h32]
     have HY:=qd HX;clear HX HT;go_wp2;refine bodyPost_ret (v:=.agg #[.int .i64 3,.int .i64 32,.int .i64 0]) ?_ rfl ⟨?_,?_⟩
     ·have r:=uW (ore.below hbel) (.int .i64 3) (.int .i64 32) (.int .i64 0);exact vJ
     ·rw[HY.out]
     ·exact bel
    ·have HX:dS m=eX m:=by unfold dS;rw[if_neg (by omega),HT];simp only[];rw[if_neg h32]
     have HY:=qd HX;clear HX HT;have d32:decide ((32:Int)<(m.funcs.length:Int))=false:=by simp<;>omega
     go_wp2;obtain⟨wA,rfl⟩:∃ wo:World,wo=wr:=⟨_,rfl⟩
     go_loopw [4] (fun i wx=>∃ f:Nat,i=.int .i64 (f:Int)/\f<=m.funcs.length/\Below wA.heap.size wA wx/\Hid (∀ i,i<f->decide ((cX m i).1≠0)=false)) (fun i _=>m.funcs.length-(intOf i).toNat)
     case atStart=>exact⟨0,rfl,Nat.zero_le _,Below.refl _ _,by intro i h;omega⟩
     case round =>
      obtain⟨f,rfl,hf1,hbel2,hn2⟩:=hrel;have om2:=aD ((om.below hbel).below hbel2);have or2:=gV ((ore.below hbel).below hbel2);have hz2:wA.heap.size<=wr.heap.size:=hbel2.size;have sm:aQ B w wr:=((aQ.of hb0 hB).trans (aQ.of hbel oz)).trans (aQ.of hbel2 oz);clear om1 or1;by_cases hlt:f<m.funcs.length
      ·go_wp2_with (go_at_call 35;refine(aIb B _ m f _ ?_ (hm0.same sm) hlt).mono ?_)
       ·exact jU
       rintro e w1 ⟨rfl,hb1⟩;have om3:=aD (((om.below hbel).below hbel2).below hb1);have or3:=gV (((ore.below hbel).below hbel2).below hb1);clear om2 or2;go_wp2
       ·have HX:eX m=⟨(cX m f).1,f,(cX m f).2⟩:=by
         have HT:=eA m.funcs.length (fun f=>decide ((cX m f).1≠0)) f hlt (by go_light;grind) hn2.out;unfold eX;rw[HT]
        have HZ:=qd HX;clear HX;refine bodyPost_ret (v:=.agg #[.int .i64 (cX m f).1,.int .i64 f,.int .i64 (cX m f).2]) ?_ rfl ⟨?_,?_⟩
        ·have r:=uW (((ore.below hbel).below hbel2).below hb1) (.int .i64 (cX m f).1) (.int .i64 f) (.int .i64 (cX m f).2);exact vJ
        ·rw[HY.out,HZ.out]
        ·exact bel
       ·go_roundw
        case rel =>
         go_light;refine⟨f+1,by go_num,oz,bel,?_⟩;intro i hi;by_cases e:i=f
         ·subst e;grind
         ·exact hn2.out i oz
        case measure=>go_light;simp[intOf];omega
      ·have HT:=eB m.funcs.length (fun f=>decide ((cX m f).1≠0)) (fun i hi=>hn2.out i oz);have HX:eX m=eR m:=by unfold eX;rw[HT]
       have HZ:=qd HX;clear HX HT;have hok:Hid (∀ i,i<m.funcs.length->(cX m i).1=0):=by intro i hi;have:=hn2.out i oz;simpa using this
       go_wp2;obtain⟨wB,rfl⟩:∃ wo:World,wo=wr:=⟨_,rfl⟩
       go_loopw [7] (fun i wx=>∃ f:Nat,i=.int .i64 (f:Int)/\f<=m.funcs.length/\Below wB.heap.size wB wx/\Hid (∀ i,i<f->decide ((iM m (m.funcs.getD i default)).1≠0)=false)) (fun i _=>m.funcs.length-(intOf i).toNat)
       case atStart=>exact⟨0,rfl,Nat.zero_le _,Below.refl _ _,by intro i h;omega⟩
       case round =>
        obtain⟨f,rfl,hf1,hbel3,hn3⟩:=hrel;have om3:=aD (((om.below hbel).below hbel2).below hbel3);have or3:=gV (((ore.below hbel).below hbel2).below hbel3);have hz3:wB.heap.size<=wr.heap.size:=hbel3.size;have sm3:aQ B w wr:=sm.trans (aQ.of hbel3 oz);clear om2 or2;by_cases hlt2:f<m.funcs.length
        ·obtain⟨rfl,hfb⟩:=hfa oz;obtain⟨hfcells,hfok⟩:=Hcs.out f hlt2;obtain⟨q0,q1,q2,q3,q4⟩:=hfcells.same sm3 hfb;have hwok:=nK (hok.out f hlt2);obtain⟨_,_,_,hr1,hr2,_,_,_,hc1,hc2,_⟩:=hwok;generalize hxf:m.funcs.getD f default=x at *;have Hxf:=qd hxf;clear hxf;generalize H f=hh at *;obtain⟨pa,pl,pc,ca,cl,cc⟩:=hh;obtain⟨_,_,⟨hcl,hcm,cb,co,hca,hins⟩,_,_⟩:=hfok;dsimp only at *;subst hcl;obtain⟨rfl,hcb⟩:=hca oz;have Hins:=qd hins;clear hins;unfold maxLen at hcm;go_wp2;obtain⟨W3,rfl⟩:∃ wo:World,wo=wr:=⟨_,rfl⟩
         have omC:=((om.below hbel).below hbel2).below hbel3;have orC:=((ore.below hbel).below hbel2).below hbel3;have smC:aQ B w W3:=sm3;have qC:=And.intro q0 (And.intro q1 (And.intro q2 (And.intro q3 q4)));have QC:=qd qC;clear qC q0 q1 q2 q3 q4;clear om3 or3;go_loopw [9] (fun i wx=>∃ j:Nat,i=.int .i64 (j:Int)/\j<=x.code.length/\Below W3.heap.size W3 wx/\Hid (∀ i,i<j->decide (jK m x i≠0)=false)) (fun i _=>x.code.length-(intOf i).toNat)
         case atStart=>exact⟨0,rfl,Nat.zero_le _,Below.refl _ _,by intro i h;omega⟩
         case round =>
          obtain⟨j,rfl,hj1,hbel4,hn4⟩:=hrel;have om4:=aD (omC.below hbel4);have or4:=gV (orC.below hbel4);have hz4:W3.heap.size<=wr.heap.size:=hbel4.size;have sm4:aQ B w wr:=smC.trans (aQ.of hbel4 oz);by_cases hlt3:j<x.code.length
          ·obtain⟨hi0,hiok⟩:=Hins.out j hlt3;obtain⟨i0,i1,i2,i3,i4⟩:=hi0.same sm4 hcb;generalize hyj:x.code.getD j default=y at *;have Hyj:=qd hyj;clear hyj;obtain⟨q0,q1,q2,q3,q4⟩:=QC.out;have hcW:=(bT hbel4).1;have u0:=(hcW fb _ oz).trans q0;have u1:=(hcW fb _ oz).trans q1;have u2:=(hcW fb _ oz).trans q2;have u3:=(hcW fb _ oz).trans q3;have u4:=(hcW fb _ oz).trans q4;clear q0 q1 q2 q3 q4 hcW;have hfbr:fb<wr.heap.size/\cb<wr.heap.size:=oz
           have hj3:(j:Int)<(x.code.length:Int):=oz
           have hf3:(f:Int)<(m.funcs.length:Int):=oz
           go_wp2_with fail;refine bC 10 kr kr ?_;simp only[TD];repeat(refine bS (fun K hK=>?_);go_simp;refine hK _ ?_;clear hK K)
           refine cF ?_;go_wp2_with (go_at_call 36;refine(aF8 B _ m _ _ _ _ _ _ _ _ _ y _ ?_ hB0 (hm0.same ?_) hiok hr1 hr2 ?_ ?_).mono ?_)
           ·exact jU
           ·exact sm4.drew
           ·unfold maxLen;omega
           ·intro i hi;exact(nK (hok.out i hi)).2.2.1
           rintro e w2 ⟨rfl,hb2⟩;have e0:Below wr.heap.size wr wr.drew:=bel;have om5:=aD (((omC.below hbel4).below e0).below hb2);have or5:=gV (((orC.below hbel4).below e0).below hb2);have hB2:wr.heap.size<=w2.heap.size:=hb2.size;clear om4 or4;have hI:oU m x.regs x.code.length y=jK m x j:=by unfold jK;rw[Hyj.out]
           rw[hI];have HI:=qd hI;clear hI;go_wp2
           ·have HX:iM m x=(jK m x j,(j:Int)):=by
             have HT:=eA x.code.length (fun i=>decide (jK m x i≠0)) j hlt3 (by go_light;grind) hn4.out;unfold iM;rw[HT]
            have HX2:eR m=⟨jK m x j,f,j⟩:=by
             have HT:=eA m.funcs.length (fun f=>decide ((iM m (m.funcs.getD f default)).1≠0)) f hlt2 (by go_light;simp only[Hxf.out,HX];grind) hn3.out;unfold eR;rw[HT];simp only[Hxf.out,HX]
            have HZ2:=qd HX2;clear HX HX2;refine bodyPost_ret (v:=.agg #[.int .i64 (jK m x j),.int .i64 f,.int .i64 j]) ?_ rfl ⟨?_,?_⟩
            ·have r:=uW (((orC.below hbel4).below e0).below hb2) (.int .i64 (jK m x j)) (.int .i64 f) (.int .i64 j);exact vJ
            ·rw[HY.out,HZ.out,HZ2.out]
            ·exact bel
           ·go_roundw
            case rel =>
             go_light;refine⟨j+1,by go_num,oz,bel,?_⟩;intro i hi;by_cases e:i=j
             ·subst e;grind
             ·exact hn4.out i oz
            case measure=>go_light;simp[intOf];omega
          ·have HT:=eB x.code.length (fun i=>decide (jK m x i≠0)) (fun i hi=>hn4.out i oz);have HX:iM m x=if jS x=0\/jS x=14\/jS x=18 then(0,0)else(64,(x.code.length:Int)-1):=by unfold iM;rw[HT]
           have HB:=qd HX;clear HX HT;have hl1:x.code.length-1<x.code.length:=oz
           obtain⟨hi0,hiok⟩:=Hins.out (x.code.length-1) hl1;obtain⟨i0,_,_,_,_⟩:=hi0.same sm4 hcb;have hlo:(x.code.getD (x.code.length-1) default).op=jS x:=rfl;rw[hlo]at i0;go_wp2
           all_goals first
            | (go_roundw
               case rel =>
                go_light;refine⟨f+1,by go_num,oz,bel,?_⟩;intro i hi;by_cases e:i=f
                ·subst e;simp only[Hxf.out,HB.out];rw[if_pos (by grind)];decide
                ·exact hn3.out i oz
               case measure=>go_light;simp[intOf];omega)
            | (have HX:iM m x=(64,(x.code.length:Int)-1):=by rw[HB.out,if_neg (by go_light;grind)]
               have HX2:eR m=⟨64,f,(x.code.length:Int)-1⟩:=by
                have HT:=eA m.funcs.length (fun f=>decide ((iM m (m.funcs.getD f default)).1≠0)) f hlt2 (by simp only[Hxf.out,HX];decide) hn3.out;unfold eR;rw[HT];simp only[Hxf.out,HX]
               have HZ2:=qd HX2;clear HX HX2;refine bodyPost_ret (v:=.agg #[.int .i64 64,.int .i64 f,.int .i64 ((x.code.length:Int)-1)]) ?_ rfl ⟨?_,?_⟩
               ·have r:=uW (orC.below hbel4) (.int .i64 64) (.int .i64 f) (.int .i64 ((x.code.length:Int)-1));exact vJ
               ·rw[HY.out,HZ.out,HZ2.out]
               ·exact bel)
        ·have HT:=eB m.funcs.length (fun f=>decide ((iM m (m.funcs.getD f default)).1≠0)) (fun i hi=>hn3.out i oz);have HX:eR m=⟨0,0,0⟩:=by unfold eR;rw[HT]
         have HZ2:=qd HX;clear HX HT;go_wp2;refine bodyPost_ret (v:=.agg #[.int .i64 0,.int .i64 0,.int .i64 0]) ?_ rfl ⟨?_,?_⟩
         ·have r:=uW (((ore.below hbel).below hbel2).below hbel3) (.int .i64 0) (.int .i64 0) (.int .i64 0);exact vJ
         ·rw[HY.out,HZ.out,HZ2.out]
         ·exact bel
end Go.Proofs.YteebpnbdihcfmaaGreatDoor
