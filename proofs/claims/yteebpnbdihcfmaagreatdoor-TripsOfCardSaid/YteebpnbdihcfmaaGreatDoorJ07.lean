/- ; R9 -/
import Derived.Test.YteebpnbdihcfmaaGreatDoorJ02
import Derived.Test.YteebpnbdihcfmaaGreatDoorJ03
set_option linter.unusedVariables false
set_option linter.unusedSimpArgs false
set_option maxRecDepth 100000
set_option maxHeartbeats 20000000
namespace Go.Proofs.YteebpnbdihcfmaaGreatDoor
open Go.RowKit
theorem aFn {p:Prop}(h:p:=by
 go_wp2
 all_goals(go_ret;go_light;refine⟨fU ?_,bel⟩;rw[HY.out];simp[pD]<;>grind)):p:=h
theorem aI8 {p:Prop}(h:p:=by
 go_light;simp[gN,cN]<;>grind):p:=h
theorem vY {p:Prop}(h:p:=by
 rw[<-hW0];simp[go_sem]):p:=h
theorem xP (B:Nat) (v:Value) (m:bA) (nm:ByteArray) (pa ca:Option Addr) (pl pc cl cc:Nat) (regs wd:Int) (x:dJ) (w:World) (hB:B<=w.heap.size) (hB0:0<B) (hm:cP B w v m) (hr:eO w) (hx:aFh x) (h1:1<=regs) (h64:regs<=64) (hcl:cl<=maxLen) (hp8:∀ i,i<m.funcs.length->(m.funcs.getD i default).params.length<=8) :
 Calls Tryz.prog 79 #[v,.agg #[.string nm,.slice pa pl pc,.int .i64 regs,.int .i64 wd,.slice ca cl cc],nF x] w fun e w'=>e=.returned (.int .i64 (oU m regs cl x))/\Below w.heap.size w w':=by
 obtain⟨ta,tl,tc,fa,fl,fc,rfl,ht,hf⟩:=hm;obtain⟨hfl',hlen,fb,fo,hfa,H,hcs⟩:=hf;subst hfl';have Hcs:=qd hcs;clear hcs;have Hp8:=qd hp8;clear hp8;obtain⟨op,a,b,c,n⟩:=x;obtain⟨o1,o2,o3,o4,o5⟩:=hx;unfold aM at o1 o2 o3 o4 o5;unfold maxLen at hlen hcl;dsimp only at *;unfold nF oU;dsimp only;by_cases hk:dK op=true
 ·rw[if_neg (by simp[hk])];have hk':=hk;unfold dK at hk';obtain⟨k,rfl⟩:=Int.eq_ofNat_of_zero_le (show 0<=op by grind);have hlt:k<20:=by grind
  have h0s:=hr.1;obtain⟨q0,q1,q2,q3,q4,q5,q6⟩:=hr.2 k hlt;clear hk' hr;have hRn:=aVz k;rw[Int.toNat_natCast];generalize dM k=R at *;obtain⟨Rw,Rwt,Ra,Rb,Rc,Rn,Rwr⟩:=R;dsimp only at *;go_enter Tryz.func79,Tryz.ntmps79;go_wp2_with (go_at_call 82;refine(rJ _ _).mono ?_;rintro e w1 ⟨rfl,rfl⟩)
  generalize hW0:World.alloc _ _=W0;have hb0:Below w.heap.size w W0:=by rw[<-hW0];exact bel
  have z0:w.heap.size+1+1+1+1=W0.heap.size:=by rw[<-hW0];simp
  have c0:W0.cell? ⟨w.heap.size,1,none⟩=some (.slice fa m.funcs.length fc):=vY
  have c1:W0.cell? ⟨w.heap.size+1,2,none⟩=some (.int .i64 regs):=vY
  have c2:W0.cell? ⟨w.heap.size+1,4,none⟩=some (.slice ca cl cc):=vY
  have c3:W0.cell? ⟨w.heap.size+1+1,2,none⟩=some (.int .i64 b):=vY
  have c4:W0.cell? ⟨w.heap.size+1+1,4,none⟩=some (.int .i64 n):=vY
  have c5:W0.cell? ⟨w.heap.size+1+1+1,5,none⟩=some (.int .i64 Rn):=vY
  have z1:w.heap.size+1+1+1+1<=W0.heap.size:=oz
  clear hW0 z0;go_loopw [34] (fun i wr=>∃ j:Nat,j<=3/\i=.int .i64 j/\Below W0.heap.size W0 wr/\Hid (∀ i,i<j->gN ⟨Rw,Rwt,Ra,Rb,Rc,Rn,Rwr⟩ ⟨k,a,b,c,n⟩ regs i=0)) (fun i _=>3-(intOf i).toNat)
  case atStart=>exact⟨0,Nat.zero_le _,rfl,Below.refl _ _,by intro j h;omega⟩
  case round =>
   obtain⟨j,hj,rfl,hbel,hn⟩:=hrel;have hd1:=(bT hbel).1;have hz2:W0.heap.size<=wr.heap.size:=hbel.size;have e1:w.heap.size+1<W0.heap.size:=oz
   have e2:w.heap.size+1+1<W0.heap.size:=oz
   have e3:w.heap.size+1+1+1<W0.heap.size:=oz
   have e0:w.heap.size<W0.heap.size:=oz
   have e4:w.heap.size+1<wr.heap.size:=oz
   have i0:∀ (A:Bool) (w:World),(Instr.index 157 (.agg #[.bool A,.int .i64 a,.bool Rb,.int .i64 b,.bool Rc,.int .i64 c]) (.int .i64 0)).run Tryz.prog w=.ok (.agg #[.bool A,.int .i64 a]) w:=fun _ _=>by kernel_rfl
   have i1:∀ (A:Bool) (w:World),(Instr.index 157 (.agg #[.bool Ra,.int .i64 a,.bool A,.int .i64 b,.bool Rc,.int .i64 c]) (.int .i64 1)).run Tryz.prog w=.ok (.agg #[.bool A,.int .i64 b]) w:=fun _ _=>by kernel_rfl
   have i2:∀ (A:Bool) (w:World),(Instr.index 157 (.agg #[.bool Ra,.int .i64 a,.bool Rb,.int .i64 b,.bool A,.int .i64 c]) (.int .i64 2)).run Tryz.prog w=.ok (.agg #[.bool A,.int .i64 c]) w:=fun _ _=>by kernel_rfl
   by_cases hlt:j<3
   ·rcases(show j=0\/j=1\/j=2 by omega)with rfl|rfl|rfl
    ·cases Ra
     all_goals
      go_wp2
      all_goals first
       | (have HX:=sV m regs cl _ _ 0 oz hn.out aI8
          go_ret;go_light;exact⟨fU (by rw[HX];simp[gN,cN]<;>grind),bel⟩)
       | (go_roundw
          case rel =>
           go_light;refine⟨0+1,oz,rfl,bel,?_⟩;intro i hi;by_cases e:i=0
           ·subst e;simp[gN,cN]<;>grind
           ·exact hn.out i oz
          case measure=>simp[intOf])
    ·cases Rb
     all_goals
      go_wp2
      all_goals first
       | (have HX:=sV m regs cl _ _ 1 oz hn.out aI8
          go_ret;go_light;exact⟨fU (by rw[HX];simp[gN,cN]<;>grind),bel⟩)
       | (go_roundw
          case rel =>
           go_light;refine⟨1+1,oz,rfl,bel,?_⟩;intro i hi;by_cases e:i=1
           ·subst e;simp[gN,cN]<;>grind
           ·exact hn.out i oz
          case measure=>simp[intOf])
    ·cases Rc
     all_goals
      go_wp2
      all_goals first
       | (have HX:=sV m regs cl _ _ 2 oz hn.out aI8
          go_ret;go_light;exact⟨fU (by rw[HX];simp[gN,cN]<;>grind),bel⟩)
       | (go_roundw
          case rel =>
           go_light;refine⟨2+1,oz,rfl,bel,?_⟩;intro i hi;by_cases e:i=2
           ·subst e;simp[gN,cN]<;>grind
           ·exact hn.out i oz
          case measure=>simp[intOf])
   ·obtain rfl:j=3:=oz
    have HX:=aLn m regs cl _ _ hn.out;have HY:=qd HX;clear HX;have hd0:=(bT hb0).1;rcases(show Rn=0\/Rn=1\/Rn=2\/Rn=3\/Rn=4 by omega)with rfl|rfl|rfl|rfl|rfl
    ·exact aFn
    ·go_wp2
     all_goals(go_ret;go_light;refine⟨fU ?_,bel⟩;rw[HY.out];simp[pD])
    ·exact aFn
    ·exact aFn
    ·by_cases hn0:n<0
     ·go_wp2
      go_quiet (fail)
      exact aFn
     ·obtain⟨N,rfl⟩:=Int.eq_ofNat_of_zero_le (show 0<=n by omega);by_cases hN:N<m.funcs.length
      ·obtain⟨rfl,hfb⟩:=hfa oz;obtain⟨⟨_,q,_⟩,_,⟨hpl,hpm,_⟩,_⟩:=Hcs.out N hN;generalize H N=hh at *;obtain⟨pa',pl',pc',_,_,_⟩:=hh;dsimp only at q hpl hpm;have hP:lJ m N=pl':=by unfold lJ;rw[Int.toNat_natCast,hpl]
       have h8:=Hp8.out N hN;rw[hpl]at h8;have hb9:0<=b/\b<=64:=by
        have:=hn.out 1 oz;simp[gN,cN]at this;cases Rb<;>grind
       have HP:=qd hP;clear hP hpl;unfold maxLen at hpm;have hfb2:fb<w.heap.size/\fb<W0.heap.size:=oz
       have d1:decide ((N:Int)<0)=false:=by simp<;>omega
       have d2:decide ((m.funcs.length:Int)<=N)=false:=by simp<;>omega
       have hwr:IntKind.i64.wrap (b+(pl':Int))=b+(pl':Int):=IntWalk.i64_in _ oz;go_wp2
       go_quiet (fail)
       clear hwr;go_wp2
       all_goals(go_ret;go_light;refine⟨fU ?_,bel⟩;rw[HY.out,aAm _ _ _ _ _ _ (by omega) (by omega),HP.out];first|rw[if_pos (by omega)]|rw[if_neg (by omega)])
      ·have d1:decide ((N:Int)<0)=false:=by simp<;>omega
       have d2:decide ((m.funcs.length:Int)<=N)=true:=by simp<;>omega
       go_wp2
       go_quiet (fail)
       exact aFn
 ·have hk0:dK op=false:=by simpa using hk
  clear hk;go_enter Tryz.func79,Tryz.ntmps79;go_wp2_with (go_at_call 82;refine(rJ _ _).mono ?_;rintro e w1 ⟨rfl,rfl⟩)
  go_ret;go_light;exact⟨fU (by simp[hk0]),bel⟩
theorem eO.below {w w':World}(h:eO w) (hb:Below w.heap.size w w'):eO w':=h.same (aQ.of hb lr) h.1 hb.size
theorem uU {p:Prop}(h:p:=by
 simp[results,Tryz.results44,go_sem,r]):p:=h
theorem yE (B:Nat) (v:Value) (m:bA) (w:World) (hB:B<=w.heap.size) (hB0:0<B) (hm:cP B w v m) (hr:eO w) :
 Calls Tryz.prog 44 #[v] w fun e w'=>e=.returned (.agg #[.int .i64 (dS m).e,.int .i64 (dS m).f,.int .i64 (dS m).at_])/\Below w.heap.size w w':=by
 have hm0:=hm;obtain⟨ta,tl,tc,fa,fl,fc,rfl,⟨htl,htm,tb,tO,hta,hts⟩,hf⟩:=hm;have hf0:=hf;obtain⟨hfl',hlen,fb,fo,hfa,H,hcs⟩:=hf;subst hfl' htl;have Hcs:=qd hcs;clear hcs;have Hts:=qd hts;clear hts;unfold maxLen at hlen htm;by_cases h16:16<m.thr.length
 ·have HX:dS m=⟨3,0,16⟩:=by simp[dS,h16]
  have HY:=qd HX;clear HX;go_enter Tryz.func44,Tryz.ntmps44;go_wp2;refine bodyPost_ret (v:=.agg #[.int .i64 3,.int .i64 0,.int .i64 16]) (by simp[results,Tryz.results44,go_sem]) rfl ⟨?_,?_⟩
  ·rw[HY.out]
  ·exact bel
 ·have d16:decide ((16:Int)<(m.thr.length:Int))=false:=by simp<;>omega
  go_enter Tryz.func44,Tryz.ntmps44;go_wp2;generalize hW0:World.alloc _ _=W0;have hb0:Below w.heap.size w W0:=by rw[<-hW0];exact bel
  have om:aF W0 w.heap.size [.slice ta m.thr.length tc,.slice fa m.funcs.length fc]:=mR
  have ore:aF W0 (w.heap.size+1) [.int .i64 0,.int .i64 0,.int .i64 0]:=lG
  clear hW0;go_loopw [3] (fun i wr=>∃ p:Nat,i=.int .i64 ((p:Int)+1)/\(p+1<=m.thr.length\/p=0)/\Below W0.heap.size W0 wr/\Hid (∀ i,i<p+1->kU m.thr i=false)) (fun i _=>m.thr.length-(intOf i).toNat)
  case atStart =>
   refine⟨0,rfl,.inr rfl,Below.refl _ _,?_⟩;intro i h;obtain rfl:i=0:=oz
   simp[kU]
  case round =>
   obtain⟨p,rfl,hp,hbel,hn⟩:=hrel;have om1:=aD (om.below hbel);have or1:=gV (ore.below hbel);have ht16:m.thr.length<=16:=oz
   have hz0:W0.heap.size<=wr.heap.size:=hbel.size;have hzw:w.heap.size<=W0.heap.size:=hb0.size;by_cases hlt:p+1<m.thr.length
   ·obtain⟨rfl,htb⟩:=hta oz;have sm:aQ B w wr:=(aQ.of hb0 hB).trans (aQ.of hbel oz);have t0:=(sm tb (tO+p) htb).trans (Hts.out p oz).1;have t1:=(sm tb (tO+(p+1)) htb).trans (Hts.out (p+1) hlt).1;have hwr:IntKind.i64.wrap ((p:Int)+1-1)=(p:Int):=by rw[IntWalk.i64_in _ (by omega)];omega
    have hi1:0<=(p:Int)+1:=oz
    have hi2:((p:Int)+1).toNat=p+1:=oz
    have hi3:(p:Int)+1<(m.thr.length:Int):=oz
    have hi4:(p:Int)<(m.thr.length:Int):=oz
    go_wp2
    go_quiet (fail)
    go_wp2
    ·have HX:dS m=⟨66,0,(p:Int)+1⟩:=by
      have HT:=eA m.thr.length (kU m.thr) (p+1) hlt (by go_light;simp only[kU];grind) hn.out;unfold dS;rw[if_neg (by omega),HT];rfl
     have HY:=qd HX;clear HX;refine bodyPost_ret (v:=.agg #[.int .i64 66,.int .i64 0,.int .i64 ((p:Int)+1)]) ?_ rfl ⟨?_,?_⟩
     ·have r:=uW ((ore.below hbel).drewN nq) (.int .i64 66) (.int .i64 0) (.int .i64 ((p:Int)+1));exact uU
     ·rw[HY.out]
     ·exact bel
    ·go_roundw
     case rel =>
      go_light;refine⟨p+1,by go_num,oz,bel,?_⟩;intro i hi;by_cases e:i=p+1
      ·subst e;simp only[kU];grind
      ·exact hn.out i oz
     case measure=>go_light;simp[intOf];omega
   ·have HT:=eB m.thr.length (kU m.thr) (fun i hi=>hn.out i oz);by_cases h32:32<m.funcs.length
    ·have HX:dS m=⟨3,32,0⟩:=by unfold dS;rw[if_neg (by omega),HT,if_pos h32]
     have HY:=qd HX;clear HX HT;go_wp2;refine bodyPost_ret (v:=.agg #[.int .i64 3,.int .i64 32,.int .i64 0]) ?_ rfl ⟨?_,?_⟩
     ·have r:=uW (ore.below hbel) (.int .i64 3) (.int .i64 32) (.int .i64 0);exact uU
     ·rw[HY.out]
     ·exact bel
    ·have HX:dS m=eX m:=by unfold dS;rw[if_neg (by omega),HT];simp only[];rw[if_neg h32]
     have HY:=qd HX;clear HX HT;have d32:decide ((32:Int)<(m.funcs.length:Int))=false:=by simp<;>omega
     go_wp2;obtain⟨wA,rfl⟩:∃ wo:World,wo=wr:=⟨_,rfl⟩
     go_loopw [47] (fun i wx=>∃ f:Nat,i=.int .i64 (f:Int)/\f<=m.funcs.length/\Below wA.heap.size wA wx/\Hid (∀ i,i<f->decide ((cX m i).1≠0)=false)) (fun i _=>m.funcs.length-(intOf i).toNat)
     case atStart=>exact⟨0,rfl,Nat.zero_le _,Below.refl _ _,by intro i h;omega⟩
     case round =>
      obtain⟨f,rfl,hf1,hbel2,hn2⟩:=hrel;have om2:=aD ((om.below hbel).below hbel2);have or2:=gV ((ore.below hbel).below hbel2);have hz2:wA.heap.size<=wr.heap.size:=hbel2.size;have sm:aQ B w wr:=((aQ.of hb0 hB).trans (aQ.of hbel oz)).trans (aQ.of hbel2 oz);clear om1 or1;by_cases hlt:f<m.funcs.length
      ·go_wp2_with (go_at_call 78;refine(aKj B _ m f _ ?_ (hm0.same sm) hlt).mono ?_)
       ·exact jU
       rintro e w1 ⟨rfl,hb1⟩;have om3:=aD (((om.below hbel).below hbel2).below hb1);have or3:=gV (((ore.below hbel).below hbel2).below hb1);clear om2 or2;go_wp2
       ·have HX:eX m=⟨(cX m f).1,f,(cX m f).2⟩:=by
         have HT:=eA m.funcs.length (fun f=>decide ((cX m f).1≠0)) f hlt (by go_light;grind) hn2.out;unfold eX;rw[HT]
        have HZ:=qd HX;clear HX;refine bodyPost_ret (v:=.agg #[.int .i64 (cX m f).1,.int .i64 f,.int .i64 (cX m f).2]) ?_ rfl ⟨?_,?_⟩
        ·have r:=uW (((ore.below hbel).below hbel2).below hb1) (.int .i64 (cX m f).1) (.int .i64 f) (.int .i64 (cX m f).2);exact uU
        ·rw[HY.out,HZ.out]
        ·exact bel
       ·go_roundw
        case rel =>
         go_light;refine⟨f+1,by go_num,oz,bel,?_⟩;intro i hi;by_cases e:i=f
         ·subst e;grind
         ·exact hn2.out i oz
        case measure=>go_light;simp[intOf];omega
      ·have HT:=eB m.funcs.length (fun f=>decide ((cX m f).1≠0)) (fun i hi=>hn2.out i oz);have HX:eX m=eR m:=by unfold eX;rw[HT]
       have HZ:=qd HX;clear HX HT;have hok:Hid (∀ i,i<m.funcs.length->(cX m i).1=0):=by intro i hi;have:=hn2.out i oz;simpa using this
       go_wp2;obtain⟨wB,rfl⟩:∃ wo:World,wo=wr:=⟨_,rfl⟩
       go_loopw [66] (fun i wx=>∃ f:Nat,i=.int .i64 (f:Int)/\f<=m.funcs.length/\Below wB.heap.size wB wx/\Hid (∀ i,i<f->decide ((iM m (m.funcs.getD i default)).1≠0)=false)) (fun i _=>m.funcs.length-(intOf i).toNat)
       case atStart=>exact⟨0,rfl,Nat.zero_le _,Below.refl _ _,by intro i h;omega⟩
       case round =>
        obtain⟨f,rfl,hf1,hbel3,hn3⟩:=hrel;have om3:=aD (((om.below hbel).below hbel2).below hbel3);have or3:=gV (((ore.below hbel).below hbel2).below hbel3);have hz3:wB.heap.size<=wr.heap.size:=hbel3.size;have sm3:aQ B w wr:=sm.trans (aQ.of hbel3 oz);clear om2 or2;by_cases hlt2:f<m.funcs.length
        ·obtain⟨rfl,hfb⟩:=hfa oz;obtain⟨hfcells,hfok⟩:=Hcs.out f hlt2;obtain⟨q0,q1,q2,q3,q4⟩:=hfcells.same sm3 hfb;have hwok:=nK (hok.out f hlt2);obtain⟨_,_,_,hr1,hr2,_,_,_,hc1,hc2,_⟩:=hwok;generalize hxf:m.funcs.getD f default=x at *;have Hxf:=qd hxf;clear hxf;generalize H f=hh at *;obtain⟨pa,pl,pc,ca,cl,cc⟩:=hh;obtain⟨_,_,⟨hcl,hcm,cb,co,hca,hins⟩,_,_⟩:=hfok;dsimp only at *;subst hcl;obtain⟨rfl,hcb⟩:=hca oz;have Hins:=qd hins;clear hins;unfold maxLen at hcm;go_wp2;generalize hW3:World.alloc wr _=W3;have hb3:Below wr.heap.size wr W3:=by rw[<-hW3];exact bel
         have oF:aF W3 wr.heap.size [.string x.name,.slice pa pl pc,.int .i64 x.regs,.int .i64 x.words,.slice (some ⟨cb,co,none⟩) x.code.length cc]:=by rw[<-hW3];exact aF.new _ _ _
         clear hW3;obtain⟨wC,rfl⟩:∃ wo:World,wo=wr:=⟨_,rfl⟩
         have omC:=((om.below hbel).below hbel2).below hbel3 |>.below hb3;have orC:=((ore.below hbel).below hbel2).below hbel3 |>.below hb3;have hzC:wC.heap.size<=W3.heap.size:=hb3.size;have smC:aQ B w W3:=sm3.trans (aQ.of hb3 oz);clear om3 or3;go_loopw [74] (fun i wx=>∃ j:Nat,i=.int .i64 (j:Int)/\j<=x.code.length/\Below W3.heap.size W3 wx/\Hid (∀ i,i<j->decide (jK m x i≠0)=false)) (fun i _=>x.code.length-(intOf i).toNat)
         case atStart=>exact⟨0,rfl,Nat.zero_le _,Below.refl _ _,by intro i h;omega⟩
         case round =>
          obtain⟨j,rfl,hj1,hbel4,hn4⟩:=hrel;have om4:=aD (omC.below hbel4);have or4:=gV (orC.below hbel4);have oF4:=aX (oF.below hbel4);have hz4:W3.heap.size<=wr.heap.size:=hbel4.size;have sm4:aQ B w wr:=smC.trans (aQ.of hbel4 oz);by_cases hlt3:j<x.code.length
          ·obtain⟨hi0,hiok⟩:=Hins.out j hlt3;obtain⟨i0,i1,i2,i3,i4⟩:=hi0.same sm4 hcb;generalize hyj:x.code.getD j default=y at *;have Hyj:=qd hyj;clear hyj;go_wp2_with (go_at_call 79;refine(xP B _ m _ _ _ _ _ _ _ _ _ y _ ?_ hB0 (hm0.same (sm4.trans ?_)) (hr.same (sm4.trans ?_) hB0 ?_) hiok hr1 hr2 ?_ ?_).mono ?_)
           ·exact jU
           ·exact(aQ.refl _ _).alloc jU _
           ·exact(aQ.refl _ _).alloc jU _
           ·exact jU
           ·unfold maxLen;omega
           ·intro i hi;exact(nK (hok.out i hi)).2.2.1
           rintro e w2 ⟨rfl,hb2⟩;have e0:Below wr.heap.size wr (wr.alloc (.cells #[.int .i64 y.op,.int .i64 y.a,.int .i64 y.b,.int .i64 y.c,.int .i64 y.n] 55)):=bel;have om5:=aD (((omC.below hbel4).below e0).below hb2);have or5:=gV (((orC.below hbel4).below e0).below hb2);have hB2:=hb2.size;simp only[World.size_alloc]at hB2;clear om4 or4;have hI:oU m x.regs x.code.length y=jK m x j:=by unfold jK;rw[Hyj.out]
           rw[hI];have HI:=qd hI;clear hI;go_wp2
           ·have HX:iM m x=(jK m x j,(j:Int)):=by
             have HT:=eA x.code.length (fun i=>decide (jK m x i≠0)) j hlt3 (by go_light;grind) hn4.out;unfold iM;rw[HT]
            have HX2:eR m=⟨jK m x j,f,j⟩:=by
             have HT:=eA m.funcs.length (fun f=>decide ((iM m (m.funcs.getD f default)).1≠0)) f hlt2 (by go_light;simp only[Hxf.out,HX];grind) hn3.out;unfold eR;rw[HT];simp only[Hxf.out,HX]
            have HZ2:=qd HX2;clear HX HX2;refine bodyPost_ret (v:=.agg #[.int .i64 (jK m x j),.int .i64 f,.int .i64 j]) ?_ rfl ⟨?_,?_⟩
            ·have r:=uW (((orC.below hbel4).below e0).below hb2) (.int .i64 (jK m x j)) (.int .i64 f) (.int .i64 j);exact uU
            ·rw[HY.out,HZ.out,HZ2.out]
            ·exact bel
           ·go_roundw
            case rel =>
             go_light;refine⟨j+1,by go_num,oz,bel,?_⟩;intro i hi;by_cases e:i=j
             ·subst e;grind
             ·exact hn4.out i oz
            case measure=>go_light;simp[intOf];omega
          ·have HT:=eB x.code.length (fun i=>decide (jK m x i≠0)) (fun i hi=>hn4.out i oz);have HX:iM m x=if jS x=0\/jS x=14\/jS x=18 then(0,0)else(64,(x.code.length:Int)-1):=by unfold iM;rw[HT]
           have HB:=qd HX;clear HX HT;have hl1:x.code.length-1<x.code.length:=oz
           obtain⟨hi0,hiok⟩:=Hins.out (x.code.length-1) hl1;obtain⟨i0,_,_,_,_⟩:=hi0.same sm4 hcb;have hlo:(x.code.getD (x.code.length-1) default).op=jS x:=rfl;rw[hlo]at i0;go_wp2
           all_goals first
            | (go_roundw
               case rel =>
                go_light;refine⟨f+1,by go_num,oz,bel,?_⟩;intro i hi;by_cases e:i=f
                ·subst e;simp only[Hxf.out,HB.out];rw[if_pos (by grind)];decide
                ·exact hn3.out i oz
               case measure=>go_light;simp[intOf];omega)
            | (have HX:iM m x=(64,(x.code.length:Int)-1):=by rw[HB.out,if_neg (by go_light;grind)]
               have HX2:eR m=⟨64,f,(x.code.length:Int)-1⟩:=by
                have HT:=eA m.funcs.length (fun f=>decide ((iM m (m.funcs.getD f default)).1≠0)) f hlt2 (by simp only[Hxf.out,HX];decide) hn3.out;unfold eR;rw[HT];simp only[Hxf.out,HX]
               have HZ2:=qd HX2;clear HX HX2;refine bodyPost_ret (v:=.agg #[.int .i64 64,.int .i64 f,.int .i64 ((x.code.length:Int)-1)]) ?_ rfl ⟨?_,?_⟩
               ·have r:=uW (orC.below hbel4) (.int .i64 64) (.int .i64 f) (.int .i64 ((x.code.length:Int)-1));exact uU
               ·rw[HY.out,HZ.out,HZ2.out]
               ·exact bel)
        ·have HT:=eB m.funcs.length (fun f=>decide ((iM m (m.funcs.getD f default)).1≠0)) (fun i hi=>hn3.out i oz);have HX:eR m=⟨0,0,0⟩:=by unfold eR;rw[HT]
         have HZ2:=qd HX;clear HX HT;go_wp2;refine bodyPost_ret (v:=.agg #[.int .i64 0,.int .i64 0,.int .i64 0]) ?_ rfl ⟨?_,?_⟩
         ·have r:=uW (((ore.below hbel).below hbel2).below hbel3) (.int .i64 0) (.int .i64 0) (.int .i64 0);exact uU
         ·rw[HY.out,HZ.out,HZ2.out]
         ·exact bel
theorem aOu {p:Prop}(h:p:=by
 go_wp2;go_ret;exact⟨rfl,hb0.trans (Below.mono (hbel.trans (Below.mono hbelj oz)) oz)⟩):p:=h
theorem aRz {p:Prop}(h:p:=by
 go_roundw
 case rel=>exact⟨j+1,oz,si,bel⟩
 case measure=>go_light;exact ml):p:=h
theorem aUf {p:Prop}(h:p:=by
 have hwk:IntKind.i64.wrap ((k:Int)+1)=(k:Int)+1:=IntWalk.i64_in _ oz;have hwk0:IntKind.i64.wrap (k:Int)=(k:Int):=IntWalk.i64_in _ oz;go_wp2;refine bC 10 kr kr ?_;simp only[TD];repeat(refine bS (fun K hK=>?_);go_simp;refine hK _ ?_;clear hK K)
 refine cF ?_;go_wp2
 go_roundw
 case rel=>exact⟨k+1,oz,si,bel⟩
 case measure=>go_light;exact ml):p:=h
theorem aDy (B:Nat) (f:aC) (h1 h2:HF) (w:World) (hB:B<=w.heap.size) (o1:aZ B w h1 f) (o2:aZ B w h2 f) :
 Calls Tryz.prog 33 #[aI h1 f,aI h2 f] w fun e w'=>e=.returned (.bool true)/\Below w.heap.size w w':=by
 obtain⟨hnm,⟨p1,p2,pb,po,pa,ps⟩,⟨c1,c2,cb,co,ca,cs⟩,_,_⟩:=o1;obtain⟨_,⟨p1',_,pb',po',pa',ps'⟩,⟨c1',_,cb',co',ca',cs'⟩,_,_⟩:=o2;obtain⟨xa,xl,xc,ya,yl,yc⟩:=h1;obtain⟨xa',xl',xc',ya',yl',yc'⟩:=h2;dsimp only at *;obtain rfl:xl=xl':=oz
 obtain rfl:yl=yl':=oz
 have Ps:=qd ps;clear ps;have Ps':=qd ps';clear ps';have Cs:=qd cs;clear cs;have Cs':=qd cs';clear cs';subst p1 c1;clear p1' c1';unfold maxLen at p2 c2;unfold aI;dsimp only;generalize f.name=nm at *;generalize f.regs=R at *;generalize f.words=Wd at *;go_enter Tryz.func33,Tryz.ntmps33;go_wp2;generalize hW0:World.alloc _ _=W0;have hb0:Below w.heap.size w W0:=by rw[<-hW0];exact bel
 have O1:=qd (show aF W0 w.heap.size [.string nm,.slice xa f.params.length xc,.int .i64 R,.int .i64 Wd,.slice ya f.code.length yc] by rw[<-hW0];exact(aF.new _ _ _).alloc _);have O2:=qd (show aF W0 (w.heap.size+1) [.string nm,.slice xa' f.params.length xc',.int .i64 R,.int .i64 Wd,.slice ya' f.code.length yc'] by rw[<-hW0];exact aF.new' _ _ _ _ si);clear hW0;have hz0:=O2.out.1;go_loopw [5] (fun i wr=>∃ k:Nat,k<=f.params.length/\i=.int .i64 k/\Below W0.heap.size W0 wr) (fun i _=>f.params.length-(intOf i).toNat)
 case atStart=>exact⟨0,Nat.zero_le _,rfl,Below.refl _ _⟩
 case round =>
  obtain⟨k,hk,rfl,hbel⟩:=hrel;have hz:=hbel.size;have oa:=aX (O1.out.below hbel);have ob:=aX (O2.out.below hbel);by_cases hlt:k<f.params.length
  ·have d2:(k:Int)<(f.params.length:Int):=oz
   obtain⟨rfl,hpb⟩:=pa oz;obtain⟨rfl,hpb'⟩:=pa' oz;obtain⟨s0,s1,_⟩:=Ps.out k hlt;obtain⟨t0,t1,_⟩:=Ps'.out k hlt;have hc:=(bT (hb0.trans (Below.mono hbel oz))).1;have u0:=(hc pb _ oz).trans s0;have u1:=(hc pb _ oz).trans s1;have v0:=(hc pb' _ oz).trans t0;have v1:=(hc pb' _ oz).trans t1;have hpw:pb<wr.heap.size/\pb'<wr.heap.size:=oz
   generalize f.params.getD k default=sp at *;clear hc s0 s1 t0 t1;exact aUf
  ·have d2:¬(k:Int)<(f.params.length:Int):=oz
   go_wp2;obtain⟨wA,rfl⟩:∃ wo:World,wo=wr:=⟨_,rfl⟩
   go_loopw [6] (fun i wr=>∃ k:Nat,k<=f.code.length/\i=.int .i64 k/\Below wA.heap.size wA wr) (fun i _=>f.code.length-(intOf i).toNat)
   case atStart=>exact⟨0,Nat.zero_le _,rfl,Below.refl _ _⟩
   case round =>
    obtain⟨j,hj,rfl,hbelj⟩:=hrel;have hzj:=hbelj.size;have oa:=aX ((O1.out.below hbel).below hbelj);have ob:=aX ((O2.out.below hbel).below hbelj);by_cases hlj:j<f.code.length
    ·have d3:(j:Int)<(f.code.length:Int):=oz
     obtain⟨rfl,hcb⟩:=ca oz;obtain⟨rfl,hcb'⟩:=ca' oz;obtain⟨⟨s0,s1,s2,s3,s4⟩,_⟩:=Cs.out j hlj;obtain⟨⟨t0,t1,t2,t3,t4⟩,_⟩:=Cs'.out j hlj;have hc:=(bT (hb0.trans (Below.mono (hbel.trans (Below.mono hbelj oz)) oz))).1;have u0:=(hc cb _ oz).trans s0;have u1:=(hc cb _ oz).trans s1;have u2:=(hc cb _ oz).trans s2;have u3:=(hc cb _ oz).trans s3;have u4:=(hc cb _ oz).trans s4;have v0:=(hc cb' _ oz).trans t0;have v1:=(hc cb' _ oz).trans t1;have v2:=(hc cb' _ oz).trans t2;have v3:=(hc cb' _ oz).trans t3;have v4:=(hc cb' _ oz).trans t4;have hpw:cb<wr.heap.size/\cb'<wr.heap.size:=oz
     generalize f.code.getD j default=sp at *;clear hc s0 s1 s2 s3 s4 t0 t1 t2 t3 t4;have hwk:IntKind.i64.wrap ((j:Int)+1)=(j:Int)+1:=IntWalk.i64_in _ oz;have hwk0:IntKind.i64.wrap (j:Int)=(j:Int):=IntWalk.i64_in _ oz;go_wp2;refine bC 10 kr kr ?_;simp only[TD];repeat(refine bS (fun K hK=>?_);go_simp;refine hK _ ?_;clear hK K)
     refine cF ?_;go_wp2
     exact aRz
    ·have d3:¬(j:Int)<(f.code.length:Int):=oz
     exact aOu
theorem aNo (B:Nat) (m:bA) (v1 v2:Value) (w:World) (hB:B<=w.heap.size) (o1:cP B w v1 m) (o2:cP B w v2 m) :
 Calls Tryz.prog 8 #[v1,v2] w fun e w'=>e=.returned (.bool true)/\Below w.heap.size w w':=by
 obtain⟨ta,tl,tc,fa,fl,fc,rfl,⟨p1,p2,pb,po,pa,ps⟩,⟨c1,c2,cb,co,ca,H,cs⟩⟩:=o1;obtain⟨ta',tl',tc',fa',fl',fc',rfl,⟨p1',_,pb',po',pa',ps'⟩,⟨c1',_,cb',co',ca',H',cs'⟩⟩:=o2;obtain rfl:tl=tl':=oz
 obtain rfl:fl=fl':=oz
 have Ps:=qd ps;clear ps;have Ps':=qd ps';clear ps';have Cs:=qd cs;clear cs;have Cs':=qd cs';clear cs';subst p1 c1;clear p1' c1';unfold maxLen at p2 c2;go_enter Tryz.func8,Tryz.ntmps8;go_wp2;generalize hW0:World.alloc _ _=W0;have hb0:Below w.heap.size w W0:=by rw[<-hW0];exact bel
 have O1:=qd (show aF W0 w.heap.size [.slice ta m.thr.length tc,.slice fa m.funcs.length fc] by rw[<-hW0];exact(aF.new _ _ _).alloc _);have O2:=qd (show aF W0 (w.heap.size+1) [.slice ta' m.thr.length tc',.slice fa' m.funcs.length fc'] by rw[<-hW0];exact aF.new' _ _ _ _ si);clear hW0;have hz0:=O2.out.1;go_loopw [5] (fun i wr=>∃ k:Nat,k<=m.thr.length/\i=.int .i64 k/\Below W0.heap.size W0 wr) (fun i _=>m.thr.length-(intOf i).toNat)
 case atStart=>exact⟨0,Nat.zero_le _,rfl,Below.refl _ _⟩
 case round =>
  obtain⟨k,hk,rfl,hbel⟩:=hrel;have hz:=hbel.size;have oa:=aD (O1.out.below hbel);have ob:=aD (O2.out.below hbel);by_cases hlt:k<m.thr.length
  ·have d2:(k:Int)<(m.thr.length:Int):=oz
   obtain⟨rfl,hpb⟩:=pa oz;obtain⟨rfl,hpb'⟩:=pa' oz;obtain⟨s0,_⟩:=Ps.out k hlt;obtain⟨t0,_⟩:=Ps'.out k hlt;have hc:=(bT (hb0.trans (Below.mono hbel oz))).1;have u0:=(hc pb _ oz).trans s0;have v0:=(hc pb' _ oz).trans t0;have hpw:pb<wr.heap.size/\pb'<wr.heap.size:=oz
   generalize m.thr.getD k 0=sp at *;clear hc s0 t0;exact aUf
  ·have d2:¬(k:Int)<(m.thr.length:Int):=oz
   go_wp2;obtain⟨wA,rfl⟩:∃ wo:World,wo=wr:=⟨_,rfl⟩
   go_loopw [6] (fun i wr=>∃ k:Nat,k<=m.funcs.length/\i=.int .i64 k/\Below wA.heap.size wA wr) (fun i _=>m.funcs.length-(intOf i).toNat)
   case atStart=>exact⟨0,Nat.zero_le _,rfl,Below.refl _ _⟩
   case round =>
    obtain⟨j,hj,rfl,hbelj⟩:=hrel;have hzj:=hbelj.size;have oa:=aD ((O1.out.below hbel).below hbelj);have ob:=aD ((O2.out.below hbel).below hbelj);by_cases hlj:j<m.funcs.length
    ·have d3:(j:Int)<(m.funcs.length:Int):=oz
     obtain⟨rfl,hcb⟩:=ca oz;obtain⟨rfl,hcb'⟩:=ca' oz;have hbw:=hb0.trans (Below.mono (hbel.trans (Below.mono hbelj oz)) oz);have sm:aQ B w wr:=aQ.of hbw hB;obtain⟨⟨s0,s1,s2,s3,s4⟩,ok⟩:=Cs.out j hlj;obtain⟨⟨t0,t1,t2,t3,t4⟩,ok'⟩:=Cs'.out j hlj;have hc:=(bT hbw).1;have u0:=(hc cb _ oz).trans s0;have u1:=(hc cb _ oz).trans s1;have u2:=(hc cb _ oz).trans s2;have u3:=(hc cb _ oz).trans s3;have u4:=(hc cb _ oz).trans s4;have v0:=(hc cb' _ oz).trans t0;have v1:=(hc cb' _ oz).trans t1;have v2:=(hc cb' _ oz).trans t2;have v3:=(hc cb' _ oz).trans t3;have v4:=(hc cb' _ oz).trans t4;have hpw:cb<wr.heap.size/\cb'<wr.heap.size:=oz
     have hcall:=fun w1 h0 (hs:aQ B w w1)=>aDy B (m.funcs.getD j default) (H j) (H' j) w1 h0 (ok.same hs) (ok'.same hs);have HC:=qd hcall;clear hcall;clear hc s0 s1 s2 s3 s4 t0 t1 t2 t3 t4 ok ok';unfold aI at HC;generalize m.funcs.getD j default=ff at *;generalize H j=ha at *;generalize H' j=hb at *;have hwk:IntKind.i64.wrap ((j:Int)+1)=(j:Int)+1:=IntWalk.i64_in _ oz;have hwk0:IntKind.i64.wrap (j:Int)=(j:Int):=IntWalk.i64_in _ oz;go_wp2;refine bC 10 kr kr ?_;simp only[TD];repeat(refine bS (fun K hK=>?_);go_simp;refine hK _ ?_;clear hK K)
     refine cF ?_;go_wp2_with (go_at_call 33;refine(HC.out _ jU aFv).mono ?_;rintro e w2 ⟨rfl,hb2⟩)
     exact aRz
    ·have d3:¬(j:Int)<(m.funcs.length:Int):=oz
     exact aOu
end Go.Proofs.YteebpnbdihcfmaaGreatDoor
