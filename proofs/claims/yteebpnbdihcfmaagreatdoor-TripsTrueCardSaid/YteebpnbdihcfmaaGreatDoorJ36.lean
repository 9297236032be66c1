/- R9; R9 -/
import Derived.Test.YteebpnbdihcfmaaGreatDoorJ30
import Derived.Test.YteebpnbdihcfmaaGreatDoorJ01
set_option linter.unusedVariables false
set_option linter.unusedSimpArgs false
set_option maxRecDepth 100000
set_option maxHeartbeats 20000000
namespace Go.Proofs.YteebpnbdihcfmaaGreatDoor
open Go.RowKit
theorem rwrong_any (B:Nat) (v:Value) (m:PMod) (f:Nat) (w:World) (hB:B<=w.heap.size) (hm:ModAt B w v m) (hfl:f<m.funcs.length) :
 Calls Tryz.prog 35 #[v,.int .i64 f] w fun e w'=>e=.returned (.tuple #[.int .i64 (wholeP m f).1,.int .i64 (wholeP m f).2])/\Below w.heap.size w w':=by
 obtain⟨ta,tl,tc,fa,fl,fc,rfl,ht,hf⟩:=hm;obtain⟨hfl',hlen,fb,fo,hfa,H,hcs⟩:=hf;subst hfl';obtain⟨rfl,hfb⟩:=hfa oz;have Hcs:=qd hcs;obtain⟨⟨q0,q1,q2,q3,q4⟩,hnm,⟨hpl,hpm,pb,po,hpa,hps⟩,⟨hcl,hcm,_⟩,hr,hwd⟩:=hcs f hfl;clear hcs;unfold wholeP;have hself:((m.funcs.getD f default).name.toList==(m.funcs.getD f default).name.toList)=true:=si
 have HS:=qd hself;clear hself;generalize hx:m.funcs.getD f default=x at *;have Hx:=qd hx;clear hx;generalize H f=hh at *;obtain⟨pa,pl,pc,ca,cl,cc⟩:=hh;dsimp only at *;unfold maxLen at hlen hnm hpm hcm;subst hpl hcl;have hfb':fb<w.heap.size:=oz
 have Hp:=qd hps;clear hps;by_cases hN:isNameB x.name=false
 ·have HX:wholeQ x (findZ m.funcs x.name) f=(8,0):=by simp[wholeQ,hN]
  have HY:=qd HX;clear HX;go_enter Tryz.func35,Tryz.ntmps35;go_wp2_with (go_at_call 70;refine(risName_any _ _ hnm).mono ?_;rintro e w1 ⟨rfl,rfl⟩)
  go_ret2;go_light;exact⟨ret_int2 HY.out.symm,bel⟩
 ·have hN1:isNameB x.name=true:=by simpa using hN
  clear hN;go_enter Tryz.func35,Tryz.ntmps35;go_wp2_with (go_at_call 70;refine(risName_any _ _ hnm).mono ?_;rintro e w1 ⟨rfl,rfl⟩)
  generalize hW0:World.alloc _ _=W0;have hb0:Below w.heap.size w W0:=by rw[<-hW0];exact bel
  have O1:=qd (show Own W0 w.heap.size [.slice ta tl tc,.slice (some ⟨fb,fo,none⟩) m.funcs.length fc] by rw[<-hW0];exact(Own.new _ _ _).alloc _);have O2:=qd (show Own W0 (w.heap.size+1) [.string x.name,.slice pa x.params.length pc,.int .i64 x.regs,.int .i64 x.words,.slice ca x.code.length cc] by rw[<-hW0];exact Own.new' _ _ _ _ si);clear hW0;have hz0:=O2.out.1;have Q:=qd (And.intro q0 (And.intro q1 (And.intro q2 (And.intro q3 q4))));clear q0 q1 q2 q3 q4;go_loopw [8] (fun i wr=>∃ j:Nat,j<=f/\i=.int .i64 j/\Below W0.heap.size W0 wr/\Hid (∀ i,i<j->((m.funcs.getD i default).name.toList==x.name.toList)=false)) (fun i _=>f-(intOf i).toNat)
  case atStart=>exact⟨0,Nat.zero_le _,rfl,Below.refl _ _,by intro j h;omega⟩
  case round =>
   obtain⟨j,hj,rfl,hbel,hn⟩:=hrel;have oa:=own2 (O1.out.below hbel);have ob:=own5 (O2.out.below hbel);have hz:=hbel.size;have hbw:Below w.heap.size w wr:=hb0.trans (Below.mono hbel oz);by_cases hlt:j<f
   ·have d2:(j:Int)<(f:Int):=oz
    have hwk:IntKind.i64.wrap ((j:Int)+1)=(j:Int)+1:=IntWalk.i64_in _ oz;have hwk0:IntKind.i64.wrap (j:Int)=(j:Int):=IntWalk.i64_in _ oz;have hjl:j<m.funcs.length:=oz
    obtain⟨⟨u0,_⟩,_⟩:=Hcs.out j hjl;have c0:=((bcell hbw).1 fb _ hfb').trans u0;have hfw:fb<wr.heap.size:=oz
    generalize hy:(m.funcs.getD j default).name=nj at *;have Hy:=qd hy;clear hy u0;go_wp2;refine wp_still 8 kr kr ?_;simp only[TD];repeat(refine WS_step (fun K hK=>?_);go_simp;refine hK _ ?_;clear hK K)
    refine WS_nil ?_;go_wp2
    ·have hZ:=findZ_some m.funcs x.name j hjl (by rw[Hy.out];assumption) hn.out;have HX:wholeQ x (findZ m.funcs x.name) f=(9,0):=by rw[hZ];simp[wholeQ,hN1];omega
     go_ret2;go_light;exact⟨ret_int2 HX.symm,bel⟩
    ·go_roundw
     case rel =>
      refine⟨j+1,oz,si,bel,qd ?_⟩;intro i hi;by_cases e:i=j
      ·subst e;rw[Hy.out];assumption
      ·exact hn.out i oz
     case measure=>go_light;exact ml
   ·have e:j=f:=oz
    subst e;have d2:¬(j:Int)<(j:Int):=oz
    have hZ:=findZ_some m.funcs x.name j hfl (by rw[Hx.out];exact HS.out) hn.out;have hk:¬findZ m.funcs x.name<(j:Int):=by rw[hZ];omega
    clear hZ;have HK:=qd hk;clear hk;obtain⟨wA,rfl⟩:∃ wo:World,wo=wr:=⟨_,rfl⟩
    go_wp2
    ·have HX:=wholeQ_many x (findZ m.funcs x.name) j hN1 (by have:=HK.out;omega) oz;go_ret2;go_light;exact⟨ret_int2 HX.symm,bel⟩
    ·have hp8:¬8<x.params.length:=oz
     go_loopw [9] (fun i wr=>∃ i':Nat,i'<=x.params.length/\i=.int .i64 i'/\Below wA.heap.size wA wr/\Hid (∀ i,i<i'->emptyB (x.params.getD i default)=false)) (fun i _=>x.params.length-(intOf i).toNat)
     case atStart=>exact⟨0,Nat.zero_le _,rfl,Below.refl _ _,by intro j h;omega⟩
     case round =>
      obtain⟨i,hi,rfl,hbel2,hn2⟩:=hrel;have hbel3:Below W0.heap.size W0 wr:=hbel.trans (Below.mono hbel2 oz);have oa:=own2 (O1.out.below hbel3);have ob:=own5 (O2.out.below hbel3);have hzz:=hbel3.size;have hbw2:Below w.heap.size w wr:=hb0.trans (Below.mono hbel3 oz);by_cases hlt:i<x.params.length
      ·have d2:(i:Int)<(x.params.length:Int):=oz
       have hwk:IntKind.i64.wrap ((i:Int)+1)=(i:Int)+1:=IntWalk.i64_in _ oz;have hwk0:IntKind.i64.wrap (i:Int)=(i:Int):=IntWalk.i64_in _ oz;obtain⟨rfl,hpb⟩:=hpa oz;obtain⟨s0,s1,_,_⟩:=Hp.out i hlt;have hpbw:pb<w.heap.size:=oz
       have hpbr:pb<wr.heap.size:=oz
       have c0:=((bcell hbw2).1 pb _ hpbw).trans s0;have c1:=((bcell hbw2).1 pb _ hpbw).trans s1;clear s0 s1;generalize hy:x.params.getD i default=sp at *;have Hy:=qd hy;clear hy;go_wp2;refine wp_still 12 kr kr ?_;simp only[TD];repeat(refine WS_step (fun K hK=>?_);go_simp;refine hK _ ?_;clear hK K)
       refine WS_nil ?_;go_wp2
       ·have HX:=wholeQ_empty x (findZ m.funcs x.name) j i hN1 (by have:=HK.out;omega) hp8 (first_some _ _ _ hlt (by rw[Hy.out];unfold emptyB;simpa using (by assumption:sp.hi<sp.lo)) hn2.out);go_ret2;go_light;exact⟨ret_int2 HX.symm,bel⟩
       ·go_roundw
        case rel =>
         refine⟨i+1,oz,si,bel,qd ?_⟩;intro i' hi';by_cases e:i'=i
         ·subst e;rw[Hy.out];unfold emptyB;simpa using (by assumption:sp.lo<=sp.hi)
         ·exact hn2.out i' oz
        case measure=>go_light;exact ml
      ·have HX:=wholeQ_tail x (findZ m.funcs x.name) j hN1 (by have:=HK.out;omega) hp8 (first_none _ _ (fun i hi=>hn2.out i oz));have HY:=qd HX;clear HX;go_wp2
       all_goals first|(go_ret2;go_light;refine⟨ret_int2 ?_,bel⟩;rw[HY.out];unfold wholeTail;grind)|skip
       go_ways
theorem kinds:∀ k:Nat,k<20->(k=13↔(rowAt k).n=3)/\(k=19↔(rowAt k).n=4)/\(decide ((k:Int)=14\/(k:Int)=15\/(k:Int)=16\/(k:Int)=17\/(k:Int)=18)=decide ((rowAt k).n=2)):=dc
theorem rspoilt_any (B:Nat) (v:Value) (m:PMod) (nm:ByteArray) (pa ca:Option Addr) (pl pc cl cc:Nat) (regs wd:Int) (x:PIns) (w:World) (hB:B<=w.heap.size) (hB0:0<B) (hm:ModAt B w v m) (hx:InsOk x) (h1:1<=regs) (h64:regs<=64) (hcl:cl<=maxLen) (hp8:∀ i,i<m.funcs.length->(m.funcs.getD i default).params.length<=8) :
 Calls Tryz.prog 36 #[v,.agg #[.string nm,.slice pa pl pc,.int .i64 regs,.int .i64 wd,.slice ca cl cc],InsVal x] w fun e w'=>e=.returned (.int .i64 (instrP m regs cl x))/\Below w.heap.size w w':=by
 obtain⟨ta,tl,tc,fa,fl,fc,rfl,ht,hf⟩:=hm;obtain⟨hfl',hlen,fb,fo,hfa,H,hcs⟩:=hf;subst hfl';have Hcs:=qd hcs;clear hcs;have Hp8:=qd hp8;clear hp8;obtain⟨op,a,b,c,n⟩:=x;obtain⟨o1,o2,o3,o4,o5⟩:=hx;unfold In64 at o1 o2 o3 o4 o5;unfold maxLen at hlen hcl;dsimp only at *;unfold InsVal instrP;dsimp only;by_cases hk:knownB op=true
 ·rw[if_neg (by simp[hk])];have hk':=hk;unfold knownB at hk';obtain⟨k,rfl⟩:=Int.eq_ofNat_of_zero_le (show 0<=op by grind);have hlt:k<20:=by grind
  obtain⟨k13,k19,kt⟩:=kinds k hlt;clear hk';have hRn:=rowN k;have HH:=qd (rhas_any (k:Int) · hk);unfold hasRP at HH;rw[Int.toNat_natCast]at *;generalize rowAt k=R at *;obtain⟨Rw,Rwt,Ra,Rb,Rc,Rn,Rwr⟩:=R;dsimp only at *;have HT:=qd (show ∀ w1:World,Calls Tryz.prog 74 #[.int .i64 k] w1 fun e w'=>e=.returned (.bool (decide (Rn=2)))/\w'=w1 from fun w1=>by rw[<-kt];exact rtarget_any _ _);have K13:=qd k13;clear k13;have K19:=qd k19;clear k19;clear kt;obtain⟨RES,hRES⟩:∃ r,r=rowP m regs cl ⟨Rw,Rwt,Ra,Rb,Rc,Rn,Rwr⟩ ⟨k,a,b,c,n⟩:=⟨_,rfl⟩
  rw[<-hRES];have HRES:=qd hRES;clear hRES;go_enter Tryz.func36,Tryz.ntmps36;go_wp2_with (go_at_call 71;refine(rknown_any _ _).mono ?_;rintro e w1 ⟨rfl,rfl⟩)
  generalize hW0:World.alloc _ _=W0;have hb0:Below w.heap.size w W0:=by rw[<-hW0];exact bel
  have O1:=qd (show Own W0 w.heap.size [.slice ta tl tc,.slice fa m.funcs.length fc] by rw[<-hW0];exact((Own.new _ _ _).alloc _).alloc _);have O2:=qd (show Own W0 (w.heap.size+1) [.string nm,.slice pa pl pc,.int .i64 regs,.int .i64 wd,.slice ca cl cc] by rw[<-hW0];exact(Own.new' _ _ _ _ si).alloc _);have O3:=qd (show Own W0 (w.heap.size+1+1) [.int .i64 k,.int .i64 a,.int .i64 b,.int .i64 c,.int .i64 n] by rw[<-hW0];exact Own.new' _ _ _ _ si);clear hW0;refine(HH.out W0).mono ?_;rintro e w2 ⟨rfl,hb2⟩;have P1:=qd (O1.out.below hb2);have P2:=qd (O2.out.below hb2);have P3:=qd (O3.out.below hb2);have p1:=own2 P1.out;have p2:=own5 P2.out;have p3:=own5 P3.out;have z2:=hb2.size;have hbw2:Below w.heap.size w w2:=hb0.trans (Below.mono hb2 hb0.size);go_wp2_with fail;generalize hW1:World.alloc _ _=W1;have R1:=qd (show Own W1 w.heap.size [.slice ta tl tc,.slice fa m.funcs.length fc] by rw[<-hW1];exact P1.out.alloc _);have R2:=qd (show Own W1 (w.heap.size+1) [.string nm,.slice pa pl pc,.int .i64 regs,.int .i64 wd,.slice ca cl cc] by rw[<-hW1];exact P2.out.alloc _);have R3:=qd (show Own W1 (w.heap.size+1+1) [.int .i64 k,.int .i64 a,.int .i64 b,.int .i64 c,.int .i64 n] by rw[<-hW1];exact P3.out.alloc _);have R4:=(show Own W1 w2.heap.size [.bool Ra,.bool Rb,.bool Rc,.bool (decide (Rn≠0))] by rw[<-hW1];have:=Own.new w2 [.bool Ra,.bool Rb,.bool Rc,.bool (decide (Rn≠0))] 134;simpa using this)
  have hbw1:Below w.heap.size w W1:=by rw[<-hW1];exact bel
  clear hW1 p1 p2 p3 P1 P2 P3 O1 O2 O3 hb0 hb2 hbw2 z2;have r1:=own2 R1.out;have r2:=own5 R2.out;have r3:=own5 R3.out;have r40:=R4.2.1 0 _ rfl;have r41:=R4.2.1 1 _ rfl;have r42:=R4.2.1 2 _ rfl;have r43:=R4.2.1 3 _ rfl;have r44:=R4.1;clear R4;by_cases hA:fieldP Ra a regs≠0
  ·have hres:RES=fieldP Ra a regs:=by rw[HRES.out];unfold rowP;rw[if_pos hA]
   have HY:=qd hres;clear hres;have dA:(fieldP Ra a regs != 0)=true:=by simpa using hA
   refine(rregister_any _ _ _ _).mono ?_;rintro e w1 ⟨rfl,rfl⟩;go_wp2;go_ret;go_light;exact⟨ret_int HY.out.symm,bel⟩
  ·have dA:(fieldP Ra a regs != 0)=false:=by simpa using hA
   refine(rregister_any _ _ _ _).mono ?_;rintro e w1 ⟨rfl,rfl⟩;go_wp2_with fail;by_cases hBB:fieldP Rb b regs≠0
   ·have hres:RES=fieldP Rb b regs:=by rw[HRES.out];unfold rowP;rw[if_neg hA,if_pos hBB]
    have HY:=qd hres;clear hres;have dB:(fieldP Rb b regs != 0)=true:=by simpa using hBB
    refine(rregister_any _ _ _ _).mono ?_;rintro e w1 ⟨rfl,rfl⟩;go_wp2;go_ret;go_light;exact⟨ret_int HY.out.symm,bel⟩
   ·have dB:(fieldP Rb b regs != 0)=false:=by simpa using hBB
    refine(rregister_any _ _ _ _).mono ?_;rintro e w1 ⟨rfl,rfl⟩;go_wp2_with fail;by_cases hCC:fieldP Rc c regs≠0
    ·have hres:RES=fieldP Rc c regs:=by rw[HRES.out];unfold rowP;rw[if_neg hA,if_neg hBB,if_pos hCC]
     have HY:=qd hres;clear hres;have dC:(fieldP Rc c regs != 0)=true:=by simpa using hCC
     refine(rregister_any _ _ _ _).mono ?_;rintro e w1 ⟨rfl,rfl⟩;go_wp2;go_ret;go_light;exact⟨ret_int HY.out.symm,bel⟩
    ·have hres:RES=kindP (fun _=>m.funcs.length) (paramsOf m) Rn regs cl b n:=by rw[HRES.out];unfold rowP;rw[if_neg hA,if_neg hBB,if_neg hCC]
     have HY:=qd hres;clear hres;have dC:(fieldP Rc c regs != 0)=false:=by simpa using hCC
     have HB9:=qd (show 0<=b/\b<=64 from by
      have hz:fieldP Rb b regs=0:=by simpa using hBB
      unfold fieldP at hz;cases Rb<;>grind)
     refine(rregister_any _ _ _ _).mono ?_;rintro e w1 ⟨rfl,rfl⟩;clear hA hBB hCC;generalize fieldP Ra a regs=FA at *;generalize fieldP Rb b regs=FB at *;generalize fieldP Rc c regs=FC at *;have hd1:=(bcell hbw1).1;rcases(show Rn=0\/Rn=1\/Rn=2\/Rn=3\/Rn=4 by omega)with rfl|rfl|rfl|rfl|rfl
     ·have r43':w1.cell? ⟨w2.heap.size,3,none⟩=some (.bool false):=by simpa using r43
      have d13:((k:Int)==13)=false:=by have:=K13.out;simp at this ⊢;omega
      have d19:((k:Int)==19)=false:=by have:=K19.out;simp at this ⊢;omega
      clear r43;go_wp2_with (go_at_call 74;refine(HT.out _).mono ?_;rintro e w1 ⟨rfl,rfl⟩)
      all_goals first
       | (go_ret;go_light;refine⟨ret_int ?_,bel⟩;rw[HY.out];simp[kindP]<;>grind)
       | (go_quiet (fail);go_wp2;go_ret;go_light;refine⟨ret_int ?_,bel⟩;rw[HY.out];simp[kindP]<;>grind)
     ·have r43':w1.cell? ⟨w2.heap.size,3,none⟩=some (.bool true):=by simpa using r43
      have d13:((k:Int)==13)=false:=by have:=K13.out;simp at this ⊢;omega
      have d19:((k:Int)==19)=false:=by have:=K19.out;simp at this ⊢;omega
      clear r43;go_wp2_with (go_at_call 74;refine(HT.out _).mono ?_;rintro e w1 ⟨rfl,rfl⟩)
      all_goals first
       | (go_ret;go_light;refine⟨ret_int ?_,bel⟩;rw[HY.out];simp[kindP]<;>grind)
       | (go_quiet (fail);go_wp2;go_ret;go_light;refine⟨ret_int ?_,bel⟩;rw[HY.out];simp[kindP]<;>grind)
     ·have r43':w1.cell? ⟨w2.heap.size,3,none⟩=some (.bool true):=by simpa using r43
      have d13:((k:Int)==13)=false:=by have:=K13.out;simp at this ⊢;omega
      have d19:((k:Int)==19)=false:=by have:=K19.out;simp at this ⊢;omega
      clear r43;go_wp2_with (go_at_call 74;refine(HT.out _).mono ?_;rintro e w1 ⟨rfl,rfl⟩)
      all_goals first
       | (go_ret;go_light;refine⟨ret_int ?_,bel⟩;rw[HY.out];simp[kindP]<;>grind)
       | (go_quiet (fail);go_wp2;go_ret;go_light;refine⟨ret_int ?_,bel⟩;rw[HY.out];simp[kindP]<;>grind)
     ·have r43':w1.cell? ⟨w2.heap.size,3,none⟩=some (.bool true):=by simpa using r43
      have d13:((k:Int)==13)=true:=by have:=K13.out;simp at this ⊢;omega
      have d19:((k:Int)==19)=false:=by have:=K19.out;simp at this ⊢;omega
      clear r43;go_wp2_with (go_at_call 74;refine(HT.out _).mono ?_;rintro e w1 ⟨rfl,rfl⟩)
      all_goals first
       | (go_ret;go_light;refine⟨ret_int ?_,bel⟩;rw[HY.out];simp[kindP]<;>grind)
       | (go_quiet (fail);go_wp2;go_ret;go_light;refine⟨ret_int ?_,bel⟩;rw[HY.out];simp[kindP]<;>grind)
     ·have r43':w1.cell? ⟨w2.heap.size,3,none⟩=some (.bool true):=by simpa using r43
      have d13:((k:Int)==13)=false:=by have:=K13.out;simp at this ⊢;omega
      have d19:((k:Int)==19)=true:=by have:=K19.out;simp at this ⊢;omega
      clear r43;by_cases hn0:n<0
      ·have d1:decide (n<0)=true:=by simpa using hn0
       go_wp2_with (go_at_call 74;refine(HT.out _).mono ?_;rintro e w1 ⟨rfl,rfl⟩)
       go_quiet (fail)
       go_wp2
       all_goals(go_ret;go_light;refine⟨ret_int ?_,bel⟩;rw[HY.out];simp[kindP]<;>grind)
      ·obtain⟨N,rfl⟩:=Int.eq_ofNat_of_zero_le (show 0<=n by omega);have d1:decide ((N:Int)<0)=false:=by simp<;>omega
       by_cases hN:N<m.funcs.length
       ·obtain⟨rfl,hfb⟩:=hfa oz;obtain⟨⟨_,q,_⟩,_,⟨hpl,hpm,_⟩,_⟩:=Hcs.out N hN;generalize H N=hh at *;obtain⟨pa',pl',pc',_,_,_⟩:=hh;dsimp only at q hpl hpm;have hP:paramsOf m N=pl':=by unfold paramsOf;rw[Int.toNat_natCast,hpl]
        have h8:=Hp8.out N hN;rw[hpl]at h8;have hb9:=HB9.out;have HP:=qd hP;clear hP hpl;unfold maxLen at hpm;have hfb2:fb<w.heap.size/\fb<w1.heap.size:=oz
        have d2:decide ((m.funcs.length:Int)<=N)=false:=by simp<;>omega
        have hwr:IntKind.i64.wrap (b+(pl':Int))=b+(pl':Int):=IntWalk.i64_in _ oz;go_wp2_with (go_at_call 74;refine(HT.out _).mono ?_;rintro e w1 ⟨rfl,rfl⟩)
        go_quiet (fail)
        clear hwr;go_wp2
        all_goals(go_ret;go_light;refine⟨ret_int ?_,bel⟩;rw[HY.out,kindP_call _ _ _ _ _ _ (by omega) (by omega),HP.out];first|rw[if_pos (by omega)]|rw[if_neg (by omega)])
       ·have d2:decide ((m.funcs.length:Int)<=N)=true:=by simp<;>omega
        go_wp2_with (go_at_call 74;refine(HT.out _).mono ?_;rintro e w1 ⟨rfl,rfl⟩)
        go_quiet (fail)
        go_wp2
        all_goals(go_ret;go_light;refine⟨ret_int ?_,bel⟩;rw[HY.out];simp[kindP]<;>grind)
 ·have hk0:knownB op=false:=by simpa using hk
  rw[if_pos hk0];clear hk;go_enter Tryz.func36,Tryz.ntmps36;go_wp2_with (go_at_call 71;refine(rknown_any _ _).mono ?_;rintro e w1 ⟨rfl,rfl⟩)
  go_ret;go_light;exact⟨rfl,bel⟩
end Go.Proofs.YteebpnbdihcfmaaGreatDoor
