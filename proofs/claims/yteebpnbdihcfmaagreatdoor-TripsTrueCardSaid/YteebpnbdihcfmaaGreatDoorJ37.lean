/- R9; bounds; trips -/
import Derived.Test.YteebpnbdihcfmaaGreatDoorJ36
import Derived.Test.YteebpnbdihcfmaaGreatDoorJ01
import Derived.IntWalk
import Derived.Test.YteebpnbdihcfmaaGreatDoorJ27
import Derived.Test.YteebpnbdihcfmaaGreatDoorJ06
import Derived.Test.YteebpnbdihcfmaaGreatDoorJ13
set_option linter.unusedVariables false
set_option linter.unusedSimpArgs false
set_option maxRecDepth 100000
set_option maxHeartbeats 20000000
namespace Go.Proofs.YteebpnbdihcfmaaGreatDoor
open Go.RowKit
theorem rmay_any (B:Nat) (v:Value) (m:PMod) (w:World) (hB:B<=w.heap.size) (hB0:0<B) (hm:ModAt B w v m) :
 Calls Tryz.prog 11 #[v] w fun e w'=>e=.returned (.agg #[.int .i64 (mayP m).e,.int .i64 (mayP m).f,.int .i64 (mayP m).at_])/\Below w.heap.size w w':=by
 have hm0:=hm;obtain⟨ta,tl,tc,fa,fl,fc,rfl,⟨htl,htm,tb,tO,hta,hts⟩,hf⟩:=hm;have hf0:=hf;obtain⟨hfl',hlen,fb,fo,hfa,H,hcs⟩:=hf;subst hfl' htl;have Hcs:=qd hcs;clear hcs;have Hts:=qd hts;clear hts;unfold maxLen at hlen htm;by_cases h16:16<m.thr.length
 ·have HX:mayP m=⟨3,0,16⟩:=by simp[mayP,h16]
  have HY:=qd HX;clear HX;go_enter Tryz.func11,Tryz.ntmps11;go_wp2;refine bodyPost_ret (v:=.agg #[.int .i64 3,.int .i64 0,.int .i64 16]) (by simp[results,Tryz.results11,go_sem]) rfl ⟨?_,?_⟩
  ·rw[HY.out]
  ·exact bel
 ·have d16:decide ((16:Int)<(m.thr.length:Int))=false:=by simp<;>omega
  go_enter Tryz.func11,Tryz.ntmps11;go_wp2;generalize hW0:World.alloc _ _=W0;have hb0:Below w.heap.size w W0:=by rw[<-hW0];exact bel
  have om:Own W0 w.heap.size [.slice ta m.thr.length tc,.slice fa m.funcs.length fc]:=by rw[<-hW0];exact(Own.new _ _ _).alloc _
  have ore:Own W0 (w.heap.size+1) [.int .i64 0,.int .i64 0,.int .i64 0]:=by rw[<-hW0];exact Own.new' _ _ _ _ si
  clear hW0;go_loopw [3] (fun i wr=>∃ p:Nat,i=.int .i64 ((p:Int)+1)/\(p+1<=m.thr.length\/p=0)/\Below W0.heap.size W0 wr/\Hid (∀ i,i<p+1->thrBad m.thr i=false)) (fun i _=>m.thr.length-(intOf i).toNat)
  case atStart =>
   refine⟨0,rfl,.inr rfl,Below.refl _ _,?_⟩;intro i h;obtain rfl:i=0:=oz
   simp[thrBad]
  case round =>
   obtain⟨p,rfl,hp,hbel,hn⟩:=hrel;have om1:=own2 (om.below hbel);have or1:=own3 (ore.below hbel);have ht16:m.thr.length<=16:=oz
   have hz0:W0.heap.size<=wr.heap.size:=hbel.size;have hzw:w.heap.size<=W0.heap.size:=hb0.size;by_cases hlt:p+1<m.thr.length
   ·obtain⟨rfl,htb⟩:=hta oz;have sm:Same B w wr:=(Same.of hb0 hB).trans (Same.of hbel oz);have t0:=(sm tb (tO+p) htb).trans (Hts.out p oz).1;have t1:=(sm tb (tO+(p+1)) htb).trans (Hts.out (p+1) hlt).1;have hwr:IntKind.i64.wrap ((p:Int)+1-1)=(p:Int):=by rw[IntWalk.i64_in _ (by omega)];omega
    have hi1:0<=(p:Int)+1:=oz
    have hi2:((p:Int)+1).toNat=p+1:=oz
    have hi3:(p:Int)+1<(m.thr.length:Int):=oz
    have hi4:(p:Int)<(m.thr.length:Int):=oz
    go_wp2
    go_quiet (fail)
    go_wp2
    ·have HX:mayP m=⟨66,0,(p:Int)+1⟩:=by
      have HT:=firstI_some m.thr.length (thrBad m.thr) (p+1) hlt (by go_light;simp only[thrBad];grind) hn.out;unfold mayP;rw[if_neg (by omega),HT];rfl
     have HY:=qd HX;clear HX;refine bodyPost_ret (v:=.agg #[.int .i64 66,.int .i64 0,.int .i64 ((p:Int)+1)]) ?_ rfl ⟨?_,?_⟩
     ·have r:=set3 ((ore.below hbel).drewN nq) (.int .i64 66) (.int .i64 0) (.int .i64 ((p:Int)+1));simp[results,Tryz.results11,go_sem,r]
     ·rw[HY.out]
     ·exact bel
    ·go_roundw
     case rel =>
      go_light;refine⟨p+1,by go_num,oz,bel,?_⟩;intro i hi;by_cases e:i=p+1
      ·subst e;simp only[thrBad];grind
      ·exact hn.out i oz
     case measure=>go_light;simp[intOf];omega
   ·have HT:=firstI_none m.thr.length (thrBad m.thr) (fun i hi=>hn.out i oz);by_cases h32:32<m.funcs.length
    ·have HX:mayP m=⟨3,32,0⟩:=by unfold mayP;rw[if_neg (by omega),HT,if_pos h32]
     have HY:=qd HX;clear HX HT;go_wp2;refine bodyPost_ret (v:=.agg #[.int .i64 3,.int .i64 32,.int .i64 0]) ?_ rfl ⟨?_,?_⟩
     ·have r:=set3 (ore.below hbel) (.int .i64 3) (.int .i64 32) (.int .i64 0);simp[results,Tryz.results11,go_sem,r]
     ·rw[HY.out]
     ·exact bel
    ·have HX:mayP m=mayWholes m:=by unfold mayP;rw[if_neg (by omega),HT];simp only[];rw[if_neg h32]
     have HY:=qd HX;clear HX HT;have d32:decide ((32:Int)<(m.funcs.length:Int))=false:=by simp<;>omega
     go_wp2;obtain⟨wA,rfl⟩:∃ wo:World,wo=wr:=⟨_,rfl⟩
     go_loopw [4] (fun i wx=>∃ f:Nat,i=.int .i64 (f:Int)/\f<=m.funcs.length/\Below wA.heap.size wA wx/\Hid (∀ i,i<f->decide ((wholeP m i).1≠0)=false)) (fun i _=>m.funcs.length-(intOf i).toNat)
     case atStart=>exact⟨0,rfl,Nat.zero_le _,Below.refl _ _,by intro i h;omega⟩
     case round =>
      obtain⟨f,rfl,hf1,hbel2,hn2⟩:=hrel;have om2:=own2 ((om.below hbel).below hbel2);have or2:=own3 ((ore.below hbel).below hbel2);have hz2:wA.heap.size<=wr.heap.size:=hbel2.size;have sm:Same B w wr:=((Same.of hb0 hB).trans (Same.of hbel oz)).trans (Same.of hbel2 oz);clear om1 or1;by_cases hlt:f<m.funcs.length
      ·go_wp2_with (go_at_call 35;refine(rwrong_any B _ m f _ ?_ (hm0.same sm) hlt).mono ?_)
       ·exact(by first|omega|(simp<;>omega)|(simp at * <;> omega))
       rintro e w1 ⟨rfl,hb1⟩;have om3:=own2 (((om.below hbel).below hbel2).below hb1);have or3:=own3 (((ore.below hbel).below hbel2).below hb1);clear om2 or2;go_wp2
       ·have HX:mayWholes m=⟨(wholeP m f).1,f,(wholeP m f).2⟩:=by
         have HT:=firstI_some m.funcs.length (fun f=>decide ((wholeP m f).1≠0)) f hlt (by go_light;grind) hn2.out;unfold mayWholes;rw[HT]
        have HZ:=qd HX;clear HX;refine bodyPost_ret (v:=.agg #[.int .i64 (wholeP m f).1,.int .i64 f,.int .i64 (wholeP m f).2]) ?_ rfl ⟨?_,?_⟩
        ·have r:=set3 (((ore.below hbel).below hbel2).below hb1) (.int .i64 (wholeP m f).1) (.int .i64 f) (.int .i64 (wholeP m f).2);simp[results,Tryz.results11,go_sem,r]
        ·rw[HY.out,HZ.out]
        ·exact bel
       ·go_roundw
        case rel =>
         go_light;refine⟨f+1,by go_num,oz,bel,?_⟩;intro i hi;by_cases e:i=f
         ·subst e;grind
         ·exact hn2.out i oz
        case measure=>go_light;simp[intOf];omega
      ·have HT:=firstI_none m.funcs.length (fun f=>decide ((wholeP m f).1≠0)) (fun i hi=>hn2.out i oz);have HX:mayWholes m=mayFuncs m:=by unfold mayWholes;rw[HT]
       have HZ:=qd HX;clear HX HT;have hok:Hid (∀ i,i<m.funcs.length->(wholeP m i).1=0):=by intro i hi;have:=hn2.out i oz;simpa using this
       go_wp2;obtain⟨wB,rfl⟩:∃ wo:World,wo=wr:=⟨_,rfl⟩
       go_loopw [7] (fun i wx=>∃ f:Nat,i=.int .i64 (f:Int)/\f<=m.funcs.length/\Below wB.heap.size wB wx/\Hid (∀ i,i<f->decide ((bodyP m (m.funcs.getD i default)).1≠0)=false)) (fun i _=>m.funcs.length-(intOf i).toNat)
       case atStart=>exact⟨0,rfl,Nat.zero_le _,Below.refl _ _,by intro i h;omega⟩
       case round =>
        obtain⟨f,rfl,hf1,hbel3,hn3⟩:=hrel;have om3:=own2 (((om.below hbel).below hbel2).below hbel3);have or3:=own3 (((ore.below hbel).below hbel2).below hbel3);have hz3:wB.heap.size<=wr.heap.size:=hbel3.size;have sm3:Same B w wr:=sm.trans (Same.of hbel3 oz);clear om2 or2;by_cases hlt2:f<m.funcs.length
        ·obtain⟨rfl,hfb⟩:=hfa oz;obtain⟨hfcells,hfok⟩:=Hcs.out f hlt2;obtain⟨q0,q1,q2,q3,q4⟩:=hfcells.same sm3 hfb;have hwok:=wholeP_ok (hok.out f hlt2);obtain⟨_,_,_,hr1,hr2,_,_,_,hc1,hc2,_⟩:=hwok;generalize hxf:m.funcs.getD f default=x at *;have Hxf:=qd hxf;clear hxf;generalize H f=hh at *;obtain⟨pa,pl,pc,ca,cl,cc⟩:=hh;obtain⟨_,_,⟨hcl,hcm,cb,co,hca,hins⟩,_,_⟩:=hfok;dsimp only at *;subst hcl;obtain⟨rfl,hcb⟩:=hca oz;have Hins:=qd hins;clear hins;unfold maxLen at hcm;go_wp2;obtain⟨W3,rfl⟩:∃ wo:World,wo=wr:=⟨_,rfl⟩
         have omC:=((om.below hbel).below hbel2).below hbel3;have orC:=((ore.below hbel).below hbel2).below hbel3;have smC:Same B w W3:=sm3;have qC:=And.intro q0 (And.intro q1 (And.intro q2 (And.intro q3 q4)));have QC:=qd qC;clear qC q0 q1 q2 q3 q4;clear om3 or3;go_loopw [9] (fun i wx=>∃ j:Nat,i=.int .i64 (j:Int)/\j<=x.code.length/\Below W3.heap.size W3 wx/\Hid (∀ i,i<j->decide (bodyI m x i≠0)=false)) (fun i _=>x.code.length-(intOf i).toNat)
         case atStart=>exact⟨0,rfl,Nat.zero_le _,Below.refl _ _,by intro i h;omega⟩
         case round =>
          obtain⟨j,rfl,hj1,hbel4,hn4⟩:=hrel;have om4:=own2 (omC.below hbel4);have or4:=own3 (orC.below hbel4);have hz4:W3.heap.size<=wr.heap.size:=hbel4.size;have sm4:Same B w wr:=smC.trans (Same.of hbel4 oz);by_cases hlt3:j<x.code.length
          ·obtain⟨hi0,hiok⟩:=Hins.out j hlt3;obtain⟨i0,i1,i2,i3,i4⟩:=hi0.same sm4 hcb;generalize hyj:x.code.getD j default=y at *;have Hyj:=qd hyj;clear hyj;obtain⟨q0,q1,q2,q3,q4⟩:=QC.out;have hcW:=(bcell hbel4).1;have u0:=(hcW fb _ oz).trans q0;have u1:=(hcW fb _ oz).trans q1;have u2:=(hcW fb _ oz).trans q2;have u3:=(hcW fb _ oz).trans q3;have u4:=(hcW fb _ oz).trans q4;clear q0 q1 q2 q3 q4 hcW;have hfbr:fb<wr.heap.size/\cb<wr.heap.size:=oz
           have hj3:(j:Int)<(x.code.length:Int):=oz
           have hf3:(f:Int)<(m.funcs.length:Int):=oz
           go_wp2_with fail;refine wp_still 10 kr kr ?_;simp only[TD];repeat(refine WS_step (fun K hK=>?_);go_simp;refine hK _ ?_;clear hK K)
           refine WS_nil ?_;go_wp2_with (go_at_call 36;refine(rspoilt_any B _ m _ _ _ _ _ _ _ _ _ y _ ?_ hB0 (hm0.same ?_) hiok hr1 hr2 ?_ ?_).mono ?_)
           ·exact(by first|omega|(simp<;>omega)|(simp at * <;> omega))
           ·exact sm4.drew
           ·unfold maxLen;omega
           ·intro i hi;exact(wholeP_ok (hok.out i hi)).2.2.1
           rintro e w2 ⟨rfl,hb2⟩;have e0:Below wr.heap.size wr wr.drew:=bel;have om5:=own2 (((omC.below hbel4).below e0).below hb2);have or5:=own3 (((orC.below hbel4).below e0).below hb2);have hB2:wr.heap.size<=w2.heap.size:=hb2.size;clear om4 or4;have hI:instrP m x.regs x.code.length y=bodyI m x j:=by unfold bodyI;rw[Hyj.out]
           rw[hI];have HI:=qd hI;clear hI;go_wp2
           ·have HX:bodyP m x=(bodyI m x j,(j:Int)):=by
             have HT:=firstI_some x.code.length (fun i=>decide (bodyI m x i≠0)) j hlt3 (by go_light;grind) hn4.out;unfold bodyP;rw[HT]
            have HX2:mayFuncs m=⟨bodyI m x j,f,j⟩:=by
             have HT:=firstI_some m.funcs.length (fun f=>decide ((bodyP m (m.funcs.getD f default)).1≠0)) f hlt2 (by go_light;simp only[Hxf.out,HX];grind) hn3.out;unfold mayFuncs;rw[HT];simp only[Hxf.out,HX]
            have HZ2:=qd HX2;clear HX HX2;refine bodyPost_ret (v:=.agg #[.int .i64 (bodyI m x j),.int .i64 f,.int .i64 j]) ?_ rfl ⟨?_,?_⟩
            ·have r:=set3 (((orC.below hbel4).below e0).below hb2) (.int .i64 (bodyI m x j)) (.int .i64 f) (.int .i64 j);simp[results,Tryz.results11,go_sem,r]
            ·rw[HY.out,HZ.out,HZ2.out]
            ·exact bel
           ·go_roundw
            case rel =>
             go_light;refine⟨j+1,by go_num,oz,bel,?_⟩;intro i hi;by_cases e:i=j
             ·subst e;grind
             ·exact hn4.out i oz
            case measure=>go_light;simp[intOf];omega
          ·have HT:=firstI_none x.code.length (fun i=>decide (bodyI m x i≠0)) (fun i hi=>hn4.out i oz);have HX:bodyP m x=if lastOp x=0\/lastOp x=14\/lastOp x=18 then(0,0)else(64,(x.code.length:Int)-1):=by unfold bodyP;rw[HT]
           have HB:=qd HX;clear HX HT;have hl1:x.code.length-1<x.code.length:=oz
           obtain⟨hi0,hiok⟩:=Hins.out (x.code.length-1) hl1;obtain⟨i0,_,_,_,_⟩:=hi0.same sm4 hcb;have hlo:(x.code.getD (x.code.length-1) default).op=lastOp x:=rfl;rw[hlo]at i0;go_wp2
           all_goals first
            | (go_roundw
               case rel =>
                go_light;refine⟨f+1,by go_num,oz,bel,?_⟩;intro i hi;by_cases e:i=f
                ·subst e;simp only[Hxf.out,HB.out];rw[if_pos (by grind)];decide
                ·exact hn3.out i oz
               case measure=>go_light;simp[intOf];omega)
            | (have HX:bodyP m x=(64,(x.code.length:Int)-1):=by rw[HB.out,if_neg (by go_light;grind)]
               have HX2:mayFuncs m=⟨64,f,(x.code.length:Int)-1⟩:=by
                have HT:=firstI_some m.funcs.length (fun f=>decide ((bodyP m (m.funcs.getD f default)).1≠0)) f hlt2 (by simp only[Hxf.out,HX];decide) hn3.out;unfold mayFuncs;rw[HT];simp only[Hxf.out,HX]
               have HZ2:=qd HX2;clear HX HX2;refine bodyPost_ret (v:=.agg #[.int .i64 64,.int .i64 f,.int .i64 ((x.code.length:Int)-1)]) ?_ rfl ⟨?_,?_⟩
               ·have r:=set3 (orC.below hbel4) (.int .i64 64) (.int .i64 f) (.int .i64 ((x.code.length:Int)-1));simp[results,Tryz.results11,go_sem,r]
               ·rw[HY.out,HZ.out,HZ2.out]
               ·exact bel)
        ·have HT:=firstI_none m.funcs.length (fun f=>decide ((bodyP m (m.funcs.getD f default)).1≠0)) (fun i hi=>hn3.out i oz);have HX:mayFuncs m=⟨0,0,0⟩:=by unfold mayFuncs;rw[HT]
         have HZ2:=qd HX;clear HX HT;go_wp2;refine bodyPost_ret (v:=.agg #[.int .i64 0,.int .i64 0,.int .i64 0]) ?_ rfl ⟨?_,?_⟩
         ·have r:=set3 (((ore.below hbel).below hbel2).below hbel3) (.int .i64 0) (.int .i64 0) (.int .i64 0);simp[results,Tryz.results11,go_sem,r]
         ·rw[HY.out,HZ.out,HZ2.out]
         ·exact bel
section
attribute [local go_sem] Oper.semAt_some
theorem run_bad (B:Nat) (m:PMod) (fn:Int) (ta fa:Option Addr) (tl tc fl fc:Nat) (w:World) (hB:B<=w.heap.size) (hB0:0<B) (hmo:ModAt B w (.agg #[.slice ta tl tc,.slice fa fl fc]) m) (hr:RowsAt w) (he:(mayP m).e≠0) :
 Calls Tryz.prog 16 #[.agg #[.slice ta tl tc,.slice fa fl fc],.int .i64 fn] w fun e w'=>e=.returned (.tuple #[.agg #[.slice none 0 0,.slice none 0 0],.int .i64 (mayP m).e])/\Below w.heap.size w w':=by
 have HM:=qd hmo;have HRW:=qd hr;have HMay:=qd (fun w' hw hr'=>may_any B (.agg #[.slice ta tl tc,.slice fa fl fc]) m w' hw hB0 hr');obtain⟨fe,hfe⟩:∃ q,(mayP m).e=q:=⟨_,rfl⟩
 rw[hfe]at he HMay ⊢;have hq:(fe != 0)=true:=by simpa using he
 have HFE:=qd hfe;clear hfe;obtain⟨_,_,_,_,_,_,hv,⟨htl,htm,-⟩,hfs⟩:=hmo;cases hv;obtain⟨hfl1,hfl2,-⟩:=hfs;clear hr;refine(callsIn_wide (n:=3)).1 ?_;refine callsIn_of_wp_marks Tryz.func16 rfl trivial ?_ rfl;refine wpIn_wide.2 ?_;simp only[Tryz.ntmps16,List.size_toArray,List.length_cons,List.length_nil,Nat.reduceAdd,Nat.reduceSub,Array.replicate_succ,Array.replicate_zero,List.push_toArray,List.append_toArray,List.nil_append,List.cons_append];go_wp2;generalize hW0:World.alloc _ _=W0;have hb0:Below w.heap.size w W0:=by rw[<-hW0];exact bel
 have OM:Own W0 w.heap.size [.slice ta tl tc,.slice fa fl fc]:=by rw[<-hW0];exact(Own.new _ _ _).alloc _
 have OA:Own W0 (w.heap.size+1) [.slice none 0 0,.slice none 0 0]:=by rw[<-hW0];exact Own.new' _ _ _ _ si
 have hz0:w.heap.size+2=W0.heap.size:=by rw[<-hW0];simp
 have hz0':w.heap.size+2<=W0.heap.size:=oz
 have m2:=own2 OM;have HC:=qd (HMay.out W0 oz (HM.out.same (Same.of hb0 hB)) (HRW.out.same (Same.of hb0 lr) HRW.out.1 hb0.size));clear hW0 HMay hz0;go_step3;have hfd:∀ (x y:Int) (w:World),(Instr.field 37 (.agg #[.int .i64 fe,.int .i64 x,.int .i64 y]) 0).run Tryz.prog w=.ok (.int .i64 fe) w:=by
  intro x y w
  first|rfl|(simp[Instr.field,go_sem])
 go_upto_region 3 with(first|(go_at_call 44;refine HC.out.mono ?_;rintro e w1 ⟨rfl,hb1⟩;have m2b:=own2 (OM.below hb1);have OA1:=OA.below hb1;clear m2)|fail)
 have hbe:Below w.heap.size w w1:=hb0.trans (hb1.mono oz);have hz1:=hb1.size;generalize hW2:World.alloc _ _=W2;obtain⟨hb2,OF2,hz2⟩:=own_one hW2;have OA2:=OA1.below hb2;have a2:=own2 OA2;have sa:=set2 OA2;have q5:=own3 OF2;have hbw2:=hbe.trans (hb2.mono hbe.size);have OA9:Own ((W2.setCell ⟨w.heap.size+1,0,none⟩ (.slice none 0 0)).setCell ⟨w.heap.size+1,1,none⟩ (.slice none 0 0)) (w.heap.size+1) [.slice none 0 0,.slice none 0 0]:=own_set2 OA2;have hb9:Below w.heap.size w ((W2.setCell ⟨w.heap.size+1,0,none⟩ (.slice none 0 0)).setCell ⟨w.heap.size+1,1,none⟩ (.slice none 0 0)):=(hbw2.setCell (p:=⟨w.heap.size+1,0,none⟩) (by show w.heap.size<=w.heap.size+1;omega) _).setCell (p:=⟨w.heap.size+1,1,none⟩) (by show w.heap.size<=w.heap.size+1;omega) _;have hS9:((W2.setCell ⟨w.heap.size+1,0,none⟩ (.slice none 0 0)).setCell ⟨w.heap.size+1,1,none⟩ (.slice none 0 0)).cell? ⟨w1.heap.size,0,none⟩=some (.int .i64 fe):=(own3 ((OF2.setOther (p:=⟨w.heap.size+1,0,none⟩) _ (by show w.heap.size+1≠w1.heap.size;omega)).setOther (p:=⟨w.heap.size+1,1,none⟩) _ (by show w.heap.size+1≠w1.heap.size;omega))).2.1;have HSS:Hid (∀ w':World,w'.cell? ⟨w1.heap.size,0,none⟩=some (.int .i64 fe)->w'.cell? ⟨w1.heap.size,0,none⟩=some (.int .i64 fe)):=qd (fun _ h=>h);clear hW2 HC OM OA OA1 OF2 m2b HM HRW;generalize hA0:(Act.mk _ _:Act)=a0;have Ee:a0.eval (.tmp 4)=.pointer (some ⟨w.heap.size+1,0,none⟩)/\a0.eval (.tmp 6)=.pointer (some ⟨w1.heap.size,0,none⟩)/\a0.tmps.size=143:=by rw[<-hA0];exact⟨rfl,rfl,rfl⟩
 refine region_held_plain (fun w'=>w'.cell? ⟨w1.heap.size,0,none⟩=some (.int .i64 fe)) kr (q5.2.1) ?_;intro K0 hK0 hHeld
 try dsimp only at hHeld
 refine wtk 0 rfl ?_;try simp only[GE]
 refine wtk 1 rfl ?_;try simp only[GE]
 refine wtk 2 rfl ?_;try simp only[GE]
 generalize hA1:(Act.put _ _ _:Act)=a1;replace Ee:a1.eval (.tmp 4)=.pointer (some ⟨w.heap.size+1,0,none⟩)/\a1.eval (.tmp 21)=.agg #[.slice none 0 0,.slice none 0 0]/\a1.eval (.tmp 23)=.int .i64 fe/\a1.tmps.size=143:=ee1;refine readyH1 3 ?_ kr ?_ ?_;rotate_left
 ·exact rfl
 intro K hK;simp only[GE];refine sts ?_;have h9:(((W2.drew).setCell ⟨w.heap.size+1,0,none⟩ (.slice none 0 0)).setCell ⟨w.heap.size+1,1,none⟩ (.slice none 0 0)).cell? ⟨w1.heap.size,0,none⟩=some (.int .i64 fe):=hS9;refine hK.out _ _ (hS9) fun hHeld=>?_;clear hK K;try simp only[GE]
 refine wtk 4 rfl ?_;try simp only[GE]
 refine anyH_done kr ?_;refine hK0.out _ _ ?_;subst hA1;subst hA0;clear Ee;simp only[GE,Act.put,SU];go_wp2
 try rw[Exit.noGoto_ret]
 have a9:=own2 OA9;refine⟨.tuple #[.agg #[.slice none 0 0,.slice none 0 0],.int .i64 fe],by simp[results,Tryz.results16,go_sem,a9.2.1,a9.2.2.1],rfl,?_⟩
 first|exact hb9|exact hb9.drew
end
section
attribute [local go_sem] Oper.semAt_some
theorem trips_bad (B:Nat) (m:PMod) (fn:Int) (ta fa:Option Addr) (tl tc fl fc:Nat) (w:World) (hB:B<=w.heap.size) (hB0:0<B) (hmo:ModAt B w (.agg #[.slice ta tl tc,.slice fa fl fc]) m) (hr:RowsAt w) (he:(mayP m).e≠0) :
 Calls Tryz.prog 6 #[.agg #[.slice ta tl tc,.slice fa fl fc],.int .i64 fn] w fun e w'=>e=.returned (.tuple #[.slice none 0 0,.int .i64 (mayP m).e])/\Below w.heap.size w w':=by
 have HM:=qd hmo;have HRW:=qd hr;have HRun:=qd (fun w' hB hmo hr=>run_bad B m fn ta fa tl tc fl fc w' hB hB0 hmo hr he);obtain⟨fe,hfe⟩:∃ q,(mayP m).e=q:=⟨_,rfl⟩
 rw[hfe]at he HRun ⊢;have hq:(fe != 0)=true:=by simpa using he
 clear hmo hr hfe;refine(callsIn_wide (n:=3)).1 ?_;refine callsIn_of_wp_marks Tryz.func6 rfl trivial ?_ rfl;refine wpIn_wide.2 ?_;simp only[Tryz.ntmps6,List.size_toArray,List.length_cons,List.length_nil,Nat.reduceAdd,Nat.reduceSub,Array.replicate_succ,Array.replicate_zero,List.push_toArray,List.append_toArray,List.nil_append,List.cons_append];go_upto_region 1 with(fail)
 generalize hW0:World.alloc _ _=W0;have hb0:Below w.heap.size w W0:=by rw[<-hW0];exact bel
 have OM:Own W0 w.heap.size [.slice ta tl tc,.slice fa fl fc]:=by rw[<-hW0];exact(Own.new _ _ _).alloc _
 have OI:Own W0 (w.heap.size+1) [.int .i64 fn]:=by rw[<-hW0];exact Own.new' _ _ _ _ si
 have hz0:w.heap.size+2=W0.heap.size:=by rw[<-hW0];simp
 have hz0':w.heap.size+2<=W0.heap.size:=oz
 have m2:=own2 OM;have i1:=own1 OI;have HC:=qd (HRun.out W0 oz (HM.out.same (Same.of hb0 hB)) (HRW.out.same (Same.of hb0 lr) HRW.out.1 hb0.size));clear hW0 HRun hz0;go_wp2_with (first|(go_at_call 16;refine HC.out.mono ?_;rintro e w1 ⟨rfl,hb1⟩)|fail)
 try rw[Exit.noGoto_ret]
 have hbe:Below w.heap.size w w1:=hb0.trans (hb1.mono oz);refine⟨.tuple #[.slice none 0 0,.int .i64 fe],by simp[results,Tryz.results6,go_sem],rfl,?_⟩
 first|exact hbe.alloc hbe.size _|exact(hbe.alloc hbe.size _).drew|exact hbe
end
end Go.Proofs.YteebpnbdihcfmaaGreatDoor
