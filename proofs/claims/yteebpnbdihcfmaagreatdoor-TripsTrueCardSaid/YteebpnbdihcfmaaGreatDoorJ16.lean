/- Package span; Package span; Package bounds -/
import Derived.Test.YteebpnbdihcfmaaGreatDoorJ02
import Derived.Test.YteebpnbdihcfmaaGreatDoorJ13
import Derived.Test.YteebpnbdihcfmaaGreatDoorJ14
import Derived.Test.YteebpnbdihcfmaaGreatDoorJ15
import Derived.Test.YteebpnbdihcfmaaGreatDoorJ01
set_option linter.unusedVariables false
set_option linter.unusedSimpArgs false
set_option maxRecDepth 100000
set_option maxHeartbeats 20000000
namespace Go.Proofs.YteebpnbdihcfmaaGreatDoor
open Go.RowKit
theorem doMul_pt (a b:PSpan) (h:pointB a b=true):doMul a b=⟨wrap64 (a.lo*b.lo),wrap64 (a.lo*b.lo)⟩:=by unfold doMul;rw[if_pos h]
theorem doMul_else (a b:PSpan) (h:pointB a b=false):doMul a b=hullP ((pairs4 a b).map fun p=>(timesP p.1 p.2).1) ((pairs4 a b).all fun p=>(timesP p.1 p.2).2):=by unfold doMul;rw[if_neg (by simp[h])]
/-- the products of the first j pairs, and whether all are numbers -/
def mulTo (a b:PSpan) (j:Nat):List Int:=((pairs4 a b).take j).map fun p=>(timesP p.1 p.2).1
def mulAll (a b:PSpan) (j:Nat):Bool:=((pairs4 a b).take j).all fun p=>(timesP p.1 p.2).2
theorem mulTo_len (a b:PSpan) (j:Nat) (hj:j<=4):(mulTo a b j).length=j:=by simp[mulTo,pairs4];omega
theorem mulTo_at (a b:PSpan) (j:Nat) (hj:j<4):mulTo a b (j+1)=mulTo a b j++[(timesP ((pairs4 a b).getD j (0,0)).1 ((pairs4 a b).getD j (0,0)).2).1]:=by
 rcases(show j=0\/j=1\/j=2\/j=3 by omega)with rfl|rfl|rfl|rfl<;>simp[mulTo,pairs4]
theorem mulAll_at (a b:PSpan) (j:Nat) (hj:j<4):mulAll a b (j+1)=(mulAll a b j&&(timesP ((pairs4 a b).getD j (0,0)).1 ((pairs4 a b).getD j (0,0)).2).2):=by
 rcases(show j=0\/j=1\/j=2\/j=3 by omega)with rfl|rfl|rfl|rfl<;>simp[mulAll,pairs4,Bool.and_assoc]
theorem pairs_in (a b:PSpan) (h1:In64 a.lo) (h2:In64 a.hi) (h3:In64 b.lo) (h4:In64 b.hi) (j:Nat) (hj:j<4):In64 ((pairs4 a b).getD j (0,0)).1/\In64 ((pairs4 a b).getD j (0,0)).2:=by
 rcases(show j=0\/j=1\/j=2\/j=3 by omega)with rfl|rfl|rfl|rfl<;>simp[pairs4,h1,h2,h3,h4]
def pairV (p:Int×Int):Value:=.agg #[.int .i64 p.1,.int .i64 p.2]
theorem pair_at (a b:PSpan) (j:Nat) (hj:j<4) (w:World):(Instr.index 160 (.agg #[.int .i64 a.lo,.int .i64 b.lo,.int .i64 a.lo,.int .i64 b.hi,.int .i64 a.hi,.int .i64 b.lo,.int .i64 a.hi,.int .i64 b.hi]) (.int .i64 j)).run Tryz.prog w=.ok (pairV ((pairs4 a b).getD j (0,0))) w:=by
 rcases(show j=0\/j=1\/j=2\/j=3 by omega)with rfl|rfl|rfl|rfl<;>rfl
theorem sdo_mul (a b:PSpan) (w:World) (ha:a.lo<=a.hi) (hb:b.lo<=b.hi) (h1:In64 a.lo) (h2:In64 a.hi) (h3:In64 b.lo) (h4:In64 b.hi):Calls Tryz.prog 85 #[.int .i64 5,spanV a,spanV b] w fun e w'=>e=.returned (.tuple #[spanV (doMul a b),.bool true])/\Below w.heap.size w w':=by
 have HA:=qd (fun w=>none_no a w ha);have HB:=qd (fun w=>none_no b w hb);rcases(show pointB a b=true\/pointB a b=false by cases pointB a b<;>simp)with hp|hp
 ·rw[doMul_pt a b hp];unfold pointB at hp;simp only[Bool.and_eq_true,decide_eq_true_eq]at hp;unfold spanV at *;obtain⟨lo,hi⟩:=a;obtain⟨lo2,hi2⟩:=b;dsimp only at *;obtain⟨rfl,rfl⟩:=hp;go_enter Tryz.func85,Tryz.ntmps85;go_wp2_with (first|(go_at_call 55;refine(HA.out _).mono ?_;rintro e w1 ⟨rfl,hb1⟩;clear HA;have o1:Own w1 w.heap.size [.int .i64 lo,.int .i64 lo]:=ownbq;have o2:Own w1 (w.heap.size+1) [.int .i64 lo2,.int .i64 lo2]:=ownbq;have o3:Own w1 (w.heap.size+1+1) [.int .i64 0,.int .i64 0]:=ownbq;have q1:=own2 o1;have q2:=own2 o2;have hbz:Below w.heap.size w w1:=bel)|(go_at_call 55;refine(HB.out _).mono ?_;rintro e w2 ⟨rfl,hb2⟩;clear HB;have p1:=o1.below hb2;have p2:=o2.below hb2;have p3:=o3.below hb2;have r1:=own2 p1;have r2:=own2 p2;have r3:=own2 p3;have s3:=set2 p3;have hby:Below w.heap.size w w2:=bel;clear hb2 hb1 hbz o1 o2 o3 q1 q2)|fail)
  refine flag_end (by rfl) (by rfl) (by rfl) ownbq si ?_;exact⟨rfl,bel⟩
 ·have HR:=qd (doMul_else a b hp);generalize doMul a b=R at *;unfold pointB at hp;simp only[Bool.and_eq_false_iff,decide_eq_false_iff_not]at hp;have HI:=qd (pair_at a b);have HN:=qd (pairs_in a b h1 h2 h3 h4);have HT:=qd (mulTo_at a b);have HL:=qd (mulAll_at a b);have HZ:=qd (mulTo_len a b);have e4:mulTo a b 4=(pairs4 a b).map fun p=>(timesP p.1 p.2).1:=rfl;have e5:mulAll a b 4=(pairs4 a b).all fun p=>(timesP p.1 p.2).2:=rfl;have e0:mulTo a b 0=[]:=rfl;have e1:mulAll a b 0=true:=rfl;have HR2:=qd (HR.out.trans (by rw[<-e4,<-e5]));clear HR e4 e5;have HE0:=qd e0;have HE1:=qd e1;clear e0 e1;generalize mulTo a b=MT at *;generalize mulAll a b=MA at *;generalize pairs4 a b=PR at *;unfold spanV at *;obtain⟨rlo,rhi⟩:=R;obtain⟨lo,hi⟩:=a;obtain⟨lo2,hi2⟩:=b;dsimp only at *;by_cases hl:lo=hi
  ·subst hl;have hl2:¬lo2=hi2:=oz
   have hl3:(lo2==hi2)=false:=by simpa using hl2
   go_enter Tryz.func85,Tryz.ntmps85;go_wp2_with (first|(go_at_call 55;refine(HA.out _).mono ?_;rintro e w1 ⟨rfl,hb1⟩;clear HA;have o1:Own w1 w.heap.size [.int .i64 lo,.int .i64 lo]:=ownbq;have o2:Own w1 (w.heap.size+1) [.int .i64 lo2,.int .i64 hi2]:=ownbq;have o3:Own w1 (w.heap.size+1+1) [.int .i64 0,.int .i64 0]:=ownbq;have q1:=own2 o1;have q2:=own2 o2;have hbz:Below w.heap.size w w1:=bel)|(go_at_call 55;refine(HB.out _).mono ?_;rintro e w2 ⟨rfl,hb2⟩;clear HB;have p1:=o1.below hb2;have p2:=o2.below hb2;have p3:=o3.below hb2;have r1:=own2 p1;have r2:=own2 p2;have r3:=own2 p3;have s3:=set2 p3;have hby:Below w.heap.size w w2:=bel;clear hb2 hb1 hbz o1 o2 o3 q1 q2)|fail)
   clear p1 p2 r1 r2 r3 s3;go_loopw [17,18,174] (fun v c i wr=>∃ j:Nat,j<=4/\i=.int .i64 j/\c=.bool (MA j)/\Below w.heap.size w wr/\Hid (Own wr (w.heap.size+1+1) [.int .i64 0,.int .i64 0])/\(∀ k,v.ownBlock=some k->w.heap.size+3<=k)/\Hid (wr.ownsRow 0 2 1 v j (Nums (MT j)))) (fun v c i _=>4-(intOf i).toNat)
   case atStart=>exact⟨0,Nat.zero_le _,rfl,by rw[HE1.out],hby,qd p3,by simp[Value.ownBlock],qd (by rw[HE0.out];exact World.ownsRow_nil _ _ _ _)⟩
   case round =>
    clear p3 hby;obtain⟨j,hj,rfl,rfl,hbr,h0,hvb,hv⟩:=hrel;by_cases hlt:j<4
    ·have d2:(j:Int)<4:=oz
     have hwk:IntKind.i64.wrap ((j:Int)+1)=(j:Int)+1:=IntWalk.i64_in _ oz;have HIj:=qd (HI.out j hlt);have HNj:=HN.out j hlt;have HTj:=qd (HT.out j hlt);have HLj:=qd (HL.out j hlt);generalize PR.getD j (0,0)=pr at *;obtain⟨x,y⟩:=pr;unfold pairV at HIj;dsimp only at *;have HM:=qd (fun w=>stimes_any x y w HNj.1 HNj.2);clear HNj;generalize timesP x y=tm at *;obtain⟨z,zb⟩:=tm;dsimp only at *;rcases(show MA j=true\/MA j=false by cases MA j<;>simp)with hma|hma
     all_goals rw[hma]at HLj ⊢
     all_goals go_wp2_with (first|(refine wpList_index rfl (.tmp 173) (.tmp 174) 160 rfl _ (HIj.out _) ?_)|(go_at_call 110;refine(HM.out _).mono ?_;rintro e w3 ⟨rfl,rfl⟩)|(at_builtin;refine wpList_app rfl (.tmp 185) (.tmp 187) 22 2 1 8 (.int .i64 0) rfl Tryz.underlying22 Tryz.info64 rfl dc _ _ _ rfl (row_below bel hv.out) ⟨wr.heap.size+1,0,none⟩ 1 1 (Nums [z]) rfl rfl (src_own (Own.new' _ _ _ _ si)) (Nums_one _) (by unfold maxLen;omega) oz dc ?_;intro g2 cap2 w4 hb4 hc4 hg4)|fail)
     all_goals have hc5:Chg (fun k=>u17.ownBlock=some k) wr w4:=(Chg.of (by exact bel)).trans hc4
     all_goals have h45:=h0.out.1
     all_goals refine⟨⟨j+1,oz,si,by rw[HLj.out];try rfl,hbr.trans (hc5.below _ hbr.size (fun k hk e=>by have:=hvb k e;omega)),qd (hc5.own h0.out (fun e=>by have:=hvb _ e;omega)),?_,qd ?_⟩,?_⟩
     all_goals first
      | (intro k hk;have hk':g2=k:=by simpa[Value.ownBlock]using hk
         subst hk';rcases hg4 with h|h
         ·exact hvb _ h
         ·simp at h;omega)
      | (rw[HTj.out,Nums_append];exact hb4)
      | (go_light;exact ml)
    ·have hjk:j=4:=oz
     subst hjk;have hz4:=HZ.out 4 oz;obtain⟨g,cap,rfl,-,-,hg⟩:=row_pos hv.out oz;have HB4:=qd (shull_any g 0 4 cap (MT 4) (MA 4) wr hg hz4.symm (by unfold maxLen;omega) oz (fun i hi'=>by
      have hx:=row_cell hv.out (j:=i) (u:=.int .i64 ((MT 4).getD i 0)) (Nums_some (by rw[List.getD_eq_getElem?_getD,List.getElem?_eq_getElem (by omega)];rfl));rw[Nat.zero_add];exact hx))
     have hgb:=hvb g rfl;have o4:=h0.out;rw[<-HR2.out]at HB4;unfold spanV at HB4;dsimp only at HB4;clear hv hvb;go_wp2_with (first|(go_at_call 108;refine HB4.out.mono ?_;rintro e w3 ⟨rfl,hb3⟩;have o5:=o4.below hb3;have q5:=own2 o5;have q6:=set2 o5;have hz3:=hb3.size)|fail)
     refine flag_end (by rfl) (by rfl) (by rfl) ownbq si ?_;exact⟨rfl,bel⟩
  ·skip
   go_enter Tryz.func85,Tryz.ntmps85;go_wp2_with (first|(go_at_call 55;refine(HA.out _).mono ?_;rintro e w1 ⟨rfl,hb1⟩;clear HA;have o1:Own w1 w.heap.size [.int .i64 lo,.int .i64 hi]:=ownbq;have o2:Own w1 (w.heap.size+1) [.int .i64 lo2,.int .i64 hi2]:=ownbq;have o3:Own w1 (w.heap.size+1+1) [.int .i64 0,.int .i64 0]:=ownbq;have q1:=own2 o1;have q2:=own2 o2;have hbz:Below w.heap.size w w1:=bel)|(go_at_call 55;refine(HB.out _).mono ?_;rintro e w2 ⟨rfl,hb2⟩;clear HB;have p1:=o1.below hb2;have p2:=o2.below hb2;have p3:=o3.below hb2;have r1:=own2 p1;have r2:=own2 p2;have r3:=own2 p3;have s3:=set2 p3;have hby:Below w.heap.size w w2:=bel;clear hb2 hb1 hbz o1 o2 o3 q1 q2)|fail)
   clear p1 p2 r1 r2 r3 s3;go_loopw [17,18,174] (fun v c i wr=>∃ j:Nat,j<=4/\i=.int .i64 j/\c=.bool (MA j)/\Below w.heap.size w wr/\Hid (Own wr (w.heap.size+1+1) [.int .i64 0,.int .i64 0])/\(∀ k,v.ownBlock=some k->w.heap.size+3<=k)/\Hid (wr.ownsRow 0 2 1 v j (Nums (MT j)))) (fun v c i _=>4-(intOf i).toNat)
   case atStart=>exact⟨0,Nat.zero_le _,rfl,by rw[HE1.out],hby,qd p3,by simp[Value.ownBlock],qd (by rw[HE0.out];exact World.ownsRow_nil _ _ _ _)⟩
   case round =>
    clear p3 hby;obtain⟨j,hj,rfl,rfl,hbr,h0,hvb,hv⟩:=hrel;by_cases hlt:j<4
    ·have d2:(j:Int)<4:=oz
     have hwk:IntKind.i64.wrap ((j:Int)+1)=(j:Int)+1:=IntWalk.i64_in _ oz;have HIj:=qd (HI.out j hlt);have HNj:=HN.out j hlt;have HTj:=qd (HT.out j hlt);have HLj:=qd (HL.out j hlt);generalize PR.getD j (0,0)=pr at *;obtain⟨x,y⟩:=pr;unfold pairV at HIj;dsimp only at *;have HM:=qd (fun w=>stimes_any x y w HNj.1 HNj.2);clear HNj;generalize timesP x y=tm at *;obtain⟨z,zb⟩:=tm;dsimp only at *;rcases(show MA j=true\/MA j=false by cases MA j<;>simp)with hma|hma
     all_goals rw[hma]at HLj ⊢
     all_goals go_wp2_with (first|(refine wpList_index rfl (.tmp 173) (.tmp 174) 160 rfl _ (HIj.out _) ?_)|(go_at_call 110;refine(HM.out _).mono ?_;rintro e w3 ⟨rfl,rfl⟩)|(at_builtin;refine wpList_app rfl (.tmp 185) (.tmp 187) 22 2 1 8 (.int .i64 0) rfl Tryz.underlying22 Tryz.info64 rfl dc _ _ _ rfl (row_below bel hv.out) ⟨wr.heap.size+1,0,none⟩ 1 1 (Nums [z]) rfl rfl (src_own (Own.new' _ _ _ _ si)) (Nums_one _) (by unfold maxLen;omega) oz dc ?_;intro g2 cap2 w4 hb4 hc4 hg4)|fail)
     all_goals have hc5:Chg (fun k=>u17.ownBlock=some k) wr w4:=(Chg.of (by exact bel)).trans hc4
     all_goals have h45:=h0.out.1
     all_goals refine⟨⟨j+1,oz,si,by rw[HLj.out];try rfl,hbr.trans (hc5.below _ hbr.size (fun k hk e=>by have:=hvb k e;omega)),qd (hc5.own h0.out (fun e=>by have:=hvb _ e;omega)),?_,qd ?_⟩,?_⟩
     all_goals first
      | (intro k hk;have hk':g2=k:=by simpa[Value.ownBlock]using hk
         subst hk';rcases hg4 with h|h
         ·exact hvb _ h
         ·simp at h;omega)
      | (rw[HTj.out,Nums_append];exact hb4)
      | (go_light;exact ml)
    ·have hjk:j=4:=oz
     subst hjk;have hz4:=HZ.out 4 oz;obtain⟨g,cap,rfl,-,-,hg⟩:=row_pos hv.out oz;have HB4:=qd (shull_any g 0 4 cap (MT 4) (MA 4) wr hg hz4.symm (by unfold maxLen;omega) oz (fun i hi'=>by
      have hx:=row_cell hv.out (j:=i) (u:=.int .i64 ((MT 4).getD i 0)) (Nums_some (by rw[List.getD_eq_getElem?_getD,List.getElem?_eq_getElem (by omega)];rfl));rw[Nat.zero_add];exact hx))
     have hgb:=hvb g rfl;have o4:=h0.out;rw[<-HR2.out]at HB4;unfold spanV at HB4;dsimp only at HB4;clear hv hvb;go_wp2_with (first|(go_at_call 108;refine HB4.out.mono ?_;rintro e w3 ⟨rfl,hb3⟩;have o5:=o4.below hb3;have q5:=own2 o5;have q6:=set2 o5;have hz3:=hb3.size)|fail)
     refine flag_end (by rfl) (by rfl) (by rfl) ownbq si ?_;exact⟨rfl,bel⟩
theorem do_is (op:Int) (a b:PSpan) (w:World) (hop:3<=op/\op<=10) (ha:SpOk a) (hb:SpOk b) :
 Calls Tryz.prog 85 #[.int .i64 op,.agg #[.int .i64 a.lo,.int .i64 a.hi],.agg #[.int .i64 b.lo,.int .i64 b.hi]] w fun e w'=>∃ v,e=.returned v/\v=.tuple #[.agg #[.int .i64 (spanDo op a b).1.lo,.int .i64 (spanDo op a b).1.hi],.bool (spanDo op a b).2]/\Below w.heap.size w w':=by
 have key:Calls Tryz.prog 85 #[.int .i64 op,spanV a,spanV b] w fun e w'=>e=.returned (.tuple #[spanV (spanDo op a b).1,.bool (spanDo op a b).2])/\Below w.heap.size w w':=by
  obtain⟨a1,a2,a3⟩:=ha;obtain⟨b1,b2,b3⟩:=hb;obtain rfl|rfl|rfl|rfl|rfl|rfl|rfl|rfl:op=3\/op=4\/op=5\/op=6\/op=7\/op=8\/op=9\/op=10:=oz
  ·exact sdo_add a b w a3 b3
  ·exact sdo_sub a b w a3 b3
  ·exact sdo_mul a b w a3 b3 a1 a2 b1 b2
  ·exact sdo_div a b w a3 b3
  ·exact sdo_rem a b w a3 b3 b1 b2
  ·exact sdo_less a b w a3 b3
  ·exact sdo_equal a b w a3 b3
  ·exact sdo_not a b w a3 b3
 exact key.mono (by rintro e w' ⟨rfl,h⟩;exact⟨_,rfl,rfl,h⟩)
theorem away_add (x:PIns) (B:Nat) (m:PMod) (hh:HF) (f:PFunc) (ta fa:Option Addr) (tl tc fl fc:Nat) (frm:Nat) (to_:Int) (b n c:Nat) (r:List PSpan) (w:World) (hB:B<=w.heap.size) (hf:FuncOk B w hh f) (hfl:frm<f.code.length) (hn1:f.code.length<=1024) (hx:f.code.getD frm default=x) (hi:InsFine m f x) (hr:SpRow w b n c r) (hrg:(n:Int)=f.regs) (hn:n<=64) (hop:x.op=3) (hrok:LOk n r):Calls Tryz.prog 47 #[.agg #[.slice ta tl tc,.slice fa fl fc],FuncVal hh f,.int .i64 frm,.int .i64 to_,.slice (some ⟨b,0,none⟩) n c] w (AwayPost b n c w (opWay x r)):=by
 obtain⟨pa,pl,pc,cb,co,cc,rfl,hcm,hcB,⟨g0,g1,g2,g3,g4⟩,hcbl,hcb1,hcb2,hcb3,hfr,hwf⟩:=away_pre hB hf hfl hn1 hx;clear hf;unfold FuncVal;dsimp only;have hbl:=hr.lt;obtain⟨op,xa,xb,xc,xn⟩:=x;obtain⟨v1,v2,v3,v4,v5,v6,v7,v8,v9,v10⟩:=hi;dsimp only at *;subst hop;have hmf:=@mkF Tryz.prog;go_enter Tryz.func47,Tryz.ntmps47;go_upto_region 2 with(fail)
 generalize hW0:World.alloc _ _=W0;obtain⟨hb0,OM,OF,OR,OX,hz0⟩:=own_four hW0;clear hW0 g0 g1 g2 g3 g4;have hr0:=hr.below hb0;have x5:=own5 OX;have o1:=own1 OR;go_cut [12] (fun v wx=>v=.bool (decide (to_=xn)&&decide (xn≠(frm:Int)+1))/\wx=W0)
 case first =>
  by_cases e1:to_=xn
  ·have q1:(to_==xn)=true:=by simpa using e1
   by_cases e2:xn=(frm:Int)+1
   ·have q2:(xn != (frm:Int)+1)=false:=by simpa using e2
    go_wp2;go_meet
    all_goals exact⟨by simp[e1,e2],rfl⟩
   ·have q2:(xn != (frm:Int)+1)=true:=by simpa using e2
    go_wp2;go_meet
    all_goals exact⟨by simp[e1,e2],rfl⟩
  ·have q1:(to_==xn)=false:=by simpa using e1
   go_wp2;go_meet
   all_goals exact⟨by simp[e1],rfl⟩
 case rest =>
  obtain⟨rfl,rfl⟩:=hcut;obtain⟨wb,hwb⟩:∃ wb:World,wb=wc:=⟨_,rfl⟩
  subst hwb;generalize hfar:(decide (to_=xn)&&decide (xn≠(frm:Int)+1))=far;have HFAR:=qd hfar;clear hfar;obtain⟨ka,rfl⟩:=Int.eq_ofNat_of_zero_le v3;have hka:ka<n:=oz
  have hka2:(ka:Int)<(n:Int):=oz
  obtain⟨r0,r1,r2,r3⟩:=hr0.cells hka;obtain⟨kb,rfl⟩:=Int.eq_ofNat_of_zero_le v5;have hkb:kb<n:=oz
  have hkb2:(kb:Int)<(n:Int):=oz
  obtain⟨t0,t1,t2,t3⟩:=hr0.cells hkb;obtain⟨kc,rfl⟩:=Int.eq_ofNat_of_zero_le v7;have hkc:kc<n:=oz
  have hkc2:(kc:Int)<(n:Int):=oz
  go_upto_region 17 with(fail)
  have hL:=hrok;have hpb:SpOk (r.getD kb default):=hL.2 kb oz;have hpc:SpOk (r.getD kc default):=hL.2 kc oz;have HD:=qd (fun w=>do_is 3 (r.getD kb default) (r.getD kc default) w oz hpb hpc);have hres:opWay ⟨3,ka,kb,kc,xn⟩ r=if(spanDo 3 (r.getD kb default) (r.getD kc default)).2 then some (r.set ka (spanDo 3 (r.getD kb default) (r.getD kc default)).1)else none:=by
   unfold opWay spAt spSet;simp
  have hcf:∀ (args:Array Value) (w:World),(callFunc 85 args).run Tryz.prog w=.ok (.enter 85 args) w:=fun _ _=>rfl;have HRES:=qd hres;clear hres hpb hpc hL hrok x5 o1 r0 r1 r2 r3 t0 t1 t2 t3;have HSS:Hid (∀ w',Below wb.heap.size wb w'->w'.cell? ⟨w.heap.size+1+1,0,none⟩=some (.slice (some ⟨b,0,none⟩) n c)/\w'.cell? ⟨w.heap.size+1+1+1,0,none⟩=some (.int .i64 3)/\w'.cell? ⟨w.heap.size+1+1+1,2,none⟩=some (.int .i64 kb)/\w'.cell? ⟨w.heap.size+1+1+1,3,none⟩=some (.int .i64 kc) /\
   w'.cell? ⟨b,kb*2,none⟩=some (.int .i64 (r.getD kb default).lo)/\w'.cell? ⟨b,kb*2+1,none⟩=some (.int .i64 (r.getD kb default).hi)/\w'.cell? ⟨b,kc*2,none⟩=some (.int .i64 (r.getD kc default).lo)/\w'.cell? ⟨b,kc*2+1,none⟩=some (.int .i64 (r.getD kc default).hi)):=qd (fun w' hw=>by
   obtain⟨_,s0,_⟩:=own1 (OR.below hw);have x5:=own5 (OX.below hw);obtain⟨b0,b1,_,_⟩:=(hr0.below hw).cells hkb;obtain⟨c0,c1,_,_⟩:=(hr0.below hw).cells hkc;exact⟨s0,x5.2.1,x5.2.2.2.1,x5.2.2.2.2.1,b0,b1,c0,c1⟩)
  generalize spanDo 3 (r.getD kb default) (r.getD kc default)=res at *;obtain⟨⟨rlo,rhi⟩,rok⟩:=res;generalize r.getD kb default=pb at *;generalize r.getD kc default=pc at *;obtain⟨blo,bhi⟩:=pb;obtain⟨clo,chi⟩:=pc;dsimp only at HD HSS HRES;have HOX:=qd OX;have HOR:=qd OR;have HR0:=qd hr0;clear OX OR hr0 OM OF hr hmf hx hrg hfr hwf v1 v2 v4 v6 v8 v9 v10 hcm hcB hcbl hcb1 hcb2 hcb3 hfl hn1;have hzw:w.heap.size+4<=wb.heap.size:=hz0;go_cut [14,15] (fun v14 v15 wc=>∃ k:Nat,v14=.pointer (some ⟨k,0,none⟩)/\v15=.bool rok/\Hid (Own wc k [.int .i64 rlo,.int .i64 rhi])/\Below wb.heap.size wb wc/\wb.heap.size<=k)
  case first =>
   generalize hA0:(Act.mk _ _:Act)=a0;have Ee:a0.eval (.tmp 9)=.pointer (some ⟨w.heap.size+1+1,0,none⟩)/\a0.eval (.tmp 11)=.pointer (some ⟨w.heap.size+1+1+1,0,none⟩)/\a0.tmps.size=290:=by rw[<-hA0];exact⟨rfl,rfl,rfl⟩
   refine region_held_plain (fun w'=>Below wb.heap.size wb w') kr (Below.refl _ wb).drew ?_;intro K0 hK0 hHeld
   try dsimp only at hHeld
   refine wtk 0 rfl ?_;try simp only[GE]
   refine wtk 1 rfl ?_;try simp only[GE]
   refine wtk 2 rfl ?_;try simp only[GE]
   refine wtk 3 rfl ?_;try simp only[GE]
   refine wtk 4 rfl ?_;try simp only[GE]
   refine wtk 5 rfl ?_;try simp only[GE]
   refine wtk 6 rfl ?_;try simp only[GE]
   refine wtk 7 rfl ?_;try simp only[GE]
   refine wtk 8 rfl ?_;try simp only[GE]
   refine wtk 9 rfl ?_;try simp only[GE]
   refine wtk 10 rfl ?_;try simp only[GE]
   refine wtk 11 rfl ?_;try simp only[GE]
   generalize hA1:(Act.put _ _ _:Act)=a1;replace Ee:a1.eval (.tmp 76)=.int .i64 3/\a1.eval (.tmp 81)=.agg #[.int .i64 blo,.int .i64 bhi]/\a1.eval (.tmp 86)=.agg #[.int .i64 clo,.int .i64 chi]/\a1.tmps.size=290:=ee1;refine wpAnyH_ready (rs:=[12,16]) kr si ?_;refine AllReadyH.cons rfl (fun K hK=>?_) (AllReadyH.cons rfl (fun K hK=>?_) AllReadyH.nil)
   ·refine step_callF rfl 85 [.tmp 76,.tmp 81,.tmp 86] #[3,47,47] rfl hcf [.int .i64 3,.agg #[.int .i64 blo,.int .i64 bhi],.agg #[.int .i64 clo,.int .i64 chi]] (by simp only[GE,MX,EX,Ee,reduceIte,Nat.reduceEqDiff,Nat.reduceLT,Nat.reduceBEq]) _ (HD.out _) ?_;rintro v wM ⟨rfl,hbM⟩;have hwM:Below wb.heap.size wb wM:=hHeld.trans (hbM.mono hHeld.size);have hzM:=hwM.size;refine hK.out _ _ (hwM) fun hHeld=>?_;clear hK K;try simp only[GE]
    refine wtk 13 rfl ?_;try simp only[GE]
    refine wtk 14 rfl ?_;try simp only[GE]
    refine wtk 15 rfl ?_;try simp only[GE]
    generalize hA2:(Act.put _ _ _:Act)=a2;replace Ee:a2.eval (.tmp 88)=.agg #[.int .i64 rlo,.int .i64 rhi]/\a2.eval (.tmp 89)=.bool rok/\a2.tmps.size=290:=ee2;refine readyH1 16 ?_ kr ?_ ?_;rotate_left
    ·exact rfl
    intro K hK;simp only[GE];refine stv ?_;refine hK.out _ _ (bel) fun hHeld=>?_;clear hK K;try simp only[GE]
    generalize hA3:(Act.put _ _ _:Act)=a3;replace Ee:a3.eval (.tmp 88)=.agg #[.int .i64 rlo,.int .i64 rhi]/\a3.eval (.tmp 89)=.bool rok/\a3.eval (.tmp 14)=.pointer (some ⟨wM.heap.size,0,none⟩)/\a3.tmps.size=290:=ee3;refine readyH1 17 ?_ kr ?_ ?_;rotate_left
    ·exact rfl
    intro K hK;simp only[GE];refine sts ?_;refine hK.out _ _ (bel) fun hHeld=>?_;clear hK K;try simp only[GE]
    generalize hA4:(Act.put _ _ _:Act)=a4;replace Ee:a4.eval (.tmp 89)=.bool rok/\a4.tmps.size=290:=ee4;refine wtk 18 rfl ?_;try simp only[GE]
    refine anyH_done kr ?_;refine hK0.out _ _ ?_;subst hA4;subst hA3;subst hA2;subst hA1;subst hA0
    try clear Ee
    simp only[GE,Act.put,SU];go_wp2;go_meet;exact⟨wM.heap.size,rfl,rfl,qd (Own.new _ _ _),bel,hzM⟩
   ·simp only[GE];refine stv ?_;refine hK.out _ _ (bel) fun hHeld=>?_;clear hK K;try simp only[GE]
    generalize hA2:(Act.put _ _ _:Act)=a2;replace Ee:a2.eval (.tmp 76)=.int .i64 3/\a2.eval (.tmp 81)=.agg #[.int .i64 blo,.int .i64 bhi]/\a2.eval (.tmp 86)=.agg #[.int .i64 clo,.int .i64 chi]/\a2.eval (.tmp 14)=.pointer (some ⟨wb.heap.size,0,none⟩)/\a2.tmps.size=290:=ee2;refine readyH1 12 ?_ kr ?_ ?_;rotate_left
    ·exact rfl
    intro K hK;refine step_callF rfl 85 [.tmp 76,.tmp 81,.tmp 86] #[3,47,47] rfl hcf [.int .i64 3,.agg #[.int .i64 blo,.int .i64 bhi],.agg #[.int .i64 clo,.int .i64 chi]] (by simp only[GE,MX,EX,Ee,reduceIte,Nat.reduceEqDiff,Nat.reduceLT,Nat.reduceBEq]) _ (HD.out _) ?_;rintro v wM ⟨rfl,hbM⟩;have hwM:Below wb.heap.size wb wM:=hHeld.trans (hbM.mono hHeld.size);have hzM:=hwM.size;have pM:=Own.below (Own.drew (Own.new' wb [.int .i64 0,.int .i64 0] 47 wb.heap.size rfl)) hbM;have oM:=own2 pM;refine hK.out _ _ (hwM) fun hHeld=>?_;clear hK K;try simp only[GE]
    refine wtk 13 rfl ?_;try simp only[GE]
    refine wtk 14 rfl ?_;try simp only[GE]
    refine wtk 15 rfl ?_;try simp only[GE]
    generalize hA3:(Act.put _ _ _:Act)=a3;replace Ee:a3.eval (.tmp 88)=.agg #[.int .i64 rlo,.int .i64 rhi]/\a3.eval (.tmp 89)=.bool rok/\a3.eval (.tmp 14)=.pointer (some ⟨wb.heap.size,0,none⟩)/\a3.tmps.size=290:=ee3;refine readyH1 17 ?_ kr ?_ ?_;rotate_left
    ·exact rfl
    intro K hK;simp only[GE];refine sts ?_;refine hK.out _ _ (bel) fun hHeld=>?_;clear hK K;try simp only[GE]
    generalize hA4:(Act.put _ _ _:Act)=a4;replace Ee:a4.eval (.tmp 89)=.bool rok/\a4.tmps.size=290:=ee4;refine wtk 18 rfl ?_;try simp only[GE]
    refine anyH_done kr ?_;refine hK0.out _ _ ?_;subst hA4;subst hA3;subst hA2;subst hA1;subst hA0
    try clear Ee
    simp only[GE,Act.put,SU];go_wp2;go_meet;exact⟨wb.heap.size,rfl,rfl,qd ((pM.set 0 _ si).set 1 _ si),bel,Nat.le_refl _⟩
  case rest =>
   obtain⟨k,rfl,rfl,OK,hbd,hkl⟩:=hcut;have hzd:=hbd.size;obtain⟨k0,k1,k2,k3,k4⟩:=own2 OK.out;have x5:=own5 (HOX.out.below hbd);have o1:=own1 (HOR.out.below hbd);have HRd:=qd (HR0.out.below hbd);obtain⟨r0,r1,r2,r3⟩:=HRd.out.cells hka;have hbl2:b<wc.heap.size:=HRd.out.lt;cases rok
   ·go_wp2;go_ret;go_light;have e:=HRES.out;simp only[Bool.false_eq_true,if_false,reduceIte]at e;rw[e];exact⟨rfl,Chg.of (hb0.trans (hbd.mono oz)),fun out ho=>by cases ho⟩
   ·go_wp2;go_ret;go_light;have e:=HRES.out;simp only[if_true,reduceIte]at e;rw[e];exact⟨rfl,(Chg.of (hb0.trans (hbd.mono oz))).trans (chg2 _ _ _ _ _ _),fun out ho=>by cases ho;exact HRd.out.set hka ⟨rlo,rhi⟩⟩
end Go.Proofs.YteebpnbdihcfmaaGreatDoor
