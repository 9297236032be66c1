/- Package span -/
import Derived.Test.YteebpnbdihcfmaaGreatDoorJ02
import Derived.Test.YteebpnbdihcfmaaGreatDoorJ01
set_option linter.unusedVariables false
set_option linter.unusedSimpArgs false
set_option maxRecDepth 100000
set_option maxHeartbeats 20000000
namespace Go.Proofs.YteebpnbdihcfmaaGreatDoor
open Go.RowKit
def belowP (a b:PSpan):PSpan×PSpan×Bool:=if b.hi<=a.lo then(zeroP,zeroP,false)else(⟨a.lo,min a.hi (b.hi-1)⟩,⟨max b.lo (a.lo+1),b.hi⟩,true)
theorem flag2_end {F:Func}{i j l:Nat}{Q:Ending->World->Prop}{T:Array Value}{W:World}{k k':Nat}{lo hi lo2 hi2:Int}{b:Bool}(hF:F.results=#[.cell i 47,.cell j 47,.tmp l]) (hT:T[i]? = some (.pointer (some ⟨k,0,none⟩))) (hT3:T[j]? = some (.pointer (some ⟨k',0,none⟩))) (hT2:T[l]? = some (.bool b)) (ho:Own W k [.int .i64 lo,.int .i64 hi]) (ho2:Own W k' [.int .i64 lo2,.int .i64 hi2]) {ex:Exit}(hx:ex=.ret\/ex=.normal)
 (hq:Q (.returned (.tuple #[.agg #[.int .i64 lo,.int .i64 hi],.agg #[.int .i64 lo2,.int .i64 hi2],.bool b])) W):bodyPost Tryz.prog F Q ex { tmps:=T,defers:=[] } W:=by
 obtain⟨_,r0,r1,_⟩:=own2 ho;obtain⟨_,r2,r3,_⟩:=own2 ho2;have hr:(results F T).run Tryz.prog W=.ok (.tuple #[.agg #[.int .i64 lo,.int .i64 hi],.agg #[.int .i64 lo2,.int .i64 hi2],.bool b]) W:=by
  simp[results,hF,go_sem,hT,hT2,hT3,r0,r1,r2,r3]
 rcases hx with rfl|rfl
 ·exact bodyPost_ret hr rfl hq
 ·exact⟨rfl,_,hr,hq⟩
theorem ret_ssb {a b c d a' b' c' d':Int}{e:Bool}(h:a=a') (h2:b=b') (h3:c=c') (h4:d=d'):Ending.returned (.tuple #[.agg #[.int .i64 a,.int .i64 b],.agg #[.int .i64 c,.int .i64 d],.bool e])=.returned (.tuple #[.agg #[.int .i64 a',.int .i64 b'],.agg #[.int .i64 c',.int .i64 d'],.bool e]):=by rw[h,h2,h3,h4]
theorem sbelow_any (a b:PSpan) (w:World) (ha:a.lo<=a.hi) (hb:b.lo<=b.hi) (i1:In64 a.lo) (i2:In64 b.hi):Calls Tryz.prog 89 #[spanV a,spanV b] w fun e w'=>e=.returned (.tuple #[spanV (belowP a b).1,spanV (belowP a b).2.1,.bool (belowP a b).2.2])/\Below w.heap.size w w':=by
 have HA:=qd (fun w=>none_no a w ha);have HB:=qd (fun w=>none_no b w hb);unfold belowP zeroP;unfold spanV at *;obtain⟨lo,hi⟩:=a;obtain⟨lo2,hi2⟩:=b;dsimp only at *;by_cases h:hi2<=lo
 ·rw[if_pos h];dsimp only;go_enter Tryz.func89,Tryz.ntmps89;go_wp2_with (first|(go_at_call 55;refine(HA.out _).mono ?_;rintro e w1 ⟨rfl,hb1⟩;clear HA;have o1:Own w1 w.heap.size [.int .i64 lo,.int .i64 hi]:=ownbq;have o2:Own w1 (w.heap.size+1) [.int .i64 lo2,.int .i64 hi2]:=ownbq;have o3:Own w1 (w.heap.size+1+1) [.int .i64 0,.int .i64 0]:=ownbq;have o4:Own w1 (w.heap.size+1+1+1) [.int .i64 0,.int .i64 0]:=ownbq;have q1:=own2 o1;have q2:=own2 o2;have hbz:Below w.heap.size w w1:=bel)|(go_at_call 55;refine(HB.out _).mono ?_;rintro e w2 ⟨rfl,hb2⟩;clear HB;have p1:=o1.below hb2;have p2:=o2.below hb2;have p3:=o3.below hb2;have p4:=o4.below hb2;have r1:=own2 p1;have r2:=own2 p2;have r3:=own2 p3;have r4:=own2 p4;have s3:=set2 p3;have s4:=set2 p4;have hby:Below w.heap.size w w2:=bel;clear hb2 hb1 hbz o1 o2 o3 o4 q1 q2)|fail)
  refine flag2_end (by rfl) (by rfl) (by rfl) (by rfl) ownbq ownbq si ?_;exact⟨rfl,bel⟩
 ·rw[if_neg h];dsimp only;unfold In64 at i1 i2;have hw1:IntKind.i64.wrap (hi2-1)=hi2-1:=IntWalk.i64_in _ oz;have hw2:IntKind.i64.wrap (lo+1)=lo+1:=IntWalk.i64_in _ oz;clear i1 i2;by_cases d1:hi<=hi2-1
  ·by_cases d2:lo2<=lo+1
   ·skip
    have e1:min hi (hi2-1)=hi:=oz
    have e2:max lo2 (lo+1)=lo+1:=oz
    rw[e1,e2];go_enter Tryz.func89,Tryz.ntmps89;go_wp2_with (first|(go_at_call 55;refine(HA.out _).mono ?_;rintro e w1 ⟨rfl,hb1⟩;clear HA;have o1:Own w1 w.heap.size [.int .i64 lo,.int .i64 hi]:=ownbq;have o2:Own w1 (w.heap.size+1) [.int .i64 lo2,.int .i64 hi2]:=ownbq;have o3:Own w1 (w.heap.size+1+1) [.int .i64 0,.int .i64 0]:=ownbq;have o4:Own w1 (w.heap.size+1+1+1) [.int .i64 0,.int .i64 0]:=ownbq;have q1:=own2 o1;have q2:=own2 o2;have hbz:Below w.heap.size w w1:=bel)|(go_at_call 55;refine(HB.out _).mono ?_;rintro e w2 ⟨rfl,hb2⟩;clear HB;have p1:=o1.below hb2;have p2:=o2.below hb2;have p3:=o3.below hb2;have p4:=o4.below hb2;have r1:=own2 p1;have r2:=own2 p2;have r3:=own2 p3;have r4:=own2 p4;have s3:=set2 p3;have s4:=set2 p4;have hby:Below w.heap.size w w2:=bel;clear hb2 hb1 hbz o1 o2 o3 o4 q1 q2)|fail)
    go_region
    all_goals go_wp2
    all_goals refine flag2_end (by rfl) (by rfl) (by rfl) (by rfl) ownbq ownbq si ?_
    all_goals exact⟨ret_ssb oz oz oz oz,bel⟩
   ·skip
    have e1:min hi (hi2-1)=hi:=oz
    have e2:max lo2 (lo+1)=lo2:=oz
    rw[e1,e2];go_enter Tryz.func89,Tryz.ntmps89;go_wp2_with (first|(go_at_call 55;refine(HA.out _).mono ?_;rintro e w1 ⟨rfl,hb1⟩;clear HA;have o1:Own w1 w.heap.size [.int .i64 lo,.int .i64 hi]:=ownbq;have o2:Own w1 (w.heap.size+1) [.int .i64 lo2,.int .i64 hi2]:=ownbq;have o3:Own w1 (w.heap.size+1+1) [.int .i64 0,.int .i64 0]:=ownbq;have o4:Own w1 (w.heap.size+1+1+1) [.int .i64 0,.int .i64 0]:=ownbq;have q1:=own2 o1;have q2:=own2 o2;have hbz:Below w.heap.size w w1:=bel)|(go_at_call 55;refine(HB.out _).mono ?_;rintro e w2 ⟨rfl,hb2⟩;clear HB;have p1:=o1.below hb2;have p2:=o2.below hb2;have p3:=o3.below hb2;have p4:=o4.below hb2;have r1:=own2 p1;have r2:=own2 p2;have r3:=own2 p3;have r4:=own2 p4;have s3:=set2 p3;have s4:=set2 p4;have hby:Below w.heap.size w w2:=bel;clear hb2 hb1 hbz o1 o2 o3 o4 q1 q2)|fail)
    go_region
    all_goals go_wp2
    all_goals refine flag2_end (by rfl) (by rfl) (by rfl) (by rfl) ownbq ownbq si ?_
    all_goals exact⟨ret_ssb oz oz oz oz,bel⟩
  ·by_cases d2:lo2<=lo+1
   ·skip
    have e1:min hi (hi2-1)=hi2-1:=oz
    have e2:max lo2 (lo+1)=lo+1:=oz
    rw[e1,e2];go_enter Tryz.func89,Tryz.ntmps89;go_wp2_with (first|(go_at_call 55;refine(HA.out _).mono ?_;rintro e w1 ⟨rfl,hb1⟩;clear HA;have o1:Own w1 w.heap.size [.int .i64 lo,.int .i64 hi]:=ownbq;have o2:Own w1 (w.heap.size+1) [.int .i64 lo2,.int .i64 hi2]:=ownbq;have o3:Own w1 (w.heap.size+1+1) [.int .i64 0,.int .i64 0]:=ownbq;have o4:Own w1 (w.heap.size+1+1+1) [.int .i64 0,.int .i64 0]:=ownbq;have q1:=own2 o1;have q2:=own2 o2;have hbz:Below w.heap.size w w1:=bel)|(go_at_call 55;refine(HB.out _).mono ?_;rintro e w2 ⟨rfl,hb2⟩;clear HB;have p1:=o1.below hb2;have p2:=o2.below hb2;have p3:=o3.below hb2;have p4:=o4.below hb2;have r1:=own2 p1;have r2:=own2 p2;have r3:=own2 p3;have r4:=own2 p4;have s3:=set2 p3;have s4:=set2 p4;have hby:Below w.heap.size w w2:=bel;clear hb2 hb1 hbz o1 o2 o3 o4 q1 q2)|fail)
    go_region
    all_goals go_wp2
    all_goals refine flag2_end (by rfl) (by rfl) (by rfl) (by rfl) ownbq ownbq si ?_
    all_goals exact⟨ret_ssb oz oz oz oz,bel⟩
   ·skip
    have e1:min hi (hi2-1)=hi2-1:=oz
    have e2:max lo2 (lo+1)=lo2:=oz
    rw[e1,e2];go_enter Tryz.func89,Tryz.ntmps89;go_wp2_with (first|(go_at_call 55;refine(HA.out _).mono ?_;rintro e w1 ⟨rfl,hb1⟩;clear HA;have o1:Own w1 w.heap.size [.int .i64 lo,.int .i64 hi]:=ownbq;have o2:Own w1 (w.heap.size+1) [.int .i64 lo2,.int .i64 hi2]:=ownbq;have o3:Own w1 (w.heap.size+1+1) [.int .i64 0,.int .i64 0]:=ownbq;have o4:Own w1 (w.heap.size+1+1+1) [.int .i64 0,.int .i64 0]:=ownbq;have q1:=own2 o1;have q2:=own2 o2;have hbz:Below w.heap.size w w1:=bel)|(go_at_call 55;refine(HB.out _).mono ?_;rintro e w2 ⟨rfl,hb2⟩;clear HB;have p1:=o1.below hb2;have p2:=o2.below hb2;have p3:=o3.below hb2;have p4:=o4.below hb2;have r1:=own2 p1;have r2:=own2 p2;have r3:=own2 p3;have r4:=own2 p4;have s3:=set2 p3;have s4:=set2 p4;have hby:Below w.heap.size w w2:=bel;clear hb2 hb1 hbz o1 o2 o3 o4 q1 q2)|fail)
    go_region
    all_goals go_wp2
    all_goals refine flag2_end (by rfl) (by rfl) (by rfl) (by rfl) ownbq ownbq si ?_
    all_goals exact⟨ret_ssb oz oz oz oz,bel⟩
end Go.Proofs.YteebpnbdihcfmaaGreatDoor
