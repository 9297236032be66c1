/- Package span -/
import Derived.Test.YteebpnbdihcfmaaGreatDoorJ02
set_option linter.unusedVariables false
set_option linter.unusedSimpArgs false
set_option maxRecDepth 100000
set_option maxHeartbeats 20000000
namespace Go.Proofs.YteebpnbdihcfmaaGreatDoor
open Go.RowKit
def eP (a b:aB):aB×aB×Bool:=if b.hi<=a.lo then(cO,cO,false)else(⟨a.lo,min a.hi (b.hi-1)⟩,⟨max b.lo (a.lo+1),b.hi⟩,true)
theorem uO {F:Func}{i j l:Nat}{Q:Ending->World->Prop}{T:Array Value}{W:World}{k k':Nat}{lo hi lo2 hi2:Int}{b:Bool}(hF:F.results=#[.cell i 47,.cell j 47,.tmp l]) (hT:T[i]? = some (.pointer (some ⟨k,0,none⟩))) (hT3:T[j]? = some (.pointer (some ⟨k',0,none⟩))) (hT2:T[l]? = some (.bool b)) (ho:aF W k [.int .i64 lo,.int .i64 hi]) (ho2:aF W k' [.int .i64 lo2,.int .i64 hi2]) {ex:Exit}(hx:ex=.ret\/ex=.normal)
 (hq:Q (.returned (.tuple #[.agg #[.int .i64 lo,.int .i64 hi],.agg #[.int .i64 lo2,.int .i64 hi2],.bool b])) W):bodyPost Tryz.prog F Q ex { tmps:=T,defers:=[] } W:=by
 obtain⟨_,r0,r1,_⟩:=aD ho;obtain⟨_,r2,r3,_⟩:=aD ho2;have hr:(results F T).run Tryz.prog W=.ok (.tuple #[.agg #[.int .i64 lo,.int .i64 hi],.agg #[.int .i64 lo2,.int .i64 hi2],.bool b]) W:=by
  simp[results,hF,go_sem,hT,hT2,hT3,r0,r1,r2,r3]
 rcases hx with rfl|rfl
 ·exact bodyPost_ret hr rfl hq
 ·exact⟨rfl,_,hr,hq⟩
theorem aS9 {a b c d a' b' c' d':Int}{e:Bool}(h:a=a') (h2:b=b') (h3:c=c') (h4:d=d'):Ending.returned (.tuple #[.agg #[.int .i64 a,.int .i64 b],.agg #[.int .i64 c,.int .i64 d],.bool e])=.returned (.tuple #[.agg #[.int .i64 a',.int .i64 b'],.agg #[.int .i64 c',.int .i64 d'],.bool e]):=by rw[h,h2,h3,h4]
theorem aRs {p:Prop}(h:p:=by
 refine uO (by rfl) (by rfl) (by rfl) (by rfl) aK aK si ?_;exact⟨rfl,bel⟩):p:=h
theorem aJe {p:Prop}(h:p:=by
 rw[e1,e2];go_enter Tryz.func89,Tryz.ntmps89;go_wp2_with (first|(go_at_call 55;refine(HA.out _).mono ?_;rintro e w1 ⟨rfl,hb1⟩;clear HA;have o1:aF w1 w.heap.size [_,_]:=aK;have o2:aF w1 (w.heap.size+1) [_,_]:=aK;have o3:aF w1 (w.heap.size+1+1) [_,_]:=aK;have o4:aF w1 (w.heap.size+1+1+1) [_,_]:=aK;have q1:=aD o1;have q2:=aD o2;have hbz:Below w.heap.size w w1:=bel)|(go_at_call 55;refine(HB.out _).mono ?_;rintro e w2 ⟨rfl,hb2⟩;clear HB;have p1:=o1.below hb2;have p2:=o2.below hb2;have p3:=o3.below hb2;have p4:=o4.below hb2;have r1:=aD p1;have r2:=aD p2;have r3:=aD p3;have r4:=aD p4;have s3:=cQ p3;have s4:=cQ p4;have hby:Below w.heap.size w w2:=bel;clear hb2 hb1 hbz o1 o2 o3 o4 q1 q2)|fail)
 go_region
 all_goals go_wp2
 all_goals refine uO (by rfl) (by rfl) (by rfl) (by rfl) aK aK si ?_
 all_goals exact⟨aS9 oz oz oz oz,bel⟩):p:=h
theorem aIk (a b:aB) (w:World) (ha:a.lo<=a.hi) (hb:b.lo<=b.hi) (i1:aM a.lo) (i2:aM b.hi):Calls Tryz.prog 89 #[aJ a,aJ b] w fun e w'=>e=.returned (.tuple #[aJ (eP a b).1,aJ (eP a b).2.1,.bool (eP a b).2.2])/\Below w.heap.size w w':=by
 have HA:=qd (fun w=>eM a w ha);have HB:=qd (fun w=>eM b w hb);unfold eP cO;unfold aJ at *;obtain⟨lo,hi⟩:=a;obtain⟨lo2,hi2⟩:=b;dsimp only at *;by_cases h:hi2<=lo
 ·rw[if_pos h];dsimp only;go_enter Tryz.func89,Tryz.ntmps89;go_wp2_with (first|(go_at_call 55;refine(HA.out _).mono ?_;rintro e w1 ⟨rfl,hb1⟩;clear HA;have o1:aF w1 w.heap.size [_,_]:=aK;have o2:aF w1 (w.heap.size+1) [_,_]:=aK;have o3:aF w1 (w.heap.size+1+1) [_,_]:=aK;have o4:aF w1 (w.heap.size+1+1+1) [_,_]:=aK;have q1:=aD o1;have q2:=aD o2;have hbz:Below w.heap.size w w1:=bel)|(go_at_call 55;refine(HB.out _).mono ?_;rintro e w2 ⟨rfl,hb2⟩;clear HB;have p1:=o1.below hb2;have p2:=o2.below hb2;have p3:=o3.below hb2;have p4:=o4.below hb2;have r1:=aD p1;have r2:=aD p2;have r3:=aD p3;have r4:=aD p4;have s3:=cQ p3;have s4:=cQ p4;have hby:Below w.heap.size w w2:=bel;clear hb2 hb1 hbz o1 o2 o3 o4 q1 q2)|fail)
  exact aRs
 ·rw[if_neg h];dsimp only;unfold aM at i1 i2;have hw1:IntKind.i64.wrap (hi2-1)=hi2-1:=IntWalk.i64_in _ oz;have hw2:IntKind.i64.wrap (lo+1)=lo+1:=IntWalk.i64_in _ oz;clear i1 i2;by_cases d1:hi<=hi2-1
  ·by_cases d2:lo2<=lo+1
   ·skip
    have e1:min hi (hi2-1)=hi:=oz
    have e2:max lo2 (lo+1)=lo+1:=oz
    exact aJe
   ·skip
    have e1:min hi (hi2-1)=hi:=oz
    have e2:max lo2 (lo+1)=lo2:=oz
    exact aJe
  ·by_cases d2:lo2<=lo+1
   ·skip
    have e1:min hi (hi2-1)=hi2-1:=oz
    have e2:max lo2 (lo+1)=lo+1:=oz
    exact aJe
   ·skip
    have e1:min hi (hi2-1)=hi2-1:=oz
    have e2:max lo2 (lo+1)=lo2:=oz
    exact aJe
end Go.Proofs.YteebpnbdihcfmaaGreatDoor
