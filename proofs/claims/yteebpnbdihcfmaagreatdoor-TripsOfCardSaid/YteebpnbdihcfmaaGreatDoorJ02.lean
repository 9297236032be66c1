/- Package span; Regions that draw thei; append on a slice of t; Own rows of cells; The contracts of packa; Package flow -/
import Derived.Test.YteebpnbdihcfmaaGreatDoorJ01
import Derived.Below
import Derived.Lib.Mul64
import Derived.Laws.Bits64b
import Derived.Laws.AppendOwn
import Derived.Laws.OwnMore
import Derived.Tactics
import Derived.Deep.OwnRows
import Derived.Laws.CopyOwn
import Derived.Lib.AppendStr
import Derived.Deep.RegionLaw
import Derived.Deep.RegionHeld3
set_option linter.unusedVariables false
set_option linter.unusedSimpArgs false
set_option maxRecDepth 100000
set_option maxHeartbeats 20000000
namespace Go.Proofs.YteebpnbdihcfmaaGreatDoor
open Go.RowKit
theorem aU5 {p:Prop}(h:p:=by
 go_enter Tryz.func85,Tryz.ntmps85;go_wp2_with (first|(go_at_call 55;refine(HA.out _).mono ?_;rintro e w1 ⟨rfl,hb1⟩;clear HA;have o1:aF w1 w.heap.size [_,_]:=aK;have o2:aF w1 (w.heap.size+1) [_,_]:=aK;have o3:aF w1 (w.heap.size+1+1) [_,_]:=aK;have q1:=aD o1;have q2:=aD o2;have hbz:Below w.heap.size w w1:=bel)|(go_at_call 55;refine(HB.out _).mono ?_;rintro e w2 ⟨rfl,hb2⟩;clear HB;have p1:=o1.below hb2;have p2:=o2.below hb2;have p3:=o3.below hb2;have r1:=aD p1;have r2:=aD p2;have r3:=aD p3;have s3:=cQ p3;have hby:Below w.heap.size w w2:=bel;clear hb2 hb1 hbz o1 o2 o3 q1 q2)|fail)
 refine bV (by rfl) (by rfl) (by rfl) aK si ?_;exact⟨rfl,bel⟩):p:=h
def aJ (p:aB):Value:=.agg #[.int .i64 p.lo,.int .i64 p.hi]
def cJ (a b:aB):aB:=if a.hi<a.lo then b else if b.hi<b.lo then a else⟨min a.lo b.lo,max a.hi b.hi⟩
def rU (a b:aB):aB:=⟨max a.lo b.lo,min a.hi b.hi⟩
theorem vA {p:Prop}(h:p:=by
 go_wp2;go_ret;go_light;exact⟨rfl,bel⟩):p:=h
theorem qW (a:aB) (w:World):Calls Tryz.prog 55 #[aJ a] w fun e w'=>e=.returned (.bool (dU a))/\Below w.heap.size w w':=by
 obtain⟨lo,hi⟩:=a;unfold aJ dU;dsimp only;go_enter Tryz.func55,Tryz.ntmps55;exact vA
theorem aD3 {p:Prop}(h:p:=by
 go_wp2;go_ret;go_light
 first|exact⟨rfl,bel⟩|exact⟨by simp[d1],bel⟩):p:=h
theorem aNd (a:aB) (n:Int) (w:World):Calls Tryz.prog 114 #[aJ a,.int .i64 n] w fun e w'=>e=.returned (.bool (decide (a.lo<=n)&&decide (n<=a.hi)))/\Below w.heap.size w w':=by
 obtain⟨lo,hi⟩:=a;unfold aJ;dsimp only;by_cases h1:lo<=n
 ·have d1:decide (lo<=n)=true:=by simpa using h1
  go_enter Tryz.func114,Tryz.ntmps114;exact aD3
 ·have d1:decide (lo<=n)=false:=by simpa using h1
  go_enter Tryz.func114,Tryz.ntmps114;exact aD3
theorem cQ {w:World}{k:Nat}{a b:Value}(h:aF w k [a,b]) (x y:Value):(w.setCell ⟨k,0,none⟩ x).cell? ⟨k,0,none⟩=some x/\((w.setCell ⟨k,0,none⟩ x).setCell ⟨k,1,none⟩ y).cell? ⟨k,1,none⟩=some y :=
 ⟨(h.set 0 x si).2.1 0 _ rfl,((h.set 0 x si).set 1 y si).2.1 1 _ rfl⟩
theorem aVy {a b a' b':Int}(h:a=a') (h':b=b'):Ending.returned (.agg #[.int .i64 a,.int .i64 b])=.returned (.agg #[.int .i64 a',.int .i64 b']):=by rw[h,h']
theorem yJ (Q:Ending->World->Prop) (T:Array Value) (W:World) (k:Nat) (lo hi:Int) (ho:aF W k [.int .i64 lo,.int .i64 hi]) (hT:T[4]? = some (.pointer (some ⟨k,0,none⟩))) (ex:Exit) (hx:ex=.ret\/ex=.normal)
 (hq:Q (.returned (.agg #[.int .i64 lo,.int .i64 hi])) W):bodyPost Tryz.prog Tryz.f19 Q ex { tmps:=T,defers:=[] } W:=by
 obtain⟨_,r0,r1,_⟩:=aD ho;have hr:(results Tryz.f19 T).run Tryz.prog W=.ok (.agg #[.int .i64 lo,.int .i64 hi]) W:=by
  simp[results,Tryz.results19,go_sem,hT,r0,r1]
 rcases hx with rfl|rfl
 ·exact bodyPost_ret hr rfl hq
 ·exact⟨rfl,_,hr,hq⟩
theorem jU {p:Prop}(h:p:=by
 first|omega|(simp<;>omega)|(simp at * <;> omega)):p:=h
theorem vI (a b:aB) (w:World):Calls Tryz.prog 19 #[aJ a,aJ b] w fun e w'=>e=.returned (aJ (cJ a b))/\Below w.heap.size w w':=by
 have HA:=qd (fun w=>qW a w);have HB:=qd (fun w=>qW b w);obtain⟨lo,hi⟩:=a;obtain⟨lo2,hi2⟩:=b;unfold aJ dU at HA HB;unfold aJ cJ;dsimp only at *;by_cases h1:hi<lo
 ·have d1:decide (hi<lo)=true:=by simpa using h1
  rw[if_pos h1];rw[d1]at HA;go_enter Tryz.func19,Tryz.ntmps19;go_wp2_with (first|(go_at_call 55;refine(HA.out _).mono ?_;rintro e w1 ⟨rfl,hb1⟩;have qa:=aD ((((aF.new w [.int .i64 lo,.int .i64 hi] 47).alloc (.cells #[.int .i64 lo2,.int .i64 hi2] 47)).alloc (.cells #[.int .i64 0,.int .i64 0] 47)).below hb1);have qb:=aD (((aF.new' (w.alloc (.cells #[.int .i64 lo,.int .i64 hi] 47)) [.int .i64 lo2,.int .i64 hi2] 47 (w.heap.size+1) si).alloc (.cells #[.int .i64 0,.int .i64 0] 47)).below hb1);have hr1:=(aF.new' ((w.alloc (.cells #[.int .i64 lo,.int .i64 hi] 47)).alloc (.cells #[.int .i64 lo2,.int .i64 hi2] 47)) [.int .i64 0,.int .i64 0] 47 (w.heap.size+1+1) si).below hb1;have qr:=aD hr1;have sr:=cQ hr1;have hz1:=hb1.size)|fail)
  refine yJ _ _ _ (w.heap.size+1+1) lo2 hi2 ((hr1.set 0 _ si).set 1 _ si) rfl _ si ⟨rfl,bel⟩
 ·have d1:decide (hi<lo)=false:=by simpa using h1
  rw[if_neg h1];rw[d1]at HA;by_cases h2:hi2<lo2
  ·have d2:decide (hi2<lo2)=true:=by simpa using h2
   rw[if_pos h2];rw[d2]at HB;go_enter Tryz.func19,Tryz.ntmps19;go_wp2_with (first|(go_at_call 55;refine(HA.out _).mono ?_;rintro e w1 ⟨rfl,hb1⟩;have qa:=aD ((((aF.new w [.int .i64 lo,.int .i64 hi] 47).alloc (.cells #[.int .i64 lo2,.int .i64 hi2] 47)).alloc (.cells #[.int .i64 0,.int .i64 0] 47)).below hb1);have hq1:=(aF.new' (w.alloc (.cells #[.int .i64 lo,.int .i64 hi] 47)) [.int .i64 lo2,.int .i64 hi2] 47 (w.heap.size+1) si).alloc (.cells #[.int .i64 0,.int .i64 0] 47);have qb:=aD (hq1.below hb1);have hr1:=(aF.new' ((w.alloc (.cells #[.int .i64 lo,.int .i64 hi] 47)).alloc (.cells #[.int .i64 lo2,.int .i64 hi2] 47)) [.int .i64 0,.int .i64 0] 47 (w.heap.size+1+1) si).below hb1;have hp1:=((((aF.new w [.int .i64 lo,.int .i64 hi] 47).alloc (.cells #[.int .i64 lo2,.int .i64 hi2] 47)).alloc (.cells #[.int .i64 0,.int .i64 0] 47)).below hb1);have hz1:=hb1.size;clear HA)|(go_at_call 55;refine(HB.out _).mono ?_;rintro e w2 ⟨rfl,hb2⟩;have qa2:=aD (hp1.below (hb2.mono jU));have qb2:=aD ((hq1.below hb1).below (hb2.mono jU));have hr2:=hr1.below (hb2.mono jU);have qr2:=aD hr2;have sr2:=cQ hr2;have hz2:=hb2.size;have hb3:=hb1.trans (hb2.mono jU);clear HB)|fail)
   refine yJ _ _ _ (w.heap.size+1+1) lo hi ((hr2.set 0 _ si).set 1 _ si) rfl _ si ⟨rfl,bel⟩
  ·have d2:decide (hi2<lo2)=false:=by simpa using h2
   rw[if_neg h2];rw[d2]at HB;go_enter Tryz.func19,Tryz.ntmps19;go_wp2_with (first|(go_at_call 55;refine(HA.out _).mono ?_;rintro e w1 ⟨rfl,hb1⟩;have qa:=aD ((((aF.new w [.int .i64 lo,.int .i64 hi] 47).alloc (.cells #[.int .i64 lo2,.int .i64 hi2] 47)).alloc (.cells #[.int .i64 0,.int .i64 0] 47)).below hb1);have hq1:=(aF.new' (w.alloc (.cells #[.int .i64 lo,.int .i64 hi] 47)) [.int .i64 lo2,.int .i64 hi2] 47 (w.heap.size+1) si).alloc (.cells #[.int .i64 0,.int .i64 0] 47);have qb:=aD (hq1.below hb1);have hr1:=(aF.new' ((w.alloc (.cells #[.int .i64 lo,.int .i64 hi] 47)).alloc (.cells #[.int .i64 lo2,.int .i64 hi2] 47)) [.int .i64 0,.int .i64 0] 47 (w.heap.size+1+1) si).below hb1;have hp1:=((((aF.new w [.int .i64 lo,.int .i64 hi] 47).alloc (.cells #[.int .i64 lo2,.int .i64 hi2] 47)).alloc (.cells #[.int .i64 0,.int .i64 0] 47)).below hb1);have hz1:=hb1.size;clear HA)|(go_at_call 55;refine(HB.out _).mono ?_;rintro e w2 ⟨rfl,hb2⟩;have qa2:=aD (hp1.below (hb2.mono jU));have qb2:=aD ((hq1.below hb1).below (hb2.mono jU));have hr2:=hr1.below (hb2.mono jU);have qr2:=aD hr2;have sr2:=cQ hr2;have hz2:=hb2.size;have hb3:=hb1.trans (hb2.mono jU);clear HB)|fail)
   all_goals refine yJ _ _ _ (w.heap.size+1+1) _ _ ((hr2.set 0 _ si).set 1 _ si) rfl _ si ⟨aVy oz oz,bel⟩
def kO:aB:=⟨-9223372036854775808,9223372036854775807⟩
def iJ (a:aB) (n:Int):Bool:=decide (a.lo<=n)&&decide (n<=a.hi)
theorem aVa {a a':Int}{b b':Bool}{k:IntKind}(h:a=a') (h':b=b'):Ending.returned (.tuple #[.int k a,.bool b])=.returned (.tuple #[.int k a',.bool b']):=by rw[h,h']
theorem aAv {a b a' b':Int}{c c':Bool}(h:a=a') (h':b=b') (h2:c=c'):Ending.returned (.tuple #[.agg #[.int .i64 a,.int .i64 b],.bool c])=.returned (.tuple #[.agg #[.int .i64 a',.int .i64 b'],.bool c']):=by rw[h,h',h2]
theorem qR {w:World}{k:Nat}{a b x y:Value}(h:aF w k [a,b]):aF ((w.setCell ⟨k,0,none⟩ x).setCell ⟨k,1,none⟩ y) k [x,y]:=(h.set 0 x si).set 1 y si
theorem aK {w:World}{k:Nat}{cs:List Value}(h:aF w k cs:=by repeat(first|with_reducible assumption|(with_reducible apply qR)|(with_reducible refine aF.new' _ [_,_] _ _ ?hk;case hk=>(simp;done))|with_reducible refine aF.drew ?_|with_reducible refine aF.drewN ?_ _|with_reducible refine aF.alloc ?_ _|with_reducible refine aF.below ?_ (by with_reducible assumption)|(with_reducible refine aF.setOther ?_ _ ?hk;case hk=>(first|(simp;done)|(simp;omega))))):aF w k cs:=h
/-- a result of two cells -/
theorem fV {F:Func}{i:Nat}{Q:Ending->World->Prop}{T:Array Value}{W:World}{k:Nat}{lo hi:Int}(hF:F.results=#[.cell i 47]) (hT:T[i]? = some (.pointer (some ⟨k,0,none⟩))) (ho:aF W k [.int .i64 lo,.int .i64 hi]) {ex:Exit}(hx:ex=.ret\/ex=.normal)
 (hq:Q (.returned (.agg #[.int .i64 lo,.int .i64 hi])) W):bodyPost Tryz.prog F Q ex { tmps:=T,defers:=[] } W:=by
 obtain⟨_,r0,r1,_⟩:=aD ho;have hr:(results F T).run Tryz.prog W=.ok (.agg #[.int .i64 lo,.int .i64 hi]) W:=by
  simp[results,hF,go_sem,hT,r0,r1]
 rcases hx with rfl|rfl
 ·exact bodyPost_ret hr rfl hq
 ·exact⟨rfl,_,hr,hq⟩
/-- a result of two cells, and a flag -/
theorem bV {F:Func}{i j:Nat}{Q:Ending->World->Prop}{T:Array Value}{W:World}{k:Nat}{lo hi:Int}{b:Bool}(hF:F.results=#[.cell i 47,.tmp j]) (hT:T[i]? = some (.pointer (some ⟨k,0,none⟩))) (hT2:T[j]? = some (.bool b)) (ho:aF W k [.int .i64 lo,.int .i64 hi]) {ex:Exit}(hx:ex=.ret\/ex=.normal)
 (hq:Q (.returned (.tuple #[.agg #[.int .i64 lo,.int .i64 hi],.bool b])) W):bodyPost Tryz.prog F Q ex { tmps:=T,defers:=[] } W:=by
 obtain⟨_,r0,r1,_⟩:=aD ho;have hr:(results F T).run Tryz.prog W=.ok (.tuple #[.agg #[.int .i64 lo,.int .i64 hi],.bool b]) W:=by
  simp[results,hF,go_sem,hT,hT2,r0,r1]
 rcases hx with rfl|rfl
 ·exact bodyPost_ret hr rfl hq
 ·exact⟨rfl,_,hr,hq⟩
theorem wG {p:Prop}(h:p:=by
 refine fV (by rfl) (by rfl) aK si ?_;exact⟨rfl,bel⟩):p:=h
theorem tA (w:World):Calls Tryz.prog 88 #[] w fun e w'=>e=.returned (aJ kO)/\Below w.heap.size w w':=by
 unfold aJ kO;go_enter Tryz.func88,Tryz.ntmps88;go_wp2;exact wG
def kI (a b:aB):Int:=if b.hi<=a.lo then 0 else IntKind.u64.wrap (IntKind.u64.wrap b.hi-IntKind.u64.wrap a.lo)
theorem aD6 (a b:aB) (w:World):Calls Tryz.prog 25 #[aJ a,aJ b] w fun e w'=>e=.returned (.int .u64 (kI a b))/\Below w.heap.size w w':=by
 obtain⟨lo,hi⟩:=a;obtain⟨lo2,hi2⟩:=b;unfold aJ kI;dsimp only;by_cases h1:hi2<=lo
 ·rw[if_pos h1];go_enter Tryz.func25,Tryz.ntmps25;exact vA
 ·rw[if_neg h1];go_enter Tryz.func25,Tryz.ntmps25;exact vA
def iX (a b:Int):Int×Bool:=(wrap64 (a+b),decide (a<wrap64 (a+b))==decide (0<b))
def lU (a b:Int):Int×Bool:=(wrap64 (a-b),decide (wrap64 (a-b)<a)==decide (0<b))
theorem zZ (a b:Int) (w:World):Calls Tryz.prog 107 #[.int .i64 a,.int .i64 b] w fun e w'=>e=.returned (.tuple #[.int .i64 (iX a b).1,.bool (iX a b).2])/\w'=w:=by
 unfold iX;go_enter Tryz.func107,Tryz.ntmps107;go_wp2;go_ret2;exact⟨rfl,rfl⟩
theorem aB1 (a b:Int) (w:World):Calls Tryz.prog 109 #[.int .i64 a,.int .i64 b] w fun e w'=>e=.returned (.tuple #[.int .i64 (lU a b).1,.bool (lU a b).2])/\w'=w:=by
 unfold lU;go_enter Tryz.func109,Tryz.ntmps109;go_wp2;go_ret2;exact⟨rfl,rfl⟩
theorem nX (x:Int):IntKind.u64.wrap x=x%18446744073709551616:=by unfold IntKind.wrap IntKind.signed IntKind.bits;simp
theorem rN (a:Int) (w:World) (ha:aM a):Calls Tryz.prog 121 #[.int .i64 a] w fun e w'=>e=.returned (.int .u64 a.natAbs)/\w'=w:=by
 unfold aM at ha;by_cases h1:a<0
 ·go_enter Tryz.func121,Tryz.ntmps121;go_wp2;go_ret;go_light;refine⟨fU ?_,rfl⟩;rw[nX];rw[nX];omega
 ·go_enter Tryz.func121,Tryz.ntmps121;go_wp2;go_ret;go_light;refine⟨fU ?_,rfl⟩;show a=_;omega
def cZ (a b:aB):aB×Bool:=if(rU a b).hi<(rU a b).lo then(⟨0,0⟩,false)else(rU a b,true)
theorem aBe (a b:aB) (w:World):Calls Tryz.prog 84 #[aJ a,aJ b] w fun e w'=>e=.returned (.tuple #[aJ (cZ a b).1,.bool (cZ a b).2])/\Below w.heap.size w w':=by
 have HA:=qd (fun x y w=>qW ⟨x,y⟩ w);unfold cZ;obtain⟨lo,hi⟩:=a;obtain⟨lo2,hi2⟩:=b;unfold rU at *;unfold aJ dU at HA ;unfold aJ;dsimp only at *;by_cases h1:min hi hi2<max lo lo2
 ·rw[if_pos h1];go_enter Tryz.func84,Tryz.ntmps84;go_wp2_with (first|(go_at_call 55;refine(HA.out _ _ _).mono ?_;rintro e w1 ⟨rfl,hb1⟩;have hc1:=bT hb1;have hz1:=hb1.size)|fail)
  all_goals first|(exfalso;grind)|(refine bV (by rfl) (by rfl) (by rfl) aK si ?_;exact⟨rfl,bel⟩)
 ·rw[if_neg h1];go_enter Tryz.func84,Tryz.ntmps84;go_wp2_with (first|(go_at_call 55;refine(HA.out _ _ _).mono ?_;rintro e w1 ⟨rfl,hb1⟩;have hc1:=bT hb1;have hz1:=hb1.size)|fail)
  all_goals first|(exfalso;grind)|(refine bV (by rfl) (by rfl) (by rfl) aK si ?_;exact⟨aAv (by grind) (by grind) rfl,bel⟩)
section
section
variable {P : Program} {ops : Array Oper} {md : Region.Mode} {C : World -> Prop}
def aQ3 (P:Program) (md:Region.Mode) (ops:Array Oper) (C:World->Prop) (n:Nat) (L:Array Bool->Act->Prop):Nat->Array Bool->Act->Prop
 | 0,listed,a=>L listed a
 | f+1,listed,a =>
  Region.ready md ops listed≠[]/\∀ i∈Region.ready md ops listed,i<n/\qOp P ops C i (aQ3 P md ops C n L f (listed.setIfInBounds i true)) a
theorem pP {n g:Nat}{L:Array Bool->Act->Prop}{Q':Exit->Act->World->Prop}(hL:∀ listed a w,C w->L listed a->wpAny P md ops Q' g listed a w) :
 ∀ (f:Nat) (listed:Array Bool) (a:Act) (w:World),C w->aQ3 P md ops C n L f listed a->wpAny P md ops Q' (f+g) listed a w
 | 0,listed,a,w,hw,h=>by rw[Nat.zero_add];exact hL _ _ _ hw h
 | f+1,listed,a,w,hw,h=>by
  rw[show f+1+g=(f+g)+1 by omega];exact⟨fun h0=>absurd h0 h.1,fun i hi=>wpOp_of_qOp hw (fun a' w' hw' h'=>pP hL f _ a' w' hw' h') (h.2 i hi).2⟩
theorem aPy {p:Prop}(h:p:=by
 rcases Nat.lt_or_ge j n with h|h
 ·exact h
 ·exact absurd hj (tail_waits hs hc hn inv _ i rfl hin hun j h)):p:=h
theorem aIg {n i:Nat}{oi:Oper}{v:Value}{L:Array Bool->Act->Prop}(hi:ops[i]? = some oi) (hsel:∀ (j:Nat) (o:Oper) cs b,ops[j]? = some o->o.op≠.select cs b)
 (hs:Region.sinkB md ops n=true) (hc:Region.chainB md ops n=true) (hn:n<ops.size) (hin:i<n)
 (hdone:∀ listed a,L listed a->∀ j∈Region.ready md ops listed,n<=j) :
 ∀ (f:Nat) (listed:Array Bool) (a:Act),HeadInv md ops n listed ->
  (∀ j oj,ops[j]? = some oj->j≠i->listed.getD j true=false->(∀ e∈oj.after,Region.binds md e=true->e.on≠i)->oi.apart ops oj=true) ->
  i∈Region.ready md ops listed->YieldsIn P ops C oi v a ->
  aQ3 P md ops C n L f (listed.setIfInBounds i true) (a.put oi.dst v)->aQ3 P md ops C n L (f+1) listed a:=by
 intro f
 induction f with
 | zero =>
  intro listed a inv _ hr hy H;have hun:=(mem_ready.1 hr).1;refine⟨fun h=>(by grind),fun j hj=>?_⟩;have hjn:j<n:=by
   exact aPy
  refine⟨hjn,?_⟩;by_cases hji:j=i
  ·subst hji;exact hy.qOp hi H
  ·have:=hdone _ _ H j (ready_mono hj hji);omega
 | succ f ih =>
  intro listed a inv hfree hr hy H;have hun:=(mem_ready.1 hr).1;refine⟨fun h=>(by grind),fun j hj=>?_⟩;have hjn:j<n:=by
   exact aPy
  refine⟨hjn,?_⟩;by_cases hji:j=i
  ·subst hji;exact hy.qOp hi H
  ·have h1:=(H.2 j (ready_mono hj hji)).2;obtain⟨hjun,oj,hoj,hall⟩:=mem_ready.1 hj;have hnot:∀ e∈oj.after,Region.binds md e=true->e.on≠i:=fun e he hb heq=>by
    grind
   have h2:=qOp_put hoj (hfree j oj hoj hji hjun hnot) (fun cs b=>hsel i oi cs b hi) (fun cs b=>hsel j oj cs b hoj) hy h1;have hfree':∀ k ok,ops[k]? = some ok->k≠i->(listed.setIfInBounds j true).getD k true=false ->
    (∀ e∈ok.after,Region.binds md e=true->e.on≠i)->oi.apart ops ok=true:=fun k ok hk hki hun hno=>by
    refine hfree k ok hk hki ?_ hno;by_cases hjk:j=k
    ·subst hjk;exact hjun
    ·rw[getD_set_ne true hjk]at hun;exact hun
   refine qOp_mono (fun a' h3=>ih (listed.setIfInBounds j true) a' (inv.set hj hjn) hfree' (ready_mono hr (Ne.symm hji)) h3.1 ?_) h2;rw[Array.setIfInBounds_comm _ _ hji];exact h3.2
theorem aF6 {n g:Nat}{Lq:Act->Prop}(hsel:Region.noSelect ops=true) (hs:Region.sinkB md ops n=true) (hc:Region.chainB md ops n=true) (hn:n<ops.size) :
 ∀ (l:List Oper) (k:Nat) (listed:Array Bool) (a:Act),(∀ j,j<l.length->l[j]? = ops[k+j]?)->k+l.length=n->HeadInv md ops n listed ->
 Region.lexHead md ops g l.length k listed=true->wpQuiet P ops C Lq l a ->
 aQ3 P md ops C n (fun listed' a'=>Region.seqB md ops g n listed'=true/\Lq a') l.length listed a
 | [],k,listed,a,_,hk,_,hB,h=>by
  have:k=n:=by simpa using hk
  subst this;exact⟨by simpa[Region.lexHead]using hB,h⟩
 | o::l,k,listed,a,hl,hk,inv,hB,h=>by
  have h0:ops[k]? = some o:=by simpa using (hl 0 si).symm
  simp only[List.length_cons,Region.lexHead,Bool.and_eq_true]at hB;obtain⟨⟨hr,hf⟩,hB'⟩:=hB;have hkn:k<n:=by simp only[List.length_cons]at hk;omega
  have hr':k∈Region.ready md ops listed:=by grind
  have hst:qOp P ops C k (wpQuiet P ops C Lq l) a:=by unfold qOp;simp only[h0];exact h
  obtain⟨v,hy,hK⟩:=yieldsIn_of_qOp h0 hst;exact aIg h0 (Region.noSelect_spec hsel) hs hc hn hkn (fun listed' a' hL=>seqB_ready hL.1) l.length listed a inv (Region.free_spec h0 hf) hr' hy
   (aF6 hsel hs hc hn l (k+1) _ _ (fun j hj=>by have:=hl (j+1) (by simp;omega);simpa[Nat.add_assoc,Nat.add_comm 1 j]using this) (by grind) (inv.set hr' hkn) hB' hK)
theorem qS {id:Nat}{Q:Exit->Act->World->Prop}{a:Act}{w:World}{l:List Oper}(n:Nat) (hm:P.follows .mixedOrders=true) (hB:Region.lexTailB .any l.toArray n=true) (hC:C w.drew)
 (h:wpQuiet P l.toArray C (fun a'=>∀ w',C w'->wpList P l.toArray Q (l.drop n) a' w') (l.take n) a):(Code.region id l.toArray true).wp P Q a w:=by
 simp only[Region.lexTailB,Bool.and_eq_true,decide_eq_true_eq]at hB;obtain⟨⟨⟨⟨hsel,hn⟩,hs⟩,hc⟩,hlex⟩:=hB;have:n<l.length:=oz
 have htl:(l.take n).length=n:=by simp;omega
 have hdl:(l.drop n).length=l.toArray.size-n:=si
 have inv0:HeadInv .any l.toArray n (Array.replicate l.toArray.size false) :=
  ⟨si,fun j oj _ hl=>(by rw[getD_replicate_false]at hl;cases hl),fun t _ ht=>getD_in (by grind) (getD_replicate_false _ _)⟩
 have H:=aF6 (md:=.any) (g:=l.toArray.size-n) hsel hs hc hn (l.take n) 0 _ a (fun j hj=>by
  have hj':j<n:=by rw[htl]at hj;exact hj
  simp[hj']) oz inv0 (by grind) h
 refine wp_region_any hm ?_;have:=pP (Q':=Q) (g:=l.toArray.size-n) (fun listed a' w' hw' hL=>by
  have:=wpAny_of_seq (md:=.any) (Q':=Q) (l.drop n) n listed a' w' (fun j=>by simp[List.getElem?_drop]) (by grind) (hL.2 w' hw')
  rwa [hdl]at this) _ _ _ _ hC H
 rw[htl,show n+(l.toArray.size-n)=l.toArray.size by omega]at this;exact this
/-! an operation that panics, in whatever world of the class -/
end
/-! the class of the worlds below which nothing has turned, its worlds named by a family -/
@[irreducible] def WQ (P:Program) (ops:Array Oper) (C:World->Prop) (Q:Act->Prop) (l:List Oper) (a:Act):Prop:=wpQuiet P ops C Q l a
theorem gX {P:Program}{ops:Array Oper}{C:World->Prop}{Q:Act->Prop}{a:Act}(h:Q a):WQ P ops C Q [] a:=by unfold WQ;exact h
theorem aU {P:Program}{ops:Array Oper}{C:World->Prop}{Q:Act->Prop}{a:Act}{o:Oper}{rest:List Oper}
 (h:∀ K:Act->Prop,(∀ a,WQ P ops C Q rest a->K a)->if Region.wanted o (yielded ops a.tmps)then o.quiet P a C K else K (a.put o.dst undef)):WQ P ops C Q (o::rest) a:=by
 unfold WQ at *;exact wpQuiet_step h
theorem bI {P:Program}{id:Nat}{Q:Exit->Act->World->Prop}{a:Act}{w:World}{l:List Oper}(n:Nat) (hm:P.follows .mixedOrders=true) (hB:Region.lexTailB .any l.toArray n=true)
 (h:∀ (T:Type) (F:T->World),(∀ t,Below w.heap.size w (F t))->(∀ w',Below w.heap.size w w'->∃ t,w'=F t) ->
   WQ P l.toArray (fun w'=>∃ t,w'=F t) (fun a'=>∀ t,wpList P l.toArray Q (l.drop n) a' (F t)) (l.take n) a):(Code.region id l.toArray true).wp P Q a w:=by
 have h1:=h { w':World // Below w.heap.size w w' } Subtype.val (fun t=>t.2) (fun w' hw'=>⟨⟨w',hw'⟩,rfl⟩);unfold WQ at h1;refine qS (C:=fun w'=>∃ t:{ w':World // Below w.heap.size w w' },w'=t.1) n hm hB ⟨⟨w.drew,(Below.refl _ _).drew⟩,rfl⟩ ?_
 simp_all
/-- a callee's contract, met in a world of the family -/
theorem bE {P:Program}{f:FuncId}{args:Array Value}{T:Type}{F:T->World}{w W:World}{v:Value}(hF:Below W.heap.size W w) (hall:∀ w',Below W.heap.size W w'->∃ t,w'=F t)
 (h:Calls P f args w fun e w'=>e=.returned v/\Below w.heap.size w w'):Calls P f args w fun e w''=>e=.returned v/\∃ t,w''=F t :=
 h.mono fun _ _ ⟨he,hb⟩=>⟨he,hall _ (hF.trans (hb.mono hF.size))⟩
end
theorem zO {P:Program}{f:FuncId}{args:Array Value}{w:World}{v:Ending}(h:Calls P f args w fun e w'=>e=v/\w'=w):Calls P f args w fun e w'=>e=v/\Below w.heap.size w w':=h.mono fun _ _ ⟨a,b⟩=>⟨a,b▸Below.refl _ _⟩
theorem aDs (a:Nat) (ha:a<18446744073709551616):bits .and .u64 (a:Int) 4294967295=((a%4294967296:Nat):Int):=by
 have h:=bits_and_u64_nat a 4294967295 ha oz;have e:a &&& 4294967295=a%4294967296:=Nat.and_two_pow_sub_one_eq_mod a 32;rw[e]at h;exact h
theorem aVf (a:Nat):(a:Int) / 4294967296=((a / 4294967296:Nat):Int):=oz
theorem aUv (a b:Nat):(a:Int)*(b:Int)=((a*b:Nat):Int):=(Int.natCast_mul a b).symm
theorem aVe (a b:Nat):(a:Int)+(b:Int)=((a+b:Nat):Int):=(Int.natCast_add a b).symm
theorem mY (a:Nat) (ha:a<18446744073709551616):IntKind.u64.wrap (a:Int)=(a:Int):=by rw[nX];omega
theorem aQ7 (a:Nat):IntKind.u64.wrap (a:Int)=((a%18446744073709551616:Nat):Int):=by rw[nX];omega
theorem aKi (x y:Nat) (hx:x<18446744073709551616) (hy:y<18446744073709551616) (w:World) :
 Calls Tryz.prog 120 #[.int .u64 x,.int .u64 y] w fun e w'=>e=.returned (.tuple #[.int .u64 ((x*y / 18446744073709551616:Nat):Int),.int .u64 ((x*y%18446744073709551616:Nat):Int)])/\w'=w:=by
 obtain⟨bd,bt,bw,hhi⟩:=Lib.mul64_hi x y hx hy;have ba:=Lib.half_mul_le (a:=x / 4294967296) (b:=y / 4294967296) oz oz;have bb:=Lib.half_mul_le (a:=x / 4294967296) (b:=y%4294967296) oz oz;have bc:=Lib.half_mul_le (a:=x%4294967296) (b:=y / 4294967296) oz oz;have ba':x / 4294967296*(y / 4294967296)<18446744073709551616:=oz
 have bb':x / 4294967296*(y%4294967296)<18446744073709551616:=oz
 have bc':x%4294967296*(y / 4294967296)<18446744073709551616:=oz
 have bh1:x / 4294967296*(y / 4294967296)+(x / 4294967296*(y%4294967296)+x%4294967296*(y%4294967296) / 4294967296) / 4294967296<18446744073709551616:=oz
 have bh:x / 4294967296*(y / 4294967296)+(x / 4294967296*(y%4294967296)+x%4294967296*(y%4294967296) / 4294967296) / 4294967296+((x / 4294967296*(y%4294967296)+x%4294967296*(y%4294967296) / 4294967296)%4294967296+x%4294967296*(y / 4294967296)) / 4294967296<18446744073709551616:=oz
 go_enter Tryz.func120,Tryz.ntmps120;go_wp2;simp only[aDs x hx,aDs y hy,aVf,aUv,aVe,mY _ bd,mY _ bb',mY _ bt,aDs _ bt,mY _ bc',mY _ bw,mY _ ba',mY _ bh1,mY _ bh,aQ7 (x*y)];rw[hhi];go_ret2;exact⟨rfl,rfl⟩
/-- a product, and whether it is what it would be without end -/
def gM (a b:Int):Int×Bool:=(wrap64 (a*b),decide (-9223372036854775808<=a*b)&&decide (a*b<=9223372036854775807))
theorem aCq {p:Prop}(h:p:=by
 simp[h1,h2,Int.neg_mul,Int.mul_neg]):p:=h
theorem aFo (a b:Int):a*b=if(decide (a<0)!=decide (b<0))=true then -((a.natAbs*b.natAbs:Nat):Int)else((a.natAbs*b.natAbs:Nat):Int):=by
 have e:((a.natAbs*b.natAbs:Nat):Int)=(a.natAbs:Int)*(b.natAbs:Int):=Int.natCast_mul _ _;rw[e];by_cases h1:a<0<;>by_cases h2:b<0
 ·rw[show(a.natAbs:Int) = -a by omega,show(b.natAbs:Int) = -b by omega];exact aCq
 ·rw[show(a.natAbs:Int) = -a by omega,show(b.natAbs:Int)=b by omega];exact aCq
 ·rw[show(a.natAbs:Int)=a by omega,show(b.natAbs:Int) = -b by omega];exact aCq
 ·rw[show(a.natAbs:Int)=a by omega,show(b.natAbs:Int)=b by omega];exact aCq
theorem aTp {p:Prop}(h:p:=by
 go_enter Tryz.func110,Tryz.ntmps110;go_wp2_with (first|(go_at_call 121;refine(HA.out _).mono ?_;rintro e w1 ⟨rfl,rfl⟩;clear HA)|(go_at_call 121;refine(HB.out _).mono ?_;rintro e w1 ⟨rfl,rfl⟩;clear HB)|(go_at_call 120;refine(HM.out _).mono ?_;rintro e w1 ⟨rfl,rfl⟩)|fail)
 all_goals first|(exfalso;clear HM HA HB;grind)|(exfalso;clear HM;grind)|skip
 all_goals go_ret2
 all_goals refine⟨aVa ?_ ?_,rfl⟩
 all_goals first|(clear HM HS;unfold wrap64;omega)|(clear HM HS;rw[Bool.eq_iff_iff];simp only[Bool.and_eq_true,decide_eq_true_eq,Bool.false_eq_true,false_iff];omega)):p:=h
theorem aHp (a b:Int) (w:World) (ha:aM a) (hb:aM b):Calls Tryz.prog 110 #[.int .i64 a,.int .i64 b] w fun e w'=>e=.returned (.tuple #[.int .i64 (gM a b).1,.bool (gM a b).2])/\w'=w:=by
 have HA:=qd (fun w=>rN a w ha);have HB:=qd (fun w=>rN b w hb);unfold aM at ha hb;have hna:a.natAbs<18446744073709551616:=oz
 have hnb:b.natAbs<18446744073709551616:=oz
 have HM:=qd (fun w=>aKi a.natAbs b.natAbs hna hnb w);unfold gM;rw[aFo a b];generalize a.natAbs*b.natAbs=p at HM ⊢;by_cases h1:(decide (a<0)!=decide (b<0))=true
 all_goals have HS:=qd h1
 ·rw[if_pos h1];exact aTp
 ·rw[if_neg h1];exact aTp
def eT (y n:Bool):aB:=if y then⟨1,1⟩else if n then⟨0,0⟩else⟨0,1⟩
theorem zM (y n:Bool) (w:World):Calls Tryz.prog 113 #[.bool y,.bool n] w fun e w'=>e=.returned (aJ (eT y n))/\Below w.heap.size w w':=by
 unfold aJ eT;cases y<;>cases n
 all_goals simp only[if_true,if_false,Bool.false_eq_true]
 all_goals go_enter Tryz.func113,Tryz.ntmps113
 all_goals go_wp2
 all_goals refine fV (by rfl) (by rfl) aK si ?_
 all_goals exact⟨rfl,bel⟩
def tS (b:aB):Int:=wrap64 (IntKind.u64.wrap (max (b.lo.natAbs:Int) (b.hi.natAbs:Int)-1))
def mS (a b:aB):aB:=⟨if a.lo<0 then max a.lo (wrap64 (-tS b))else 0,if 0<a.hi then min a.hi (tS b)else 0⟩
theorem aL5 (a b:aB) (w:World) (h1:aM b.lo) (h2:aM b.hi):Calls Tryz.prog 111 #[aJ a,aJ b] w fun e w'=>e=.returned (aJ (mS a b))/\Below w.heap.size w w':=by
 have HA:=qd (fun w=>rN b.lo w h1);have HB:=qd (fun w=>rN b.hi w h2);unfold aJ mS tS;obtain⟨lo,hi⟩:=a;obtain⟨lo2,hi2⟩:=b;dsimp only at *;go_enter Tryz.func111,Tryz.ntmps111;go_wp2;refine bI 9 kr kr (fun T F hF hall=>?_);simp only[TD];have hFc:=fun t=>(bT (hF t)).1;have hFf:=fun t=>(bT (hF t)).2;have hFs:=fun t=>(hF t).size;have hNE:Nonempty T:=(hall _ (Below.refl _ _)).elim fun t _=>⟨t⟩;repeat(refine aU (fun K hK=>?_);go_simp;refine hK _ ?_;clear hK K)
 (refine aU (fun K hK=>?_);go_simp;refine⟨_,fun t=>bE (hF t) hall (zO (HA.out (F t))),hK _ ?_⟩;clear hK K)
 repeat(refine aU (fun K hK=>?_);go_simp;refine hK _ ?_;clear hK K)
 (refine aU (fun K hK=>?_);go_simp;refine⟨_,fun t=>bE (hF t) hall (zO (HB.out (F t))),hK _ ?_⟩;clear hK K)
 repeat(refine aU (fun K hK=>?_);go_simp;refine hK _ ?_;clear hK K)
 refine gX (fun t=>?_);have hft:=hF t;obtain⟨W2,hW2⟩:∃ W2,W2=F t:=⟨_,rfl⟩
 rw[<-hW2]at hft ⊢;clear hW2 hF hall hFc hFf hFs hNE;have hcf:=bT hft;have hzf:=hft.size;have q0:=aD (show aF W2 w.heap.size [.int .i64 lo,.int .i64 hi] by exact aK);have q1:=aD (show aF W2 (w.heap.size+1) [.int .i64 lo2,.int .i64 hi2] by exact aK);have q2:aF W2 (w.heap.size+1+1) [_,_]:=aK;have q3:=aD q2;have q4:=cQ q2;clear hcf hzf;go_wp2
 all_goals refine fV (by rfl) (by rfl) aK si ?_
 all_goals refine⟨?_,bel⟩
 all_goals clear q0 q1 q2 q3 q4 HA HB hft h1 h2
 all_goals refine aVy ?_ ?_
 all_goals grind
section
section
variable {P : Program} (w : World)
theorem wV (t ty e:TypeId) (i:TypeInfo) (z:Value) (size bytes:Nat) (ht:P.underlying t=some (.slice e)) (hi:P.info? e=some i) (hz:i.zero=some z)
 (hsize:i.size=size) (hby:i.bytes=bytes) (hzs:z.cells.size=size) (hsz:0<size)
 (v:Value) (n:Nat) (xs:List Value) (hown:w.ownsRow 0 e size v n xs)
 (a:Addr) (m c:Nat) (news:List Value) (hl:news.length=m*size) (hnews:∀ j u,news[j]? = some u->w.cell? (a.add j)=some u) (h1:∀ u∈news,u.oneCell'=true)
 (h63:n+m<=maxLen) (hbytes:(n+m)*bytes<=140737488355328) :
 ∃ v' w',(Builtin.append_ #[t,t] ty #[v,.slice (some a) m c]).run P w=.ok v' w'/\w'.ownsRow 0 e size v' (n+m) (xs++news)/\w.grownBy w' v.ownBlock /\
  (v'.ownBlock=v.ownBlock\/(v'.ownBlock=some w.heap.size/\Below w.heap.size w w')):=by
 obtain⟨v',w',hr,h2,h3,_⟩:=run_append_own (P:=P) w 0 t ty e i z size bytes ht hi hz hsize hby hzs hsz v n xs hown a m c news hl hnews h1 h63 hbytes (Nat.zero_le _);refine⟨v',w',hr,h2,h3,?_⟩;subst hsize hby;have hsmall:n+m<=9223372036854775807:=by simp only[maxLen]at h63;omega
 rcases hown.2 with⟨rfl,rfl⟩|⟨g,cap,cur,rfl,hbg,hg,hnc,hcm,hcs,htake⟩
 ·have hx:xs=[]:=List.eq_nil_of_length_eq_zero (by simpa using hown.1);subst hx;by_cases hm:m=0
  ·subst hm;have hn:news=[]:=List.eq_nil_of_length_eq_zero (by simpa using hl);subst hn;left;have hr2:(Builtin.append_ #[t,t] ty #[.slice none 0 0,.slice (some a) 0 c]).run P w=.ok (.slice none 0 0) w:=by
    simp[Builtin.append_,run_underlying ht,sizeOf,typeInfo,hi,Builtin.lenOf,Builtin.firstCells,loadCells,loadCellsFrom]
   rw[hr2]at hr;cases hr;rfl
  ·right;have hr2:=run_append_nil (P:=P) w t ty e i z ht hi hz a m c news hl hnews oz oz (by have hb:=hbytes;simp only[Nat.zero_add]at hb;omega);rw[hr2]at hr;cases hr;exact⟨rfl,(Below.drew (Below.refl _ _)).alloc lr _⟩
 ·by_cases hroom:n+m<=cap
  ·left;have hfit:n*i.size+news.length<=cur.size:=by rw[hl,hcs,<-Nat.add_mul];exact Nat.mul_le_mul_right _ hroom
   have hr2:=run_append_room (P:=P) w t ty e i ht hi g n cap cur hg a m c news hl hnews h1 hroom hfit;rw[hr2]at hr;cases hr;rfl
  ·right;have holds:∀ j u,xs[j]? = some u->w.cell? ((⟨g,0,none⟩:Addr).add j)=some u:=hown.cells (g:=g) rfl;have hr2:=run_append_grow (P:=P) w t ty e i z ht hi hz ⟨g,0,none⟩ n cap xs hown.1 holds a m c news hl hnews oz oz (growslice_fits oz hbytes);rw[hr2]at hr;cases hr;exact⟨rfl,(Below.drew (Below.refl _ _)).alloc lr _⟩
theorem sK {o:Oper}{a:Act}{K:Act->World->Prop}{Q:Exit->Act->World->Prop}(s x:Operand) (t:TypeId)
 (ho:o.op=.call { callee:=.builtin .append,args:=#[s,x],argTypes:=#[t,t] })
 (e:TypeId) (i:TypeInfo) (z:Value) (size bytes:Nat) (ht:P.underlying t=some (.slice e)) (hi:P.info? e=some i) (hz:i.zero=some z)
 (hsize:i.size=size) (hby:i.bytes=bytes) (hzs:z.cells.size=size) (hsz:0<size)
 (v:Value) (n:Nat) (xs:List Value) (hs:a.eval s=v) (hown:w.ownsRow 0 e size v n xs)
 (ad:Addr) (m c:Nat) (news:List Value) (hx:a.eval x=.slice (some ad) m c) (hl:news.length=m*size) (hnews:∀ j u,news[j]? = some u->w.cell? (ad.add j)=some u) (h1:∀ u∈news,u.oneCell'=true)
 (h63:n+m<=maxLen) (hbytes:(n+m)*bytes<=140737488355328)
 (h:∀ v' w',w'.ownsRow 0 e size v' (n+m) (xs++news)->w.grownBy w' v.ownBlock->(v'.ownBlock=v.ownBlock\/(v'.ownBlock=some w.heap.size/\Below w.heap.size w w'))->K (a.put o.dst v') w'):o.wp P a w K Q:=by
 obtain⟨v',w',hr,h2,h3,h4⟩:=wV (P:=P) w t o.type e i z size bytes ht hi hz hsize hby hzs hsz v n xs hown ad m c news hl hnews h1 h63 hbytes;unfold Oper.wp execOp;simp only[ho,resolve,invoke,builtin,Sem.run_bind,Sem.run_pure,Result.andThen_ok,List.map_toArray,List.map_cons,List.map_nil,hs,hx,hr];exact h v' w' h2 h3 h4
theorem pN {ops:Array Oper}{rest:List Oper}{o:Oper}{a:Act}{Q:Exit->Act->World->Prop}(hgd:o.guard=none) (s x:Operand) (t:TypeId)
 (ho:o.op=.call { callee:=.builtin .append,args:=#[s,x],argTypes:=#[t,t] })
 (e:TypeId) (i:TypeInfo) (z:Value) (size bytes:Nat) (ht:P.underlying t=some (.slice e)) (hi:P.info? e=some i) (hz:i.zero=some z)
 (hsize:i.size=size) (hby:i.bytes=bytes) (hzs:z.cells.size=size) (hsz:0<size)
 (v:Value) (n:Nat) (xs:List Value) (hs:a.eval s=v) (hown:w.ownsRow 0 e size v n xs)
 (ad:Addr) (m c:Nat) (news:List Value) (hx:a.eval x=.slice (some ad) m c) (hl:news.length=m*size) (hnews:∀ j u,news[j]? = some u->w.cell? (ad.add j)=some u) (h1:∀ u∈news,u.oneCell'=true)
 (h63:n+m<=maxLen) (hbytes:(n+m)*bytes<=140737488355328)
 (h:∀ v' w',w'.ownsRow 0 e size v' (n+m) (xs++news)->w.grownBy w' v.ownBlock->(v'.ownBlock=v.ownBlock\/(v'.ownBlock=some w.heap.size/\Below w.heap.size w w'))->wpList P ops Q rest (a.put o.dst v') w'):wpList P ops Q (o::rest) a w :=
 wpList_plain hgd fun _ hK=>sK w s x t ho e i z size bytes ht hi hz hsize hby hzs hsz v n xs hs hown ad m c news hx hl hnews h1 h63 hbytes fun v' w' h2 h3 h4=>hK _ _ (h v' w' h2 h3 h4)
end
end
/-- all blocks that were there, but those of S, are as they were -/
structure aG (S:Nat->Prop) (w w':World):Prop where
 os:w'.os=w.os
 tape:w'.tape=w.tape
 output:w'.output=w.output
 size:w.heap.size<=w'.heap.size
 block:∀ k,k<w.heap.size->¬S k->w'.heap[k]? = w.heap[k]?
theorem aG.refl (S:Nat->Prop) (w:World):aG S w w:=⟨rfl,rfl,rfl,Nat.le_refl _,fun _ _ _=>rfl⟩
theorem aG.alloc {S:Nat->Prop}{a w:World}(h:aG S a w) (o:Obj):aG S a (w.alloc o) :=
 ⟨h.os,h.tape,h.output,by have:=h.size;simp;omega,fun k hk hs=>by rw[Below.heap_alloc _ _ _ (by have:=h.size;omega)];exact h.block k hk hs⟩
theorem aG.drew {S:Nat->Prop}{a w:World}(h:aG S a w):aG S a w.drew:=⟨h.os,h.tape,h.output,h.size,h.block⟩
theorem aG.drewN {S:Nat->Prop}{a w:World}(h:aG S a w) (n:Nat):aG S a (w.drewN n):=⟨h.os,h.tape,h.output,h.size,h.block⟩
theorem aG.setCell {S:Nat->Prop}{a w:World}(h:aG S a w) {p:Addr}(hp:S p.block\/a.heap.size<=p.block) (u:Value):aG S a (w.setCell p u) :=
 ⟨h.os,h.tape,h.output,by have:=h.size;simpa using this,fun k hk hs=>by rw[Below.heap_setCell _ _ _ _ (by grind)];exact h.block k hk hs⟩
theorem aG.trans {S:Nat->Prop}{a b c:World}(h:aG S a b) (k:aG S b c):aG S a c :=
 ⟨k.os.trans h.os,k.tape.trans h.tape,k.output.trans h.output,Nat.le_trans h.size k.size,fun i hi hs=>(k.block i (Nat.lt_of_lt_of_le hi h.size) hs).trans (h.block i hi hs)⟩
theorem aG.mono {S T:Nat->Prop}{a b:World}(h:aG S a b) (hst:∀ k,k<a.heap.size->S k->T k):aG T a b:=⟨h.os,h.tape,h.output,h.size,fun i hi hs=>h.block i hi (fun x=>hs (hst i hi x))⟩
theorem aG.of {S:Nat->Prop}{w w':World}(h:Below w.heap.size w w'):aG S w w':=⟨h.os,h.tape,h.output,h.size,fun k hk _=>h.block k hk⟩
theorem aG.below {S:Nat->Prop}{w w':World}(h:aG S w w') (B:Nat) (hB:B<=w.heap.size) (hs:∀ k,k<B->¬S k):Below B w w':=⟨h.os,h.tape,h.output,h.size,fun k hk=>h.block k oz (hs k hk)⟩
theorem aG.own {S:Nat->Prop}{w w':World}(h:aG S w w') {k:Nat}{cs:List Value}(o:aF w k cs) (hk:¬S k):aF w' k cs:=by
 have hb:=h.block k o.1 hk;exact⟨Nat.lt_of_lt_of_le o.1 h.size,fun i v hv=>by rw[World.cell?_of_block (w:=w) hb];exact o.2.1 i v hv,fun i=>by rw[World.frozen?_of_block (w:=w) hb];exact o.2.2 i⟩
theorem aG.same {S:Nat->Prop}{w w':World}(h:aG S w w') {B:Nat}(hB:B<=w.heap.size) (hs:∀ k,k<B->¬S k):aQ B w w':=aQ.of' (h.below B hB hs)
theorem aG.trans2 {S T:Nat->Prop}{a b c:World}(h:aG S a b) (k:aG T b c) (hT:∀ x,x<a.heap.size->T x->S x):aG S a c :=
 ⟨k.os.trans h.os,k.tape.trans h.tape,k.output.trans h.output,Nat.le_trans h.size k.size,fun i hi hs=>(k.block i (Nat.lt_of_lt_of_le hi h.size) (fun e=>hs (hT i hi e))).trans (h.block i hi hs)⟩
theorem aG.cellAt {S:Nat->Prop}{w w':World}(h:aG S w w') {b:Nat}(o:Nat) (hb:b<w.heap.size) (hs:¬S b):w'.cell? ⟨b,o,none⟩=w.cell? ⟨b,o,none⟩:=World.cell?_of_block (h.block b hb hs)
theorem jT {w w':World}{row:Option Nat}(h:w.grownBy w' row):aG (fun k=>row=some k) w w':=⟨h.os,h.tape,h.output,h.size,fun k hk hn=>h.block k hk (fun e=>hn e.symm)⟩
theorem aQq {p:Prop}(h:p:=by
 obtain⟨h1,h2⟩:=h;refine⟨h1,?_⟩;rcases h2 with h2|⟨g,cap,cur,rfl,hb,hh,rest⟩
 ·exact .inl h2
 ·exact .inr ⟨g,cap,cur,rfl,hb,by rw[c.block g (Array.getElem?_eq_some_iff.1 hh).1 (hg g rfl)];exact hh,rest⟩):p:=h
theorem aN {S:Nat->Prop}{w w':World}(c:aG S w w') {e size n:Nat}{v:Value}{xs:List Value}(h:w.ownsRow 0 e size v n xs) (hg:∀ k,v.ownBlock=some k->¬S k):w'.ownsRow 0 e size v n xs:=by
 exact aQq
theorem aA {w w':World}(c:Below w.heap.size w w') {e size n:Nat}{v:Value}{xs:List Value}(h:w.ownsRow 0 e size v n xs):w'.ownsRow 0 e size v n xs :=
 aN (S:=fun _=>False) (aG.of c) h (fun _ _ h=>h)
theorem cA {w:World}{e size n:Nat}{v:Value}{xs:List Value}(h:w.ownsRow 0 e size v n xs) {k:Nat}(hk:v.ownBlock=some k):k<w.heap.size:=(h.lt k hk).2
theorem bJ {w:World}{e size n g c:Nat}{xs:List Value}(h:w.ownsRow 0 e size (.slice (some ⟨g,0,none⟩) n c) n xs):g<w.heap.size:=cA h rfl
theorem bU {w:World}{e size n:Nat}{v:Value}{xs:List Value}(h:w.ownsRow 0 e size v n xs):(v=.slice none 0 0/\n=0/\xs=[])\/∃ g cap,v=.slice (some ⟨g,0,none⟩) n cap/\n<=cap/\cap<=maxLen/\g<w.heap.size:=by
 obtain⟨h1,h2⟩:=h;rcases h2 with⟨rfl,rfl⟩|⟨g,cap,cur,rfl,_,hh,q1,q2,_⟩
 ·grind
 ·grind
theorem bB {w:World}{e size n:Nat}{v:Value}{xs:List Value}(h:w.ownsRow 0 e size v n xs) (hn:0<n):∃ g cap,v=.slice (some ⟨g,0,none⟩) n cap/\n<=cap/\cap<=maxLen/\g<w.heap.size:=by
 rcases bU h with⟨_,h0,_⟩|h
 ·omega
 ·exact h
theorem aNn {p:Prop}(h:p:=by
 have:=h.cells (g:=b) rfl j u hu;unfold Addr.add at this;split at this
 ·grind
 ·grind):p:=h
theorem aH {w:World}{e size b n cap:Nat}{xs:List Value}(h:w.ownsRow 0 e size (.slice (some ⟨b,0,none⟩) n cap) n xs) {j:Nat}{u:Value}(hu:xs[j]? = some u):w.cell? ⟨b,j,none⟩=some u:=by
 exact aNn
/-- what an index's write leaves -/
theorem cH {w:World}{e size b n cap:Nat}{xs:List Value}(h:w.ownsRow 0 e size (.slice (some ⟨b,0,none⟩) n cap) n xs) (j:Nat) (u:Value):(w.setCell ⟨b,j,none⟩ u).ownsRow 0 e size (.slice (some ⟨b,0,none⟩) n cap) n (xs.set j u):=(h.stored j u).1
/-- a shorter row -/
theorem pL {w:World}{e size b n cap:Nat}{xs:List Value}(h:w.ownsRow 0 e size (.slice (some ⟨b,0,none⟩) n cap) n xs) (m:Nat) (hm:m<=n):w.ownsRow 0 e size (.slice (some ⟨b,0,none⟩) m cap) m (xs.take (m*size)):=by
 obtain⟨h1,h2⟩:=h;have:m*size<=n*size:=Nat.mul_le_mul_right _ hm;refine⟨by rw[List.length_take];omega,?_⟩;rcases h2 with⟨h0,_⟩|⟨g',cap',cur,hv,hb,hh,q1,q2,q3,q4⟩
 ·cases h0
 ·grind
def aR (l:List Int):List Value:=l.map (Value.int .i64)
theorem aV {l:List Int}{i:Nat}{v:Int}(h:l[i]? = some v):(aR l)[i]? = some (.int .i64 v):=by simp[aR,h]
theorem bZ (l:List Int):∀ v∈aR l,v.oneCell'=true:=by
 intro v hv;obtain⟨n,_,rfl⟩:=List.mem_map.1 hv;rfl
theorem pX (l:List Int):(aR l).length=l.length:=by simp[aR]
theorem bK (l k:List Int):aR (l++k)=aR l++aR k:=by simp[aR]
def bQ (l:List Bool):List Value:=l.map Value.bool
theorem Tryz.infoI:(Tryz.prog.info? 3).map (fun i=>(i.zero,i.size,i.bytes))=some (some (.int .i64 0),1,8):=kr
theorem Tryz.info64:(Tryz.prog.info? 2).map (fun i=>(i.zero,i.size,i.bytes))=some (some (.int .i64 0),1,8):=kr
/-- append of elements that lie in memory to an own row -/
theorem bO {P:Program}{w:World}{ops:Array Oper}{rest:List Oper}{o:Oper}{a:Act}{Q:Exit->Act->World->Prop}(hgd:o.guard=none) (s x:Operand) (t e size bytes:Nat) (z:Value)
 (ho:o.op=.call { callee:=.builtin .append,args:=#[s,x],argTypes:=#[t,t] }) (ht:P.underlying t=some (.slice e)) (hinfo:(P.info? e).map (fun i=>(i.zero,i.size,i.bytes))=some (some z,size,bytes)) (hzs:z.cells.size=size) (hsz:0<size)
 (v:Value) (n:Nat) (xs:List Value) (hs:a.eval s=v) (hown:w.ownsRow 0 e size v n xs)
 (ad:Addr) (m c:Nat) (news:List Value) (hx:a.eval x=.slice (some ad) m c) (hl:news.length=m*size) (hnews:∀ j u,news[j]? = some u->w.cell? (ad.add j)=some u) (h1:∀ u∈news,u.oneCell'=true)
 (h63:n+m<=maxLen) (hbytes:(n+m)*bytes<=140737488355328) (hm:0<m)
 (h:∀ g' cap' w',w'.ownsRow 0 e size (.slice (some ⟨g',0,none⟩) (n+m) cap') (n+m) (xs++news)->aG (fun k=>v.ownBlock=some k) w w'->(v.ownBlock=some g'\/g'=w.heap.size)->wpList P ops Q rest (a.put o.dst (.slice (some ⟨g',0,none⟩) (n+m) cap')) w'):wpList P ops Q (o::rest) a w:=by
 obtain⟨i0,hi,iz0,iz1,iz2⟩:=info_parts hinfo;refine pN w hgd s x t ho e i0 z size bytes ht hi iz0 iz1 iz2 hzs hsz v n xs hs hown ad m c news hx hl hnews h1 h63 hbytes ?_;intro v' w' h2 h3 h4;obtain⟨g',cap',rfl,_,_,_⟩:=bB h2 oz;refine h g' cap' w' h2 (jT h3) ?_;rcases h4 with e|⟨e,_⟩
 ·left;rw[<-e];rfl
 ·right;simpa[Value.ownBlock]using e
/-- likewise, in a region that draws its order -/
theorem iN {P:Program}{w:World}{ops:Array Oper}{o:Oper}{a:Act}{K:Act->World->Prop}{Q:Exit->Act->World->Prop}{E:Prop}(hgd:o.guard=none) (s x:Operand) (t e size bytes:Nat) (z:Value)
 (ho:o.op=.call { callee:=.builtin .append,args:=#[s,x],argTypes:=#[t,t] }) (ht:P.underlying t=some (.slice e)) (hinfo:(P.info? e).map (fun i=>(i.zero,i.size,i.bytes))=some (some z,size,bytes)) (hzs:z.cells.size=size) (hsz:0<size)
 (v:Value) (n:Nat) (xs:List Value) (hs:a.eval s=v) (hown:w.ownsRow 0 e size v n xs)
 (ad:Addr) (m c:Nat) (news:List Value) (hx:a.eval x=.slice (some ad) m c) (hl:news.length=m*size) (hnews:∀ j u,news[j]? = some u->w.cell? (ad.add j)=some u) (h1:∀ u∈news,u.oneCell'=true)
 (h63:n+m<=maxLen) (hbytes:(n+m)*bytes<=140737488355328) (hm:0<m)
 (h:∀ g' cap' w',w'.ownsRow 0 e size (.slice (some ⟨g',0,none⟩) (n+m) cap') (n+m) (xs++news)->aG (fun k=>v.ownBlock=some k) w w'->(v.ownBlock=some g'\/g'=w.heap.size)->K (a.put o.dst (.slice (some ⟨g',0,none⟩) (n+m) cap')) w'):if Region.wanted o (yielded ops a.tmps)=true then o.wp P a w K Q else E:=by
 obtain⟨i0,hi,iz0,iz1,iz2⟩:=info_parts hinfo;have hw:Region.wanted o (yielded ops a.tmps)=true:=by simp[Region.wanted,hgd]
 rw[if_pos hw];refine sK w s x t ho e i0 z size bytes ht hi iz0 iz1 iz2 hzs hsz v n xs hs hown ad m c news hx hl hnews h1 h63 hbytes ?_;intro v' w' h2 h3 h4;obtain⟨g',cap',rfl,_,_,_⟩:=bB h2 oz;refine h g' cap' w' h2 (jT h3) ?_;rcases h4 with e|⟨e,_⟩
 ·left;rw[<-e];rfl
 ·right;simpa[Value.ownBlock]using e
/-- append of nothing -/
theorem wJ {P:Program}{w:World}{ops:Array Oper}{rest:List Oper}{o:Oper}{a:Act}{Q:Exit->Act->World->Prop}(hgd:o.guard=none) (s x:Operand) (t e size bytes:Nat) (z:Value)
 (ho:o.op=.call { callee:=.builtin .append,args:=#[s,x],argTypes:=#[t,t] }) (ht:P.underlying t=some (.slice e)) (hinfo:(P.info? e).map (fun i=>(i.zero,i.size,i.bytes))=some (some z,size,bytes))
 (v:Value) (n:Nat) (xs:List Value) (hs:a.eval s=v) (hown:w.ownsRow 0 e size v n xs) (hx:a.eval x=.slice none 0 0)
 (h:wpList P ops Q rest (a.put o.dst v) w):wpList P ops Q (o::rest) a w:=by
 obtain⟨i0,hi,iz0,iz1,iz2⟩:=info_parts hinfo;refine wpList_plain hgd fun K hK=>?_;have hr:=run_append_owned_none (P:=P) w 0 t o.type e i0 size ht hi v n xs hown;unfold Oper.wp execOp;simp only[ho,resolve,invoke,builtin,Sem.run_bind,Sem.run_pure,Result.andThen_ok,List.map_toArray,List.map_cons,List.map_nil,hs,hx,hr];exact hK _ _ h
theorem cC {w:World}{k:Nat}{cs:List Value}(h:aF w k cs):∀ j u,cs[j]? = some u->w.cell? ((⟨k,0,none⟩:Addr).add j)=some u:=by
 intro j u hu;rw[show(⟨k,0,none⟩:Addr).add j=⟨k,j,none⟩from by unfold Addr.add;split<;>simp_all];exact h.2.1 j u hu
theorem aVg {w:World}(cs:List Value) (b o:Nat) (h:∀ j u,cs[j]? = some u->w.cell? ⟨b,o+j,none⟩=some u):∀ j u,cs[j]? = some u->w.cell? ((⟨b,o,none⟩:Addr).add j)=some u:=by
 intro j u hu;have:=h j u hu;unfold Addr.add;split
 ·grind
 ·exact this
/-- an index into an array's value, its answer given -/
theorem kE {P:Program}{w:World}{ops:Array Oper}{rest:List Oper}{o:Oper}{a:Act}{Q:Exit->Act->World->Prop}(hgd:o.guard=none) (x ix:Operand) (T:TypeId) (ho:o.op=.index T x ix) (u:Value)
 (hrun:(Instr.index T (a.eval x) (a.eval ix)).run P w=.ok u w) (h:wpList P ops Q rest (a.put o.dst u) w):wpList P ops Q (o::rest) a w:=by
 refine wpList_plain hgd fun K hK=>?_;unfold Oper.wp execOp;simp only[ho,Sem.run_bind,hrun];exact hK _ _ h
theorem chq {S:Nat->Prop}{a w:World}(h:aG S a w:=by repeat(first|with_reducible exact aG.refl _ _|with_reducible assumption|with_reducible refine aG.drew ?_|with_reducible refine aG.drewN ?_ _|with_reducible refine aG.alloc ?_ _|with_reducible refine aG.setCell ?_ (by first|with_reducible exact .inl rfl|exact .inl (.inl rfl)|exact .inl (.inr rfl)|exact .inr si) _|(with_reducible refine aG.trans ?_ (aG.of (by first|with_reducible assumption|exact hF _))))):aG S a w:=h
def iC (out:aB) (n:Int):aB:=cJ out ⟨n,n⟩
def aRj (l:List Int):aB:=l.foldl iC ⟨l.getD 0 0,l.getD 0 0⟩
def gK (l:List Int) (all:Bool):aB:=if all then aRj l else kO
theorem eQ {α β:Type}(f:β->α->β) (d:α) (l:List α) (j:Nat) (hj:j<l.length) (z:β):(l.take (j+1)).foldl f z=f ((l.take j).foldl f z) (l.getD j d):=by
 rw[List.take_add_one]
 grind
theorem uM (b o n cap:Nat) (l:List Int) (all:Bool) (w:World) (hb:b<w.heap.size) (hn:n=l.length) (hm:n<=maxLen) (hpos:0<n) (hc:∀ i,i<n->w.cell? ⟨b,o+i,none⟩=some (.int .i64 (l.getD i 0))) :
 Calls Tryz.prog 108 #[.slice (some ⟨b,o,none⟩) n cap,.bool all] w fun e w'=>e=.returned (aJ (gK l all))/\Below w.heap.size w w':=by
 have HJ:=qd (fun(x y:Int) n w=>vI ⟨x,y⟩ ⟨n,n⟩ w);have HA:=qd tA;subst hn;have HC:=qd hc;clear hc;unfold gK;unfold aJ at HJ HA ⊢;unfold kO at *;dsimp only at *;cases all
 ·simp only[Bool.false_eq_true,if_false];go_enter Tryz.func108,Tryz.ntmps108;go_wp2_with (first|(go_at_call 88;refine(HA.out _).mono ?_;rintro e w1 ⟨rfl,hb1⟩;have q0:aF w1 w.heap.size [.int .i64 0,.int .i64 0]:=(aF.new w _ _).below hb1;have q1:=aD q0;have q2:=cQ q0;have hz1:=hb1.size)|fail)
  exact wG
 ·simp only[if_true];have c0:=HC.out 0 hpos;have hm':l.length<=9223372036854775807:=hm;rw[Nat.add_zero]at c0;have hn0:(0:Int)<l.length:=oz
  unfold aRj;generalize l.getD 0 0=x0 at *;go_enter Tryz.func108,Tryz.ntmps108;go_wp2
  go_region
  generalize hW:World.drew _=W0;have hb0:Below w.heap.size w W0:=by rw[<-hW];exact bel
  have o0:aF W0 w.heap.size [.int .i64 0,.int .i64 0]:=by rw[<-hW];exact aK
  have o1:aF W0 (w.heap.size+1) [.int .i64 (x0),.int .i64 (x0)]:=by rw[<-hW];exact aK
  clear hW c0;go_wp2;go_loopw [20] (fun i wr=>∃ j:Nat,j<=l.length/\i=.int .i64 j/\Below w.heap.size w wr/\Hid (aF wr w.heap.size [.int .i64 0,.int .i64 0])/\Hid (aF wr (w.heap.size+1) [.int .i64 ((l.take j).foldl iC ⟨x0,x0⟩).lo,.int .i64 ((l.take j).foldl iC ⟨x0,x0⟩).hi])) (fun i _=>l.length-(intOf i).toNat)
  case atStart=>exact⟨0,Nat.zero_le _,rfl,hb0,qd o0,qd o1⟩
  case round =>
   clear o0 o1 hb0;obtain⟨j,hj,rfl,hbr,h0,h1⟩:=hrel;have q0:=aD h0.out;have q1:=aD h1.out;have q2:=cQ h0.out;have q3:=cQ h1.out;by_cases hlt:j<l.length
   ·have d2:(j:Int)<(l.length:Int):=oz
    have hwk:IntKind.i64.wrap ((j:Int)+1)=(j:Int)+1:=IntWalk.i64_in _ oz;have c0:=((bT hbr).1 b (o+j) hb).trans (HC.out j hlt);have hS:=qd (eQ iC 0 l j oz ⟨x0,x0⟩);generalize List.foldl iC ⟨x0,x0⟩ (l.take j)=P at *;obtain⟨plo,phi⟩:=P;generalize l.getD j 0=x at *;dsimp only at *;go_wp2_with (first|(go_at_call 19;refine(HJ.out _ _ _ _).mono ?_;rintro e w1 ⟨rfl,hb1⟩;have h2:=h0.out.below hb1;have h3:=h1.out.below hb1;have r2:=aD h2;have r3:=aD h3;have s3:=cQ h3;have hz1:=hb1.size)|fail)
    go_roundw
    case rel=>exact⟨j+1,oz,si,bel,qd aK,qd (by rw[hS.out];unfold iC;exact aK)⟩
    case measure=>go_light;exact ml
   ·have hjk:j=l.length:=oz
    subst hjk;have d2:¬(l.length:Int)<(l.length:Int):=oz
    have hS:l.foldl iC ⟨x0,x0⟩=(l.take l.length).foldl iC ⟨x0,x0⟩:=by rw[List.take_length]
    generalize List.foldl iC ⟨x0,x0⟩ (l.take l.length)=P at *;obtain⟨plo,phi⟩:=P;dsimp only at *;have HS:=qd hS;clear hS;have g0:=h0.out;go_wp2;refine fV (by rfl) (by rfl) aK si ?_;exact⟨by rw[HS.out],bel⟩
def lW (a b:aB) (d:Int):List Int:=if d≠0/\iJ b d=true then[IntKind.i64.wrap (a.lo.tdiv d),IntKind.i64.wrap (a.hi.tdiv d)]else[]
def mN (a b:aB):List Int:=[b.lo,b.hi,-1,1].flatMap (lW a b)
def mT (a b:aB) (j:Nat):List Int:=([b.lo,b.hi,-1,1].take j).flatMap (lW a b)
def fA (a b:aB):aB:=if a.lo = -9223372036854775808/\iJ b (-1)=true then kO else gK (mN a b) true
theorem aRt (a b:aB) (d:Int):(lW a b d).length<=2:=by unfold lW;split<;>simp
theorem aB2 (a b:aB) (j:Nat):(mT a b j).length<=8:=by
 have h:=aRt a b;have h0:=h b.lo;have h1:=h b.hi;have h2:=h (-1);have h3:=h 1;unfold mT
 match j with
 | 0=>simp
 | 1=>simp;omega
 | 2=>simp;omega
 | 3=>simp;omega
 | j+4=>simp;omega
theorem aFt (a b:aB) (j:Nat) (hj:j<4):mT a b (j+1)=mT a b j++lW a b ([b.lo,b.hi,-1,1].getD j 0):=by
 rcases(show j=0\/j=1\/j=2\/j=3 by omega)with rfl|rfl|rfl|rfl<;>simp[mT]
theorem aAh (a b:aB) (h:b.lo<=b.hi) (h2:¬(b.lo=0/\b.hi=0)):0<(mN a b).length:=by
 unfold mN;simp only[List.flatMap_cons,List.length_append];by_cases h3:b.lo=0
 ·have:(lW a b b.hi).length=2:=by unfold lW iJ;rw[if_pos ⟨by omega,by simp;omega⟩];rfl
  omega
 ·have:(lW a b b.lo).length=2:=by unfold lW iJ;rw[if_pos ⟨h3,by simp;omega⟩];rfl
  omega
theorem aJq (a:aB) (n:Int) (v:Bool) (w:World) (h:iJ a n=v):Calls Tryz.prog 114 #[.agg #[.int .i64 a.lo,.int .i64 a.hi],.int .i64 n] w fun e w'=>e=.returned (.bool v)/\Below w.heap.size w w':=by
 subst h;exact aNd a n w
theorem aTt {p:Prop}(h:p:=by
 have HLL:=qd hLL;clear hLL;go_wp2_with (first|(go_at_call 108;refine HB2.mono ?_;rintro e w3 ⟨rfl,hb3⟩;have o5:=o4.below hb3;have q5:=aD o5;have q6:=cQ o5;have hz3:=hb3.size)|fail)
 refine fV (by rfl) (by rfl) aK si ?_;exact⟨by rw[HLL.out],bel⟩):p:=h
theorem aGh {p:Prop}(h:p:=by
 rw[List.getD_eq_getElem?_getD,List.getElem?_eq_getElem hi'];rfl):p:=h
theorem aUm {p:Prop}(h:p:=by
 have HF:=qd hF;clear hF;go_wp2_with (first|(refine kE rfl (.tmp 20) (.tmp 21) 165 rfl _ (hix _) ?_)|(go_at_call 114;refine(HH.out _ _ _ hs).mono ?_;rintro e w3 ⟨rfl,hb3⟩;have hc3:=bT hb3;have hz3:=hb3.size)|fail)
 go_roundw
 case rel=>exact⟨j+1,oz,si,bel,qd (h0.out.below hb3),qd (h3.out.below hb3),qd (h4.out.below hb3),hvb,qd (by rw[HTj.out,HF.out,List.append_nil];exact aA hb3 hv.out)⟩
 case measure=>go_light;exact ml):p:=h
theorem aRe {p:Prop}(h:p:=by
 intro k hk;have hk':g2=k:=by simpa[Value.ownBlock]using hk
 subst hk';rcases hg4 with h|h
 ·exact hvb _ h
 ·have:=hb3.size;simp at h;omega):p:=h
theorem aNt {p:Prop}(h:p:=by
 subst hd;rcases(show j=0\/j=1\/j=2\/j=3 by omega)with rfl|rfl|rfl|rfl<;>exact fun w=>rfl):p:=h
theorem bH {p:Prop}(h:p:=by
 unfold maxLen;omega):p:=h
theorem aTv {p:Prop}(h:p:=by
 have HF:=qd hF;clear hF;go_wp2_with (refine kE rfl (.tmp 20) (.tmp 21) 165 rfl _ (hix _) ?_)
 go_roundw
 case rel=>exact⟨j+1,oz,si,hbr,h0,h3,h4,hvb,qd (by rw[HTj.out,HF.out,List.append_nil];exact hv.out)⟩
 case measure=>go_light;exact ml):p:=h
theorem aCm (a b:aB) (w:World) (h:b.lo<=b.hi) (h2:¬(b.lo=0/\b.hi=0)):Calls Tryz.prog 112 #[aJ a,aJ b] w fun e w'=>e=.returned (aJ (fA a b))/\Below w.heap.size w w':=by
 have HH:=qd (fun(n:Int) v w=>aJq b n v w);have HA:=qd tA;have HP:=qd (aAh a b h h2);have HL:=qd (aB2 a b);have HT:=qd (aFt a b);have HU:=qd (fun w g o n cap=>uM g o n cap (mN a b) true w);have HD:fA a b=if a.lo = -9223372036854775808/\iJ b (-1)=true then kO else gK (mN a b) true:=rfl
 generalize fA a b=R at *;have h1:iJ b (-1)=true\/iJ b (-1)=false:=by cases iJ b (-1)<;>simp
 obtain⟨lo,hi⟩:=a;obtain⟨lo2,hi2⟩:=b;unfold aJ at HA HU ⊢;dsimp only at *;by_cases hlo:lo = -9223372036854775808
 ·subst hlo;rcases h1 with h1|h1
  ·rw[if_pos ⟨rfl,h1⟩]at HD;subst HD;unfold kO at *;dsimp only at *;go_enter Tryz.func112,Tryz.ntmps112;go_wp2_with (first|(go_at_call 114;refine(HH.out _ _ _ h1).mono ?_;rintro e w1 ⟨rfl,hb1⟩;have hc1:=bT hb1;have hz1:=hb1.size)|fail)
   refine(HA.out _).mono ?_;rintro e w2 ⟨rfl,hb2⟩;have q0:aF w2 (w.heap.size+1+1) [.int .i64 0,.int .i64 0]:=(show aF w1 (w.heap.size+1+1) [.int .i64 0,.int .i64 0] by exact aK).below hb2;have q1:=aD q0;have q2:=cQ q0;have hz2:=hb2.size;go_wp2;exact wG
  ·rw[if_neg (by simp[h1])]at HD;subst HD;go_enter Tryz.func112,Tryz.ntmps112;go_wp2_with (first|(go_at_call 114;refine(HH.out _ _ _ h1).mono ?_;rintro e w1 ⟨rfl,hb1⟩;have hc1:=bT hb1;have hz1:=hb1.size)|fail)
   obtain⟨hb0,o0,o1,o2⟩:Below w.heap.size w w1/\aF w1 w.heap.size [.int .i64 (-9223372036854775808),.int .i64 hi]/\aF w1 (w.heap.size+1) [.int .i64 lo2,.int .i64 hi2]/\aF w1 (w.heap.size+1+1) [.int .i64 0,.int .i64 0]:=⟨bel,aK,aK,aK⟩
   clear hc1 hz1 hb1;go_loopw [5,21] (fun v i wr=>∃ j:Nat,j<=4/\i=.int .i64 j/\Below w.heap.size w wr/\Hid (aF wr w.heap.size [.int .i64 (-9223372036854775808),.int .i64 hi])/\Hid (aF wr (w.heap.size+1) [.int .i64 lo2,.int .i64 hi2])/\Hid (aF wr (w.heap.size+1+1) [.int .i64 0,.int .i64 0])/\(∀ k,v.ownBlock=some k->w.heap.size+3<=k)/\Hid (wr.ownsRow 0 2 1 v (mT ⟨(-9223372036854775808),hi⟩ ⟨lo2,hi2⟩ j).length (aR (mT ⟨(-9223372036854775808),hi⟩ ⟨lo2,hi2⟩ j)))) (fun v i _=>4-(intOf i).toNat)
   case atStart=>exact⟨0,Nat.zero_le _,rfl,hb0,qd o0,qd o1,qd o2,by simp[Value.ownBlock],qd (World.ownsRow_nil _ _ _ _)⟩
   case round =>
    clear o0 o1 o2 hb0;obtain⟨j,hj,rfl,hbr,h0,h3,h4,hvb,hv⟩:=hrel;have q0:=aD h0.out;have q1:=aD h3.out;by_cases hlt:j<4
    ·have d2:(j:Int)<4:=oz
     have hwk:IntKind.i64.wrap ((j:Int)+1)=(j:Int)+1:=IntWalk.i64_in _ oz;have hT:=HT.out j hlt;obtain⟨d,hd⟩:∃ d,d=[lo2,hi2,-1,1].getD j 0:=⟨_,rfl⟩
     have hix:∀ w,(Instr.index 165 (.agg #[.int .i64 lo2,.int .i64 hi2,.int .i64 (-1),.int .i64 1]) (.int .i64 j)).run Tryz.prog w=.ok (.int .i64 d) w:=by
      exact aNt
     rw[<-hd]at hT;clear hd;have HTj:=qd hT;clear hT;by_cases hd0:d=0
     ·have hF:lW ⟨(-9223372036854775808),hi⟩ ⟨lo2,hi2⟩ d=[]:=by unfold lW;rw[if_neg (by simp[hd0])]
      exact aTv
     ·rcases(show iJ ⟨lo2,hi2⟩ d=true\/iJ ⟨lo2,hi2⟩ d=false by cases iJ ⟨lo2,hi2⟩ d<;>simp)with hs|hs
      ·have hF:lW ⟨(-9223372036854775808),hi⟩ ⟨lo2,hi2⟩ d=[IntKind.i64.wrap (-Int.tdiv 9223372036854775808 d),IntKind.i64.wrap (Int.tdiv hi d)]:=by unfold lW;rw[if_pos ⟨hd0,hs⟩,<-Int.neg_tdiv]
       have HF:=qd hF;clear hF;go_wp2_with (first|(refine kE rfl (.tmp 20) (.tmp 21) 165 rfl _ (hix _) ?_)|(go_at_call 114;refine(HH.out _ _ _ hs).mono ?_;rintro e w3 ⟨rfl,hb3⟩;have hc3:=bT hb3;have hz3:=hb3.size)|fail)
       have hln:=HL.out j;have hrow:=aA hb3 hv.out
       go_region_law (refine iN rfl (.tmp 31) (.tmp 40) 22 2 1 8 (.int .i64 0) rfl Tryz.underlying22 Tryz.info64 rfl dc _ _ _ rfl (aA bel hrow) ⟨w3.heap.size,0,none⟩ 2 2 (aR [IntKind.i64.wrap (-Int.tdiv 9223372036854775808 d),IntKind.i64.wrap (Int.tdiv hi d)]) rfl rfl (cC (aF.drew (aF.new' _ _ _ _ si))) (bZ _) bH oz dc ?_;intro g2 cap2 w4 hb4 hc4 hg4)
       all_goals(
        have hc5:aG (fun k=>u5.ownBlock=some k) wr w4:=(((aG.of hb3).alloc _).drew).trans hc4;have h45:=h4.out.1;go_wp2;refine⟨⟨j+1,oz,si,hbr.trans (hc5.below _ hbr.size (fun k hk e=>by have:=hvb k e;omega)),qd (hc5.own h0.out (fun e=>by have:=hvb _ e;omega)),qd (hc5.own h3.out (fun e=>by have:=hvb _ e;omega)),qd (hc5.own h4.out (fun e=>by have:=hvb _ e;omega)),?_,qd ?_⟩,?_⟩
        ·exact aRe
        ·rw[HTj.out,HF.out,bK,List.length_append];exact hb4
        ·go_light;exact ml)
      ·have hF:lW ⟨(-9223372036854775808),hi⟩ ⟨lo2,hi2⟩ d=[]:=by unfold lW;rw[if_neg (by simp[hs])]
       exact aUm
    ·have hjk:j=4:=oz
     subst hjk;have hv4:wr.ownsRow 0 2 1 u5 (mN ⟨(-9223372036854775808),hi⟩ ⟨lo2,hi2⟩).length (aR (mN ⟨(-9223372036854775808),hi⟩ ⟨lo2,hi2⟩)):=hv.out;have hl8:(mN ⟨(-9223372036854775808),hi⟩ ⟨lo2,hi2⟩).length<=8:=HL.out 4;have hp:=HP.out;obtain⟨g,cap,rfl,-,-,hg⟩:=bB hv4 hp;have HB:=qd (HU.out wr g 0 _ cap hg rfl bH hp (fun i hi'=>by
      have hx:=aH hv4 (j:=i) (u:=.int .i64 ((mN ⟨(-9223372036854775808),hi⟩ ⟨lo2,hi2⟩).getD i 0)) (aV aGh);rw[Nat.zero_add];exact hx))
     have hgb:=hvb g rfl;have o4:=h4.out;clear hv4 hv hvb;have HB2:=HB.out;clear HB;generalize hLL:mN ⟨(-9223372036854775808),hi⟩ ⟨lo2,hi2⟩=L at *;exact aTt
 ·rw[if_neg (by simp[hlo])]at HD;subst HD;go_enter Tryz.func112,Tryz.ntmps112;go_wp2;generalize hW:World.alloc _ _=W0;obtain⟨hb0,o0,o1,o2⟩:Below w.heap.size w W0/\aF W0 w.heap.size [.int .i64 lo,.int .i64 hi]/\aF W0 (w.heap.size+1) [.int .i64 lo2,.int .i64 hi2]/\aF W0 (w.heap.size+1+1) [.int .i64 0,.int .i64 0]:=by rw[<-hW];exact⟨bel,aK,aK,aK⟩
  clear hW;go_loopw [5,21] (fun v i wr=>∃ j:Nat,j<=4/\i=.int .i64 j/\Below w.heap.size w wr/\Hid (aF wr w.heap.size [.int .i64 lo,.int .i64 hi])/\Hid (aF wr (w.heap.size+1) [.int .i64 lo2,.int .i64 hi2])/\Hid (aF wr (w.heap.size+1+1) [.int .i64 0,.int .i64 0])/\(∀ k,v.ownBlock=some k->w.heap.size+3<=k)/\Hid (wr.ownsRow 0 2 1 v (mT ⟨lo,hi⟩ ⟨lo2,hi2⟩ j).length (aR (mT ⟨lo,hi⟩ ⟨lo2,hi2⟩ j)))) (fun v i _=>4-(intOf i).toNat)
  case atStart=>exact⟨0,Nat.zero_le _,rfl,hb0,qd o0,qd o1,qd o2,by simp[Value.ownBlock],qd (World.ownsRow_nil _ _ _ _)⟩
  case round =>
   clear o0 o1 o2 hb0;obtain⟨j,hj,rfl,hbr,h0,h3,h4,hvb,hv⟩:=hrel;have q0:=aD h0.out;have q1:=aD h3.out;by_cases hlt:j<4
   ·have d2:(j:Int)<4:=oz
    have hwk:IntKind.i64.wrap ((j:Int)+1)=(j:Int)+1:=IntWalk.i64_in _ oz;have hT:=HT.out j hlt;obtain⟨d,hd⟩:∃ d,d=[lo2,hi2,-1,1].getD j 0:=⟨_,rfl⟩
    have hix:∀ w,(Instr.index 165 (.agg #[.int .i64 lo2,.int .i64 hi2,.int .i64 (-1),.int .i64 1]) (.int .i64 j)).run Tryz.prog w=.ok (.int .i64 d) w:=by
     exact aNt
    rw[<-hd]at hT;clear hd;have HTj:=qd hT;clear hT;by_cases hd0:d=0
    ·have hF:lW ⟨lo,hi⟩ ⟨lo2,hi2⟩ d=[]:=by unfold lW;rw[if_neg (by simp[hd0])]
     exact aTv
    ·rcases(show iJ ⟨lo2,hi2⟩ d=true\/iJ ⟨lo2,hi2⟩ d=false by cases iJ ⟨lo2,hi2⟩ d<;>simp)with hs|hs
     ·have hF:lW ⟨lo,hi⟩ ⟨lo2,hi2⟩ d=[IntKind.i64.wrap (Int.tdiv lo d),IntKind.i64.wrap (Int.tdiv hi d)]:=by unfold lW;rw[if_pos ⟨hd0,hs⟩]
      have HF:=qd hF;clear hF;go_wp2_with (first|(refine kE rfl (.tmp 20) (.tmp 21) 165 rfl _ (hix _) ?_)|(go_at_call 114;refine(HH.out _ _ _ hs).mono ?_;rintro e w3 ⟨rfl,hb3⟩;have hc3:=bT hb3;have hz3:=hb3.size)|fail)
      have hln:=HL.out j;have hrow:=aA hb3 hv.out
      go_region_law (refine iN rfl (.tmp 31) (.tmp 40) 22 2 1 8 (.int .i64 0) rfl Tryz.underlying22 Tryz.info64 rfl dc _ _ _ rfl (aA bel hrow) ⟨w3.heap.size,0,none⟩ 2 2 (aR [IntKind.i64.wrap (Int.tdiv lo d),IntKind.i64.wrap (Int.tdiv hi d)]) rfl rfl (cC (aF.drew (aF.new' _ _ _ _ si))) (bZ _) bH oz dc ?_;intro g2 cap2 w4 hb4 hc4 hg4)
      all_goals(
       have hc5:aG (fun k=>u5.ownBlock=some k) wr w4:=(((aG.of hb3).alloc _).drew).trans hc4;have h45:=h4.out.1;go_wp2;refine⟨⟨j+1,oz,si,hbr.trans (hc5.below _ hbr.size (fun k hk e=>by have:=hvb k e;omega)),qd (hc5.own h0.out (fun e=>by have:=hvb _ e;omega)),qd (hc5.own h3.out (fun e=>by have:=hvb _ e;omega)),qd (hc5.own h4.out (fun e=>by have:=hvb _ e;omega)),?_,qd ?_⟩,?_⟩
       ·exact aRe
       ·rw[HTj.out,HF.out,bK,List.length_append];exact hb4
       ·go_light;exact ml)
     ·have hF:lW ⟨lo,hi⟩ ⟨lo2,hi2⟩ d=[]:=by unfold lW;rw[if_neg (by simp[hs])]
      exact aUm
   ·have hjk:j=4:=oz
    subst hjk;have hv4:wr.ownsRow 0 2 1 u5 (mN ⟨lo,hi⟩ ⟨lo2,hi2⟩).length (aR (mN ⟨lo,hi⟩ ⟨lo2,hi2⟩)):=hv.out;have hl8:(mN ⟨lo,hi⟩ ⟨lo2,hi2⟩).length<=8:=HL.out 4;have hp:=HP.out;obtain⟨g,cap,rfl,-,-,hg⟩:=bB hv4 hp;have HB:=qd (HU.out wr g 0 _ cap hg rfl bH hp (fun i hi'=>by
     have hx:=aH hv4 (j:=i) (u:=.int .i64 ((mN ⟨lo,hi⟩ ⟨lo2,hi2⟩).getD i 0)) (aV aGh);rw[Nat.zero_add];exact hx))
    have hgb:=hvb g rfl;have o4:=h4.out;clear hv4 hv hvb;have HB2:=HB.out;clear HB;generalize hLL:mN ⟨lo,hi⟩ ⟨lo2,hi2⟩=L at *;exact aTt
def cO:aB:=⟨0,0⟩
def mC (a b:aB):Bool:=decide (a.lo=b.lo)&&decide (a.hi=b.hi)
def dH (a b:aB):Bool:=decide (a.lo=a.hi)&&decide (b.lo=b.hi)
def uH (a b:aB):aB:=if dH a b then⟨wrap64 (a.lo+b.lo),wrap64 (a.lo+b.lo)⟩else gK [(iX a.lo b.lo).1,(iX a.hi b.hi).1] ((iX a.lo b.lo).2&&(iX a.hi b.hi).2)
def uF (a b:aB):aB:=if dH a b then⟨wrap64 (a.lo-b.lo),wrap64 (a.lo-b.lo)⟩else gK [(lU a.lo b.hi).1,(lU a.hi b.lo).1] ((lU a.lo b.hi).2&&(lU a.hi b.lo).2)
def fM (a b:aB):List (Int×Int):=[(a.lo,b.lo),(a.lo,b.hi),(a.hi,b.lo),(a.hi,b.hi)]
def rX (a b:aB):aB:=if dH a b then⟨wrap64 (a.lo*b.lo),wrap64 (a.lo*b.lo)⟩else gK ((fM a b).map fun p=>(gM p.1 p.2).1) ((fM a b).all fun p=>(gM p.1 p.2).2)
/-- where the value of an operation is -/
def aS (op:Int) (a b:aB):aB×Bool :=
 if op=3 then(uH a b,true)else if op=4 then(uF a b,true)else if op=5 then(rX a b,true)else
 if op=6 then(if mC b cO then(cO,false)else(fA a b,true))else if op=7 then(if mC b cO then(cO,false)else(mS a b,true))else
 if op=8 then(eT (decide (a.hi<b.lo)) (decide (b.hi<=a.lo)),true)else if op=9 then(eT (mC a b&&decide (a.lo=a.hi)) (!(cZ a b).2),true)else
 if op=10 then(eT (mC a cO) (!iJ a 0),true)else(cO,false)
theorem eM (a:aB) (w:World) (h:a.lo<=a.hi):Calls Tryz.prog 55 #[.agg #[.int .i64 a.lo,.int .i64 a.hi]] w fun e w'=>e=.returned (.bool false)/\Below w.heap.size w w':=by
 have:=qW a w;rw[show dU a=false by unfold dU;simp;omega]at this;exact this
theorem aUp {w:World}{k:Nat}{x y:Int}{all:Bool}(h:aF w k [.int .i64 x,.int .i64 y]):Calls Tryz.prog 108 #[.slice (some ⟨k,0,none⟩) 2 2,.bool all] w fun e w'=>e=.returned (.agg #[.int .i64 (gK [x,y] all).lo,.int .i64 (gK [x,y] all).hi])/\Below w.heap.size w w':=by
 refine uM k 0 2 2 [x,y] all w h.1 rfl dc dc fun i hi=>?_;rw[Nat.zero_add];rcases(show i=0\/i=1 by omega)with rfl|rfl
 ·exact h.2.1 0 _ rfl
 ·exact h.2.1 1 _ rfl
theorem aF7 (a b:aB) (h:dH a b=true):uH a b=⟨wrap64 (a.lo+b.lo),wrap64 (a.lo+b.lo)⟩:=by unfold uH;rw[if_pos h]
theorem yS (a b:aB) (h:dH a b=false):uH a b=gK [(iX a.lo b.lo).1,(iX a.hi b.hi).1] ((iX a.lo b.lo).2&&(iX a.hi b.hi).2):=by unfold uH;rw[if_neg (by simp[h])]
theorem aG2 {p:Prop}(h:p:=by
 unfold dH at hp;simp only[Bool.and_eq_true,decide_eq_true_eq]at hp;unfold aJ at *;obtain⟨lo,hi⟩:=a;obtain⟨lo2,hi2⟩:=b;dsimp only at *;obtain⟨rfl,rfl⟩:=hp;exact aU5):p:=h
theorem aUj {p:Prop}(h:p:=by
 cases b1
 all_goals go_enter Tryz.func85,Tryz.ntmps85
 all_goals go_wp2_with (first|(go_at_call 55;refine(HA.out _).mono ?_;rintro e w1 ⟨rfl,hb1⟩;clear HA;have o1:aF w1 w.heap.size [_,_]:=aK;have o2:aF w1 (w.heap.size+1) [_,_]:=aK;have o3:aF w1 (w.heap.size+1+1) [_,_]:=aK;have q1:=aD o1;have q2:=aD o2;have hbz:Below w.heap.size w w1:=bel)|(go_at_call 55;refine(HB.out _).mono ?_;rintro e w2 ⟨rfl,hb2⟩;clear HB;have p1:=o1.below hb2;have p2:=o2.below hb2;have p3:=o3.below hb2;have r1:=aD p1;have r2:=aD p2;have r3:=aD p3;have s3:=cQ p3;have hby:Below w.heap.size w w2:=bel;clear hb2 hb1 hbz o1 o2 o3 q1 q2)|fail)
 all_goals(refine(HX.out _).mono ?_;rintro e w9 ⟨rfl,rfl⟩)
 all_goals go_wp2_with (first|(go_at_call 107;refine(HY.out _).mono ?_;rintro e w8 ⟨rfl,rfl⟩)|fail)
 all_goals(refine(aUp (aF.new' _ [.int .i64 x1,.int .i64 x2] _ _ rfl)).mono ?_;rintro e w5 ⟨rfl,hb5⟩;have t3:=(p3.alloc _).below hb5;have u3:=aD t3;have v3:=cQ t3;have hz5:=hb5.size)
 all_goals go_wp2
 all_goals refine bV (by rfl) (by rfl) (by rfl) aK si ?_
 all_goals exact⟨rfl,bel⟩):p:=h
theorem aTb (a b:aB) (w:World) (ha:a.lo<=a.hi) (hb:b.lo<=b.hi):Calls Tryz.prog 85 #[.int .i64 3,aJ a,aJ b] w fun e w'=>e=.returned (.tuple #[aJ (uH a b),.bool true])/\Below w.heap.size w w':=by
 have HA:=qd (fun w=>eM a w ha);have HB:=qd (fun w=>eM b w hb);have HX:=qd (fun w=>zZ a.lo b.lo w);have HY:=qd (fun w=>zZ a.hi b.hi w);rcases(show dH a b=true\/dH a b=false by cases dH a b<;>simp)with hp|hp
 ·rw[aF7 a b hp];exact aG2
 ·rw[yS a b hp];unfold dH at hp;simp only[Bool.and_eq_false_iff,decide_eq_false_iff_not]at hp;generalize iX a.lo b.lo=E1 at *;generalize iX a.hi b.hi=E2 at *;obtain⟨x1,b1⟩:=E1;obtain⟨x2,b2⟩:=E2;unfold aJ at *;obtain⟨lo,hi⟩:=a;obtain⟨lo2,hi2⟩:=b;dsimp only at *;by_cases hl:lo=hi
  ·subst hl;have hl2:¬lo2=hi2:=oz
   exact aUj
  ·exact aUj
theorem aF2 (a b:aB) (h:dH a b=true):uF a b=⟨wrap64 (a.lo-b.lo),wrap64 (a.lo-b.lo)⟩:=by unfold uF;rw[if_pos h]
theorem aAa (a b:aB) (h:dH a b=false):uF a b=gK [(lU a.lo b.hi).1,(lU a.hi b.lo).1] ((lU a.lo b.hi).2&&(lU a.hi b.lo).2):=by unfold uF;rw[if_neg (by simp[h])]
theorem aUu {p:Prop}(h:p:=by
 cases b1
 all_goals go_enter Tryz.func85,Tryz.ntmps85
 all_goals go_wp2_with (first|(go_at_call 55;refine(HA.out _).mono ?_;rintro e w1 ⟨rfl,hb1⟩;clear HA;have o1:aF w1 w.heap.size [_,_]:=aK;have o2:aF w1 (w.heap.size+1) [_,_]:=aK;have o3:aF w1 (w.heap.size+1+1) [_,_]:=aK;have q1:=aD o1;have q2:=aD o2;have hbz:Below w.heap.size w w1:=bel)|(go_at_call 55;refine(HB.out _).mono ?_;rintro e w2 ⟨rfl,hb2⟩;clear HB;have p1:=o1.below hb2;have p2:=o2.below hb2;have p3:=o3.below hb2;have r1:=aD p1;have r2:=aD p2;have r3:=aD p3;have s3:=cQ p3;have hby:Below w.heap.size w w2:=bel;clear hb2 hb1 hbz o1 o2 o3 q1 q2)|fail)
 all_goals(refine(HX.out _).mono ?_;rintro e w9 ⟨rfl,rfl⟩)
 all_goals go_wp2_with (first|(go_at_call 109;refine(HY.out _).mono ?_;rintro e w8 ⟨rfl,rfl⟩)|fail)
 all_goals(refine(aUp (aF.new' _ [.int .i64 x1,.int .i64 x2] _ _ rfl)).mono ?_;rintro e w5 ⟨rfl,hb5⟩;have t3:=(p3.alloc _).below hb5;have u3:=aD t3;have v3:=cQ t3;have hz5:=hb5.size)
 all_goals go_wp2
 all_goals refine bV (by rfl) (by rfl) (by rfl) aK si ?_
 all_goals exact⟨rfl,bel⟩):p:=h
theorem aTn (a b:aB) (w:World) (ha:a.lo<=a.hi) (hb:b.lo<=b.hi):Calls Tryz.prog 85 #[.int .i64 4,aJ a,aJ b] w fun e w'=>e=.returned (.tuple #[aJ (uF a b),.bool true])/\Below w.heap.size w w':=by
 have HA:=qd (fun w=>eM a w ha);have HB:=qd (fun w=>eM b w hb);have HX:=qd (fun w=>aB1 a.lo b.hi w);have HY:=qd (fun w=>aB1 a.hi b.lo w);rcases(show dH a b=true\/dH a b=false by cases dH a b<;>simp)with hp|hp
 ·rw[aF2 a b hp];exact aG2
 ·rw[aAa a b hp];unfold dH at hp;simp only[Bool.and_eq_false_iff,decide_eq_false_iff_not]at hp;generalize lU a.lo b.hi=E1 at *;generalize lU a.hi b.lo=E2 at *;obtain⟨x1,b1⟩:=E1;obtain⟨x2,b2⟩:=E2;unfold aJ at *;obtain⟨lo,hi⟩:=a;obtain⟨lo2,hi2⟩:=b;dsimp only at *;by_cases hl:lo=hi
  ·subst hl;have hl2:¬lo2=hi2:=oz
   exact aUu
  ·exact aUu
theorem xI (s:ByteArray) (k:Nat) (h:k<s.size) (hn:zI s k) (hk:(97<=(s[k].toNat:Int)/\(s[k].toNat:Int)<=122)\/(¬k=0/\48<=(s[k].toNat:Int)/\(s[k].toNat:Int)<=57)):zI s (k+1):=by
 intro i hi;by_cases e:i=k
 ·subst e;unfold qQ aDf aIt;rw[aBu s i h];grind
 ·exact hn i oz
theorem zS (s:ByteArray) (k:Nat) (h:k<s.size) (hk:¬((97<=(s[k].toNat:Int)/\(s[k].toNat:Int)<=122)\/(¬k=0/\48<=(s[k].toNat:Int)/\(s[k].toNat:Int)<=57))):eV s=false:=by
 have:qQ s k=false:=by unfold qQ aDf aIt;rw[aBu s k h];grind
 unfold eV;have:(List.range s.size).all (qQ s)=false:=by
  rw[List.all_eq_false];exact⟨k,List.mem_range.2 h,by rw[this];decide⟩
 simp[this]
theorem yV (s:ByteArray) (k:Nat) (h:¬k<s.size) (hk:k<=s.size) (hn:zI s k):(List.range s.size).all (qQ s)=true:=by
 rw[List.all_eq_true];intro i hi;exact hn i (by simp at hi;omega)
theorem aAr (s:ByteArray):s.toList.length=s.size:=by rw[ByteArray.toList_eq];simp
theorem aH8 (s:ByteArray) (h:s.toList=[]):eV s=false:=by
 have e:=aAr s;rw[h]at e;unfold eV;simp at e;grind
theorem aPu (s:ByteArray) (h:(List.range s.size).all (qQ s)=true):eV s=(!s.toList.isEmpty&&decide ((s.size:Int)<=16)):=by
 have e:=aAr s;unfold eV;rw[h];cases h2:s.toList<;>rw[h2]at e<;>grind
theorem sE (s:ByteArray) (w:World) (hs:s.size<=maxLen) :
 Calls Tryz.prog 104 #[.string s] w fun e w'=>e=.returned (.bool (eV s))/\w'=w:=by
 unfold maxLen at hs;go_enter Tryz.func104,Tryz.ntmps104;go_wp2
 go_loop [7] (fun i=>∃ k:Nat,k<=s.size/\i=.int .i64 k/\zI s k) (fun i=>s.size-(intOf i).toNat)
 case atStart=>exact⟨0,Nat.zero_le _,rfl,by intro i h;omega⟩
 case round =>
  obtain⟨k,hk,rfl,hn⟩:=hrel;have HE:=yV s k;have HS:=xI s k;have HN:=zS s k;go_wp2
  all_goals first
   | (go_ret;go_light;refine⟨?_,rfl⟩;refine nN ?_;first|(rw[HN (by assumption) (by grind)])|exact(aH8 s (by assumption)).symm|(rw[aPu s (HE (by assumption) hk hn)]))
   | (go_round
      case rel=>go_light;exact⟨k+1,by grind,by grind,HS (by assumption) hn (by grind)⟩
      case measure=>go_light;simp[intOf];grind)
   | skip
theorem aMc (nm s:ByteArray) (pa ca:Option Addr) (pl pc cl cc:Nat) (r wd:Int) (b o:Nat) (w:World) (hc:w.cell? ⟨b,o,none⟩=some (.string s)) (hb:b<w.heap.size) :
 Calls Tryz.prog 119 #[.agg #[.string nm,.slice pa pl pc,.int .i64 r,.int .i64 wd,.slice ca cl cc],.pointer (some ⟨b,o,none⟩)] w fun e w'=>e=.returned (.bool (nm.toList==s.toList))/\Below w.heap.size w w':=by
 go_enter Tryz.func119,Tryz.ntmps119;go_wp2;go_ret;go_light;exact⟨rfl,bel⟩
theorem aL9 (B:Nat) (s:ByteArray) (fa:Option Addr) (fl fc:Nat) (fs:List aC) (b o:Nat) (w:World) (hB:B<=w.heap.size) (hf:tX B w fa fl fs) (hc:w.cell? ⟨b,o,none⟩=some (.string s)) (hb:b<w.heap.size) :
 Calls Tryz.prog 118 #[.slice fa fl fc,.func (.func 119) #[] #[.pointer (some ⟨b,o,none⟩)]] w fun e w'=>e=.returned (.int .i64 (kQ fs s))/\Below w.heap.size w w':=by
 obtain⟨hfl,hlen,fb,fo,hfa,H,hcs⟩:=hf;unfold maxLen at hlen;subst hfl;go_enter Tryz.func118,Tryz.ntmps118;go_wp2_with fail;go_loopw [8] (fun i wr=>∃ k:Nat,k<=fs.length/\i=.int .i64 k/\Below w.heap.size w wr/\Hid (∀ j,j<k->((fs.getD j default).name.toList==s.toList)=false)) (fun i _=>fs.length-(intOf i).toNat)
 case atStart=>exact⟨0,Nat.zero_le _,rfl,Below.refl _ _,by intro j h;omega⟩
 case round =>
  obtain⟨k,hk,rfl,hbel,hn⟩:=hrel;by_cases hlt:k<fs.length
  ·obtain⟨rfl,hfb⟩:=hfa oz;obtain⟨⟨q0,q1,q2,q3,q4⟩,_⟩:=hcs k hlt;obtain⟨hc1,_⟩:=bT hbel;have hz:w.heap.size<=wr.heap.size:=hbel.size;have hcw:wr.cell? ⟨b,o,none⟩=some (.string s):=by rw[hc1 _ _ hb];exact hc
   have hx:=qd hcs;clear hcs;have hfw:fb<w.heap.size:=oz
   go_wp2_with (go_at_call 119;refine(aMc _ _ _ _ _ _ _ _ _ _ _ _ _ hcw oz).mono ?_;rintro e w1 ⟨rfl,hb1⟩)
   all_goals first
    | (go_roundw
       case rel=>go_light;exact⟨k+1,oz,by go_num,bel,by grind [Hid]⟩
       case measure=>go_light;simp[intOf];omega)
    | (go_ret;go_light;exact⟨fU (sF fs s k hlt (by grind) hn.out).symm,bel⟩)
  ·have hx:=qd hcs;clear hcs;go_wp2;go_ret;go_light;exact⟨fU (aH5 fs s (fun i hi=>hn.out i oz)).symm,hbel⟩
theorem aFc (B:Nat) (v:Value) (m:bA) (s:ByteArray) (w:World) (hB:B<=w.heap.size) (hm:cP B w v m) :
 Calls Tryz.prog 105 #[v,.string s] w fun e w'=>e=.returned (.int .i64 (kQ m.funcs s))/\Below w.heap.size w w':=by
 obtain⟨ta,tl,tc,fa,fl,fc,rfl,ht,hf⟩:=hm;have hmf:=@mkF Tryz.prog;go_enter Tryz.func105,Tryz.ntmps105;go_wp2_with (go_at_call 118;refine(aL9 B s _ _ _ _ _ _ _ ?_ (hf.same ?_) ?_ ?_).mono ?_)
 ·exact jU
 ·exact aFv
 ·simp
 ·simp
 ·rintro e w1 ⟨rfl,hb1⟩;exact vA
theorem rJ (op:Int) (w:World) :
 Calls Tryz.prog 82 #[.int .i64 op] w fun e w'=>e=.returned (.bool (dK op))/\w'=w:=by
 go_enter Tryz.func82,Tryz.ntmps82;go_wp2
 all_goals(go_ret;go_light;refine⟨nN ?_,rfl⟩;unfold dK;grind)
theorem gH {a b c d:Int}(h:(a,b)=(c,d)):Ending.returned (.tuple #[.int .i64 a,.int .i64 b])=.returned (.tuple #[.int .i64 c,.int .i64 d]):=by
 rw[Prod.mk.injEq]at h;rw[h.1,h.2]
theorem aRh {p:Prop}(h:p:=by
 have HY:=qd HX;clear HX;go_wp2
 all_goals first|(go_ret2;go_light;refine⟨gH ?_,bel⟩;rw[HY.out];unfold nL;grind)|skip
 go_ways):p:=h
theorem aDv {p:Prop}(h:p:=by
 go_ret2;go_light;exact⟨gH HX.symm,bel⟩):p:=h
theorem aH2 {p:Prop}(h:p:=by
 go_ret2;go_light;exact⟨gH HY.out.symm,bel⟩):p:=h
theorem aKj (B:Nat) (v:Value) (m:bA) (f:Nat) (w:World) (hB:B<=w.heap.size) (hm:cP B w v m) (hfl:f<m.funcs.length) :
 Calls Tryz.prog 78 #[v,.int .i64 f] w fun e w'=>e=.returned (.tuple #[.int .i64 (cX m f).1,.int .i64 (cX m f).2])/\Below w.heap.size w w':=by
 have hm0:=hm;obtain⟨ta,tl,tc,fa,fl,fc,rfl,ht,hf⟩:=hm;obtain⟨hfl',hlen,fb,fo,hfa,H,hcs⟩:=hf;subst hfl';obtain⟨rfl,hfb⟩:=hfa oz;obtain⟨⟨q0,q1,q2,q3,q4⟩,hnm,⟨hpl,hpm,pb,po,hpa,hps⟩,⟨hcl,hcm,_⟩,hr,hwd⟩:=hcs f hfl;clear hcs;unfold cX;rw[nB _ _ hfl]at *;have hbd:=aPg m.funcs m.funcs[f].name;obtain⟨k,hk⟩:∃ k,k=kQ m.funcs m.funcs[f].name:=⟨_,rfl⟩
 rw[<-hk]at hbd ⊢;have Hk:=qd hk;clear hk;generalize hx:m.funcs[f]=x at *;generalize H f=hh at *;obtain⟨pa,pl,pc,ca,cl,cc⟩:=hh;dsimp only at *;unfold maxLen at hlen hnm hpm hcm;subst hpl hcl;have hfb':fb<w.heap.size:=oz
 have Hx:=qd hx;clear hx;have Hp:=qd hps;clear hps;by_cases hN:eV x.name=false
 ·have HX:iK x k f=(8,0):=by simp[iK,hN]
  have HY:=qd HX;clear HX;go_enter Tryz.func78,Tryz.ntmps78;go_wp2_with (go_at_call 104;refine(sE _ _ hnm).mono ?_;rintro e w1 ⟨rfl,rfl⟩)
  exact aH2
 ·have hN1:eV x.name=true:=by simpa using hN
  clear hN;by_cases h1:k<f
  ·have HX:iK x k f=(9,0):=by simp[iK,hN1,h1]
   have HY:=qd HX;clear HX;go_enter Tryz.func78,Tryz.ntmps78;go_wp2_with (first|(go_at_call 104;refine(sE _ _ hnm).mono ?_;rintro e w1 ⟨rfl,rfl⟩)|(go_at_call 105;refine(aFc B _ m _ _ ?_ (hm0.same ?_)).mono ?_))
   ·exact jU
   ·exact aFv
   rw[<-Hk.out];rintro e w1 ⟨rfl,hb1⟩;go_wp2;exact aH2
  ·go_enter Tryz.func78,Tryz.ntmps78;go_wp2_with (first|(go_at_call 104;refine(sE _ _ hnm).mono ?_;rintro e w1 ⟨rfl,rfl⟩)|(go_at_call 105;refine(aFc B _ m _ _ ?_ (hm0.same ?_)).mono ?_))
   ·exact jU
   ·exact aFv
   rw[<-Hk.out];rintro e w1 ⟨rfl,hb1⟩;obtain⟨hc1,_⟩:=bT hb1;have hz1:w.heap.size+2<=w1.heap.size:=by have:=hb1.size;simp at this;omega
   go_wp2
   ·have HX:=xA x k f hN1 oz oz;exact aDv
   ·have hp8:¬8<x.params.length:=oz
    go_loopw [31] (fun i wr=>∃ j:Nat,j<=x.params.length/\i=.int .i64 j/\Below w1.heap.size w1 wr/\Hid (∀ i,i<j->dU (x.params.getD i default)=false)) (fun i _=>x.params.length-(intOf i).toNat)
    case atStart=>exact⟨0,Nat.zero_le _,rfl,Below.refl _ _,by intro j h;omega⟩
    case round =>
     obtain⟨j,hj,rfl,hbel,hn⟩:=hrel;obtain⟨hd1,_⟩:=bT hbel;have hz2:w1.heap.size<=wr.heap.size:=hbel.size;have hz3:w.heap.size+1<w1.heap.size:=oz
     by_cases hlt:j<x.params.length
     ·obtain⟨rfl,hpb⟩:=hpa oz;obtain⟨s0,s1,_,_⟩:=Hp.out j hlt;rw[nB _ _ hlt]at s0 s1;have hpb':pb<w.heap.size/\pb<w.heap.size+1/\pb<w.heap.size+1+1/\pb<w1.heap.size:=oz
      go_wp2
      all_goals first
       | (have HX:=sY x k f j hN1 oz oz (zN _ _ _ hlt (by go_light;rw[nB _ _ hlt];unfold dU;grind) hn.out)
          go_ret2;go_light;exact⟨gH HX.symm,bel⟩)
       | (go_roundw
          case rel =>
           go_light;refine⟨j+1,oz,by go_num,bel,?_⟩;intro i hi;by_cases e:i=j
           ·subst e;rw[nB _ _ hlt];unfold dU;grind
           ·exact hn.out i oz
          case measure=>go_light;simp[intOf];omega)
       | skip
      go_ways
     ·have HX:=wZ x k f hN1 oz oz (aAy _ _ (fun i hi=>hn.out i oz));exact aRh
/-- where an instruction leads, as raw numbers -/
def aDh (x:dJ) (at_:Int):List Int :=
 if x.op=0 then[]else if x.op=14\/x.op=18 then[x.n]else if x.op=15\/x.op=16\/x.op=17 then[at_+1,x.n]else if dK x.op then[at_+1]else[]
def rY (len:Int) (l:List Int) (i:Nat):Bool:=decide (0<=l.getD i 0)&&decide (l.getD i 0<len)&&(decide (i=0)||decide (l.getD i 0≠l.getD 0 0))
def iI (len:Int) (l:List Int) (k:Nat):List Int:=((List.range k).filter (rY len l)).map (fun i=>l.getD i 0)
def aY (f:aC) (at_:Nat):List Int:=iI f.code.length (aDh (f.code.getD at_ default) at_) (aDh (f.code.getD at_ default) at_).length
theorem mZ (len:Int) (l:List Int) (k:Nat):iI len l (k+1)=iI len l k++(if rY len l k then[l.getD k 0]else[]):=by
 unfold iI;rw[List.range_succ,List.filter_append,List.map_append];congr 1;by_cases h:rY len l k<;>simp[h]
theorem aFm (x:dJ) (a:Int):(aDh x a).length<=2:=by unfold aDh;repeat(first|split|simp)
/-- a list of numbers in memory of its own -/
def aAx (w:World) (l:List Int) (e:Ending) (w':World):Prop:=∃ v,e=.returned v/\Below w.heap.size w w'/\w'.ownsRow 0 3 1 v l.length (aR l)/\(∀ k,v.ownBlock=some k->w.heap.size<=k)/\(l=[]->v=.slice none 0 0)
theorem aRy {p:Prop}(h:p:=by
 go_wp2_with fail
 all_goals refine⟨⟨k+1,oz,si,hbr,hvb,qd (by rw[HT.out,HK.out];simpa using hvn.out),qd (by rw[HT.out,HK.out];simpa using hv.out)⟩,?_⟩
 all_goals(go_light;exact ml)):p:=h
theorem lG {p:Prop}(h:p:=by
 rw[<-hW0];exact aF.new' _ _ _ _ si):p:=h
theorem mR {p:Prop}(h:p:=by
 rw[<-hW0];exact(aF.new _ _ _).alloc _):p:=h
theorem aPt {p:Prop}(h:p:=by
 intro j hj;have hj':g2=j:=by simpa[Value.ownBlock]using hj
 subst hj';rcases hg4 with h|h
 ·exact hvb _ h
 ·have:=hbr.size;simp at h;omega):p:=h
theorem aA0 {p:Prop}(h:p:=by
 rw[List.length_map];exact Nat.le_trans (List.length_filter_le _ _) si):p:=h
theorem qO (B:Nat) (hh:HF) (f:aC) (at_:Nat) (w:World) (hB:B<=w.heap.size) (hf:aZ B w hh f) (hat:at_<f.code.length):Calls Tryz.prog 46 #[aI hh f,.int .i64 at_] w (aAx w (aY f at_)):=by
 obtain⟨pa,pl,pc,ca,cl,cc⟩:=hh;obtain⟨h1,h2,⟨hcl,hcm,cb,co,hcb,hcells⟩,h4,h5⟩:=hf;dsimp only at *;subst hcl;have hcm':f.code.length<=9223372036854775807:=hcm;obtain⟨rfl,hcB⟩:=hcb oz;have hcbl:cb<w.heap.size:=oz
 obtain⟨⟨g0,g1,g2,g3,g4⟩,ok⟩:=hcells at_ hat;clear hcells h2;unfold aY aI;have hL:=aFm (f.code.getD at_ default) at_;generalize hx:f.code.getD at_ default=x at *;clear hx;obtain⟨fn,fps,fregs,fwords,fcode⟩:=f;dsimp only at *;obtain⟨op,xa,xb,xc,xn⟩:=x;dsimp only at *;have i1:(at_:Int)<(fcode.length:Int):=oz
 have i2:¬(at_:Int)<0:=oz
 go_enter Tryz.func46,Tryz.ntmps46;go_upto_block 0 with(fail)
 generalize hW0:World.alloc _ _=W0;have hb0:Below w.heap.size w W0:=by rw[<-hW0];exact bel
 have OB:aF W0 w.heap.size [.string fn,.slice pa pl pc,.int .i64 fregs,.int .i64 fwords,.slice (some ⟨cb,co,none⟩) fcode.length cc]:=mR
 have OX:aF W0 (w.heap.size+1) [.int .i64 op,.int .i64 xa,.int .i64 xb,.int .i64 xc,.int .i64 xn]:=lG
 clear hW0 g0 g1 g2 g3 g4;have x5:=aX OX;have hz0:=hb0.size;have hwa:IntKind.i64.wrap ((at_:Int)+1)=(at_:Int)+1:=IntWalk.i64_in _ oz;have HR:aDh ⟨op,xa,xb,xc,xn⟩ at_=aDh ⟨op,xa,xb,xc,xn⟩ at_:=rfl;generalize hRL:aDh ⟨op,xa,xb,xc,xn⟩ at_=L at *;clear HR;have HRL:=qd hRL;clear hRL;go_cut [6] (fun v wx=>∃ (la:Option Addr) (lc:Nat),v=.slice la L.length lc/\Below W0.heap.size W0 wx/\(∀ k,v.ownBlock=some k->W0.heap.size<=k)/\Hid (wx.ownsRow 0 2 1 v L.length (aR L)))
 case first =>
  go_wp2_with (first|(go_at_call 82;refine(rJ _ _).mono ?_;rintro e w1 ⟨rfl,rfl⟩)|fail)
  all_goals go_meet
  all_goals(
   have hl:=HRL.out;unfold aDh at hl;clear hL x5 hwa h1 hcb ok)
  all_goals(try simp only[beq_iff_eq,beq_eq_false_iff_ne,ne_eq]at *)
  all_goals repeat' split at hl
  all_goals first
   | (exfalso;omega)
   | (exfalso;simp_all;done)
   | (subst hl;exact⟨none,0,rfl,Below.refl _ _,by simp[Value.ownBlock],qd (World.ownsRow_nil _ _ _ _)⟩)
   | (subst hl;exact⟨_,_,rfl,bel,by intro k hk;simp[Value.ownBlock]at hk;omega,qd (World.ownsRow_lit _ _ _ (Nat.zero_le _) dc rfl)⟩)
 case rest =>
  obtain⟨la,lc,rfl,hbc,hvl,hrow⟩:=hcut;have OB2:=OB.below hbc;have b5:=aX OB2;have hzc:=hbc.size;go_wp2;go_loopw [7,51] (fun v i wr=>∃ k:Nat,k<=L.length/\i=.int .i64 k/\Below wc.heap.size wc wr/\(∀ j,v.ownBlock=some j->wc.heap.size<=j)/\Hid (iI fcode.length L k=[]->v=.slice none 0 0)/\Hid (wr.ownsRow 0 3 1 v (iI fcode.length L k).length (aR (iI fcode.length L k)))) (fun v i _=>L.length-(intOf i).toNat)
  case atStart=>exact⟨0,Nat.zero_le _,rfl,Below.refl _ _,by simp[Value.ownBlock],qd (fun _=>rfl),qd (World.ownsRow_nil _ _ _ _)⟩
  case round =>
   obtain⟨k,hk,rfl,hbr,hvb,hvn,hv⟩:=hrel;have bc:=bT hbr;have hzr:=hbr.size;have hL63:L.length<=9223372036854775807:=oz
   by_cases hlt:k<L.length
   ·have d2:(k:Int)<(L.length:Int):=oz
    have hwk:IntKind.i64.wrap ((k:Int)+1)=(k:Int)+1:=IntWalk.i64_in _ oz;obtain⟨lg,lc',hlv,-,-,hlg⟩:=bB hrow.out oz;cases hlv;have hgd:∀ j,j<L.length->wr.cell? ⟨lg,j,none⟩=some (.int .i64 (L.getD j 0)):=fun j hj=>by
     rw[bc.1 lg j hlg];exact aH hrow.out (aV (by rw[List.getD_eq_getElem?_getD,List.getElem?_eq_getElem hj];rfl))
    have l0:=hgd k hlt;have l1:=hgd 0 oz;have b6:=aX (OB2.below hbr);clear hgd bc b5;have HT:=qd (mZ fcode.length L k);have hkd:rY fcode.length L k=rY fcode.length L k:=rfl;generalize hK:rY fcode.length L k=K at *;have HKD:=qd hK;clear hK hkd;have HKF:=qd (show rY fcode.length L k=(decide (0<=L.getD k 0)&&decide (L.getD k 0<fcode.length)&&(decide (k=0)||decide (L.getD k 0≠L.getD 0 0)))from rfl);have hNT:(iI fcode.length L k).length<=k:=by
     unfold iI;exact aA0
    have HK0:k=0->L.getD k 0=L.getD 0 0:=fun e=>by rw[e]
    have HK1:=qd HK0;clear HK0;generalize L.getD k 0=x at *;generalize L.getD 0 0=x0 at *;by_cases e1:0<=x
    ·by_cases e2:x<(fcode.length:Int)
     ·by_cases e3:k=0
      ·have hK:K=true:=by rw[<-HKD.out,HKF.out];simp[e1,e2,e3]
       have HK:=qd hK;clear hK;have hxx:=HK1.out e3;subst hxx;subst e3;go_wp2_with (first|(at_builtin;refine bO rfl (.tmp 76) (.tmp 78) 50 3 1 8 (.int .i64 0) rfl Tryz.underlying50 Tryz.infoI rfl dc _ _ _ rfl (aA bel hv.out) ⟨wr.heap.size,0,none⟩ 1 1 (aR [x]) rfl rfl (cC (aF.new' _ _ _ _ si)) (bZ _) bH oz dc ?_;intro g2 cap2 w4 hb4 hc4 hg4)|fail)
       have hc5:aG (fun j=>u7.ownBlock=some j) wr w4:=(aG.of (by exact bel)).trans hc4;refine⟨⟨0+1,oz,si,hbr.trans (hc5.below _ hbr.size (fun j hj e=>by have:=hvb j e;omega)),?_,qd ?_,qd ?_⟩,?_⟩
       ·exact aPt
       ·intro e;exfalso;rw[HT.out,HK.out,if_pos rfl]at e;simp at e
       ·rw[HT.out,HK.out,if_pos rfl,List.length_append,bK];exact hb4
       ·go_light;exact ml
      ·have e4:¬(k:Int)=0:=oz
       by_cases e5:x=x0
       ·have hK:K=false:=by rw[<-HKD.out,HKF.out];simp[e1,e2,e3,e5]
        have HK:=qd hK;clear hK;subst e5;exact aRy
       ·have hbx:(x != x0)=true:=by simpa using e5
        have hbx2:(x==x0)=false:=by simpa using e5
        have hK:K=true:=by rw[<-HKD.out,HKF.out];simp[e1,e2,e3,e5]
        have HK:=qd hK;clear hK;go_wp2_with (first|(at_builtin;refine bO rfl (.tmp 76) (.tmp 78) 50 3 1 8 (.int .i64 0) rfl Tryz.underlying50 Tryz.infoI rfl dc _ _ _ rfl (aA bel hv.out) ⟨wr.heap.size,0,none⟩ 1 1 (aR [x]) rfl rfl (cC (aF.new' _ _ _ _ si)) (bZ _) bH oz dc ?_;intro g2 cap2 w4 hb4 hc4 hg4)|fail)
        have hc5:aG (fun j=>u7.ownBlock=some j) wr w4:=(aG.of (by exact bel)).trans hc4;refine⟨⟨k+1,oz,si,hbr.trans (hc5.below _ hbr.size (fun j hj e=>by have:=hvb j e;omega)),?_,qd ?_,qd ?_⟩,?_⟩
        ·exact aPt
        ·intro e;exfalso;rw[HT.out,HK.out,if_pos rfl]at e;simp at e
        ·rw[HT.out,HK.out,if_pos rfl,List.length_append,bK];exact hb4
        ·go_light;exact ml
     ·have hK:K=false:=by rw[<-HKD.out,HKF.out];simp[e1,e2]
      have HK:=qd hK;clear hK;exact aRy
    ·have hK:K=false:=by rw[<-HKD.out,HKF.out];simp[e1]
     have HK:=qd hK;clear hK;exact aRy
   ·have hkk:k=L.length:=oz
    subst hkk;have d2:¬(L.length:Int)<(L.length:Int):=oz
    go_wp2;go_ret;go_light;exact⟨_,rfl,bel,hv.out,(fun j hj=>by have:=hvb j hj;omega),hvn.out⟩
end Go.Proofs.YteebpnbdihcfmaaGreatDoor
