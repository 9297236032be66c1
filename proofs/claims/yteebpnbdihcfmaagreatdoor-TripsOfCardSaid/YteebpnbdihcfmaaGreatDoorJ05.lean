/- The reference of spans; A range over a functio; Regions that draw thei; Package span; Plain law; The reference's own ch; R12; Which instructions can; The plain law of dom; Package flow; Package dom -/
import Derived.Test.YteebpnbdihcfmaaGreatDoorJ02
import Derived.RangeFuncNested
import Derived.RangeFuncBound
import Derived.RangeFuncCalls
import Derived.RangeFuncLeaves
import Derived.OwnWalkIn
import Derived.TacticsInMore
import Derived.LoopNIn
import Derived.LoopIn
import Derived.OrdersIn
import Derived.WalkMore
set_option linter.unusedVariables false
set_option linter.unusedSimpArgs false
set_option maxRecDepth 100000
set_option maxHeartbeats 20000000
namespace Go.Proofs.YteebpnbdihcfmaaGreatDoor
open Go.RowKit
theorem aTu {p:Prop}(h:p:=by
 have HU:=qd hu;clear hu;go_wp2_with fail
 go_roundw
 case rel=>exact⟨j+1,oz,si,bel,qd aK,qd aK,qd aK,qd (by rw[HS.out,HU.out];exact f6 _)⟩
 case measure=>go_light;exact ml):p:=h
theorem aJk {p:Prop}(h:p:=by
 go_wp2
 try rw[Exit.noGoto_ret]
 go_ret2;exact⟨rfl,rfl⟩):p:=h
theorem aVp {p:Prop}(h:p:=by
 have HU:=qd hu;clear hu;go_wp2_with fail
 go_roundw
 case rel=>exact⟨j+1,oz,si,hbr,h1,h3,h4,qd (by rw[HS.out,HU.out];exact h5.out)⟩
 case measure=>go_light;exact ml):p:=h
theorem iQ (a:aB) (w:World):Calls Tryz.prog 31 #[aJ a] w fun e w'=>e=.returned (.bool (dU a))/\Below w.heap.size w w':=by
 obtain⟨lo,hi⟩:=a;unfold aJ dU;dsimp only;go_enter Tryz.func31,Tryz.ntmps31;exact vA
theorem aIn (a:aB) (n:Int) (w:World):Calls Tryz.prog 97 #[aJ a,.int .i64 n] w fun e w'=>e=.returned (.bool (decide (a.lo<=n)&&decide (n<=a.hi)))/\Below w.heap.size w w':=by
 obtain⟨lo,hi⟩:=a;unfold aJ;dsimp only;by_cases h1:lo<=n
 ·have d1:decide (lo<=n)=true:=by simpa using h1
  go_enter Tryz.func97,Tryz.ntmps97;exact aD3
 ·have d1:decide (lo<=n)=false:=by simpa using h1
  go_enter Tryz.func97,Tryz.ntmps97;exact aD3
theorem zH {p:Prop}(h:p:=by
 go_wp2
 try rw[Exit.noGoto_ret]
 go_ret;exact⟨rfl,rfl⟩):p:=h
theorem nA (a b:Int) (w:World):Calls Tryz.prog 68 #[.int .i64 a,.int .i64 b] w fun e w'=>e=.returned (.int .i64 (min a b))/\w'=w:=by
 by_cases h:a<b
 ·rw[show min a b=a by omega];go_enter Tryz.func68,Tryz.ntmps68;exact zH
 ·rw[show min a b=b by omega];go_enter Tryz.func68,Tryz.ntmps68;go_wp2;go_ret;exact⟨rfl,rfl⟩
theorem lX (a b:Int) (w:World):Calls Tryz.prog 69 #[.int .i64 a,.int .i64 b] w fun e w'=>e=.returned (.int .i64 (max a b))/\w'=w:=by
 by_cases h:b<a
 ·rw[show max a b=a by omega];go_enter Tryz.func69,Tryz.ntmps69;exact zH
 ·rw[show max a b=b by omega];go_enter Tryz.func69,Tryz.ntmps69;go_wp2;go_ret;exact⟨rfl,rfl⟩
theorem aIy (a b:Int) (w:World):Calls Tryz.prog 117 #[.int .i64 a,.int .i64 b] w fun e w'=>e=.returned (.int .i64 (if a = -1 then b else a))/\w'=w:=by
 by_cases h:a = -1
 ·rw[if_pos h];have h2:(a == -1)=true:=by simpa using h
  go_enter Tryz.func117,Tryz.ntmps117;exact zH
 ·rw[if_neg h];have h2:(a == -1)=false:=by simpa using h
  go_enter Tryz.func117,Tryz.ntmps117;go_wp2;go_ret;exact⟨rfl,rfl⟩
theorem sZ (w:World):Calls Tryz.prog 65 #[] w fun e w'=>e=.returned (aJ kO)/\Below w.heap.size w w':=by
 unfold aJ kO;go_enter Tryz.func65,Tryz.ntmps65;go_wp2;exact wG
theorem aEm (a b:aB) (w:World):Calls Tryz.prog 32 #[aJ a,aJ b] w fun e w'=>e=.returned (.int .u64 (kI a b))/\Below w.heap.size w w':=by
 obtain⟨lo,hi⟩:=a;obtain⟨lo2,hi2⟩:=b;unfold aJ kI;dsimp only;by_cases h:hi2<=lo
 ·rw[if_pos h];go_enter Tryz.func32,Tryz.ntmps32;go_wp2
  try rw[Exit.noGoto_ret]
  go_ret;go_light;exact⟨rfl,bel⟩
 ·rw[if_neg h];go_enter Tryz.func32,Tryz.ntmps32;exact vA
theorem sQ (y n:Bool) (w:World):Calls Tryz.prog 96 #[.bool y,.bool n] w fun e w'=>e=.returned (aJ (eT y n))/\Below w.heap.size w w':=by
 unfold aJ eT;cases y<;>cases n
 all_goals
  go_enter Tryz.func96,Tryz.ntmps96;go_wp2;refine fV (by rfl) (by rfl) aK si ?_;exact⟨rfl,bel⟩
theorem aIr {p:Prop}(h:p:=by
 have w2:IntKind.i64.wrap (x-n)=x-n:=IntWalk.i64_in _ oz;go_enter Tryz.func99,Tryz.ntmps99;exact aJk):p:=h
theorem aR4 {p:Prop}(h:p:=by
 obtain rfl:B=false:=by rw[hB];simp;omega
 clear hB;go_enter Tryz.func99,Tryz.ntmps99;exact aJk):p:=h
theorem mA (x n:Int) (w:World) (hx:aM x) (hn:aM n) (B:Bool) (hB:B=(decide (-9223372036854775808<=x-n)&&decide (x-n<=9223372036854775807))):Calls Tryz.prog 99 #[.int .i64 x,.int .i64 n] w fun e w'=>e=.returned (.tuple #[.int .i64 (if B then x-n else 0),.bool B])/\w'=w:=by
 unfold aM at hx hn;by_cases h1:n<0
 ·have w1:IntKind.i64.wrap (9223372036854775807+n)=9223372036854775807+n:=IntWalk.i64_in _ oz;by_cases h2:9223372036854775807+n<x
  ·exact aR4
  ·obtain rfl:B=true:=by rw[hB];simp;omega
   clear hB;have h3:¬0<n:=oz
   exact aIr
 ·by_cases h4:0<n
  ·have w1:IntKind.i64.wrap (-9223372036854775808+n) = -9223372036854775808+n:=IntWalk.i64_in _ oz;by_cases h2:x < -9223372036854775808+n
   ·exact aR4
   ·obtain rfl:B=true:=by rw[hB];simp;omega
    clear hB;exact aIr
  ·obtain rfl:B=true:=by rw[hB];simp;omega
   clear hB;exact aIr
theorem iA {p:Prop}(h:p:=by
 show _<=w.heap.size+1+1;omega):p:=h
theorem aK2 (a b:aB) (w:World):Calls Tryz.prog 30 #[aJ a,aJ b] w fun e w'=>e=.returned (aJ (cJ a b))/\Below w.heap.size w w':=by
 have HA:=qd (fun w=>iQ a w);have HB:=qd (fun w=>iQ b w);obtain⟨lo,hi⟩:=a;obtain⟨lo2,hi2⟩:=b;unfold aJ dU at HA HB;obtain⟨⟨jl,jh⟩,hj⟩:∃ q:aB,cJ ⟨lo,hi⟩ ⟨lo2,hi2⟩=q:=⟨_,rfl⟩
 rw[hj];have HJ:=qd hj;clear hj;unfold aJ;dsimp only at *;go_enter Tryz.func30,Tryz.ntmps30;go_upto_region 1 with(fail)
 generalize hW:World.alloc _ _=W;obtain⟨hb,o1,o2,o3,hz⟩:=iP hW;have q1:=aD o1;have q2:=aD o2;by_cases h1:hi<lo
 ·have e:=HJ.out;unfold cJ at e;rw[if_pos h1]at e;cases e;rw[show decide (hi<lo)=true by simpa using h1]at HA;go_upto_region 2 with(first|(go_at_call 31;refine(HA.out _).mono ?_;rintro e w1 ⟨rfl,hb1⟩)|fail)
  have qb:=aD (o2.below hb1);have hr:=o3.below hb1;have s3:=cQ hr;have qr:=aD hr;have hb2:=hb.trans (hb1.mono hb.size);go_wp2;refine fV (by rfl) (by rfl) ((hr.set 0 _ si).set 1 _ si) si ⟨rfl,?_⟩;exact(hb2.setCell (p:=⟨w.heap.size+1+1,0,none⟩) iA _).setCell (p:=⟨w.heap.size+1+1,1,none⟩) iA _
 ·have e:=HJ.out;unfold cJ at e;rw[if_neg h1]at e;dsimp only at e;rw[show decide (hi<lo)=false by simpa using h1]at HA;by_cases h2:hi2<lo2
  ·rw[if_pos h2]at e;cases e;rw[show decide (hi2<lo2)=true by simpa using h2]at HB;go_upto_region 3 with(first|(go_at_call 31;refine(HA.out _).mono ?_;rintro e w1 ⟨rfl,hb1⟩)|fail)
   have qb:=aD (o2.below hb1);go_upto_region 4 with(first|(go_at_call 31;refine(HB.out _).mono ?_;rintro e w2 ⟨rfl,hb2⟩)|fail)
   have qa:=aD ((o1.below hb1).below hb2);have hr:=(o3.below hb1).below hb2;have s3:=cQ hr;have qr:=aD hr;have hb3:=(hb.trans (hb1.mono hb.size)).trans (hb2.mono (by have:=hb.size;have:=hb1.size;omega));go_wp2;refine fV (by rfl) (by rfl) ((hr.set 0 _ si).set 1 _ si) si ⟨rfl,?_⟩;exact(hb3.setCell (p:=⟨w.heap.size+1+1,0,none⟩) iA _).setCell (p:=⟨w.heap.size+1+1,1,none⟩) iA _
  ·rw[if_neg h2]at e;cases e;rw[show decide (hi2<lo2)=false by simpa using h2]at HB;go_upto_region 3 with(first|(go_at_call 31;refine(HA.out _).mono ?_;rintro e w1 ⟨rfl,hb1⟩)|fail)
   have qb:=aD (o2.below hb1);go_upto_region 5 with(first|(go_at_call 31;refine(HB.out _).mono ?_;rintro e w2 ⟨rfl,hb2⟩)|fail)
   have qa:=aD ((o1.below hb1).below hb2);have qc:=aD ((o2.below hb1).below hb2);have hr:=(o3.below hb1).below hb2;have qr:=aD hr;have hb3:=(hb.trans (hb1.mono hb.size)).trans (hb2.mono (by have:=hb.size;have:=hb1.size;omega));have HL:=qd (fun x y w=>(nA x y w).mono (R':=fun e w'=>e=.returned (.int .i64 (min x y))/\Below w.heap.size w w') (by rintro e w' ⟨h,rfl⟩;exact⟨h,Below.refl _ _⟩));have HG:=qd (fun x y w=>(lX x y w).mono (R':=fun e w'=>e=.returned (.int .i64 (max x y))/\Below w.heap.size w w') (by rintro e w' ⟨h,rfl⟩;exact⟨h,Below.refl _ _⟩));clear q1 q2 qb;refine bI 11 kr kr (fun T F hF hall=>?_);simp only[TD];have hFc:=fun t=>(bT (hF t)).1;have hFf:=fun t=>(bT (hF t)).2;have hFs:=fun t=>(hF t).size;have hNE:Nonempty T:=(hall _ (Below.refl _ _)).elim fun t _=>⟨t⟩;repeat(refine aU (fun K hK=>?_);go_simp;refine hK _ ?_;clear hK K)
   (refine aU (fun K hK=>?_);go_simp;refine⟨_,fun t=>bE (hF t) hall (HL.out _ _ (F t)),hK _ ?_⟩;clear hK K)
   repeat(refine aU (fun K hK=>?_);go_simp;refine hK _ ?_;clear hK K)
   (refine aU (fun K hK=>?_);go_simp;refine⟨_,fun t=>bE (hF t) hall (HG.out _ _ (F t)),hK _ ?_⟩;clear hK K)
   repeat(refine aU (fun K hK=>?_);go_simp;refine hK _ ?_;clear hK K)
   refine gX (fun t=>?_);have hft:=hF t;have hr4:=hr.below hft;have hb4:=hb3.trans (hft.mono hb3.size);go_wp2;refine fV (by rfl) (by rfl) ((hr4.set 0 _ si).set 1 _ si) si ⟨rfl,?_⟩;exact(hb4.setCell (p:=⟨w.heap.size+1+1,0,none⟩) iA _).setCell (p:=⟨w.heap.size+1+1,1,none⟩) iA _
/-- the walk's own book-keeping: blocks from b on that hold a loop's record or deferred calls are turned -/
structure iF (b:Nat) (W W':World):Prop where
 os:W'.os=W.os
 tape:W'.tape=W.tape
 output:W'.output=W.output
 size:W'.heap.size=W.heap.size
 block:∀ k,(k<b\/∀ o,W.heap[k]? = some o->o.isCells=true)->W'.heap[k]? = W.heap[k]?
theorem iF.below {b:Nat}{W W':World}(h:iF b W W'):Below b W W':=⟨h.os,h.tape,h.output,Nat.le_of_eq h.size.symm,fun k hk=>h.block k (.inl hk)⟩
theorem iF.cellsAt {b:Nat}{W W':World}(h:iF b W W') {k:Nat}{c:Array Value}{t:TypeId}{p:Nat×Nat}(hk:W.heap[k]? = some (.cells c t p)):W'.heap[k]? = W.heap[k]? :=
 h.block k (.inr fun o ho=>by rw[hk]at ho;cases ho;rfl)
theorem iF.put {b:Nat}(W:World) (l:Nat) (o o':Obj) (hl:b<=l) (h:W.heap[l]? = some o) (hc:o.isCells=false):iF b W (W.putObj l o'):=by
 have hg:=grownBy_putObj' W l o';have hs:(W.putObj l o').heap.size=W.heap.size:=by simp[World.putObj]
 refine⟨hg.os,hg.tape,hg.output,hs,fun k hk=>?_⟩;by_cases e:k=l
 ·subst e;rcases hk with hk|hk
  ·omega
  ·have:=hk _ h;rw[hc]at this;cases this
 ·exact World.putObj_heap_other oz
/-- how a round's body is left -/
def aI0 (P:World->Prop):Exit->Act->World->Prop
 | .normal,_,W=>P W
 | _,_,_=>False
theorem aCe {α:Type}{n:Nat}{P:Program}{g:Operand}{ps:Array Tmp}{assign body:Code}{Q:Exit->Act->World->Prop}{a:Act}{w:World}
 (gf:Nat) (lb:Array Value) (hg:a.eval g=.func (.func gf) #[] lb) (eg:∀ args w,(callFunc gf args).run P w=.ok (.enter gf args) w)
 (encs:α->Array Value) (hps:∀ x,(encs x).size=ps.size)
 (I:List α->World->Prop) (hIB:∀ pre W W',I pre W->Below W.heap.size W W'->I pre W') (hIT:∀ pre W W',I pre W->iF w.heap.size W W'->I pre W') (h0:I [] w)
 (S:List α->Prop) (Ok:List α->α->Prop) (Kp:List α->α->World->World->Prop)
 (hKp:∀ pre x W Wb W3 W',I pre W->iF w.heap.size W Wb->Kp pre x Wb W3->iF w.heap.size W3 W'->(∀ k,w.heap.size<=k->k<w.heap.size+2->W'.heap[k]? = W.heap[k]?)->(∀ k,k≠w.heap.size+1->Wb.heap[k]? = W.heap[k]? /\ W'.heap[k]? = W3.heap[k]?)->Kp pre x W W')
 (hseq:∀ (l:Nat) (W:World) (J:List α->World->Prop),(∀ pre W,J pre W->I pre W)->(∀ pre W W',J pre W->Below W.heap.size W W'->J pre W')->Below w.heap.size w W ->
   (∀ pre x W1,J pre W1->Ok pre x->YieldAt Fence.wide (n-1-1) P l (encs x) W1 fun e W'=>e=.returned (.bool true)/\J (pre++[x]) W'/\Kp pre x W1 W') ->
   J [] W->CallsIn Fence.wide (n-1) P gf (#[.func (.yield l) #[] #[]]++lb) W fun e W'=>(∃ v,e=.returned v)/\∃ xs,S xs/\J xs W')
 (a₁:α->Act)
 (hassign:∀ (l:Nat) (x:α) (W:World) (K:Act->World->Prop),K (a₁ x) W ->
   assign.wpIn (Fence.wide.inRound l) (n-1-1) P (Exit.then K (fun _ _ _=>False)) { tmps:=(ps.zip (encs x)).foldl (fun t (p,v)=>t.setIfInBounds p v) a.tmps,defers:=[] } W)
 (hbody:∀ (l:Nat) (pre:List α) (x:α) (W:World),I pre W->Ok pre x->w.heap.size+1<W.heap.size ->
   body.wpIn (Fence.wide.inRound l) (n-1-1) P (aI0 fun W'=>(∀ k,w.heap.size<=k->k<w.heap.size+2->W'.heap[k]? = W.heap[k]?)/\Kp pre x W W'/\I (pre++[x]) W') (a₁ x) W)
 (hdone:∀ (xs:List α) (W:World),S xs->I xs W->W.heap[w.heap.size]? = some (.deferred (some []))->Q .normal { a with defers:={ target:=.collected w.heap.size,args:=#[] }::a.defers } W) :
 (Code.rangeFunc g ps assign body).wpIn Fence.wide n P Q a w:=by
 refine wpIn_rangeFunc fun fn hfn=>?_;obtain⟨rc,hrc⟩:∃ rc:LoopState->Option Code->Loop,rc=fun st pe=>{ state:=st,pending:=pe,fn,tmps:=a.tmps,params:=ps,assign,body,defers:=w.heap.size }:=⟨_,rfl⟩
 obtain⟨W1,hW1⟩:∃ W1,(w.alloc (.deferred (some []))).alloc (.loop (rc .ready none))=W1:=⟨_,rfl⟩
 have hbel:Below w.heap.size w W1:=by rw[<-hW1];exact eN.alloc si _
 have hL1:W1.heap[w.heap.size+1]? = some (.loop (rc .ready none)):=by
  rw[<-hW1];have:=World.alloc_heap_new (w.alloc (.deferred (some []))) (.loop (rc .ready none));rwa [World.size_alloc]at this
 have hD1:W1.heap[w.heap.size]? = some (.deferred (some [])):=by
  rw[<-hW1];exact(Below.heap_alloc _ _ _ si).trans (World.alloc_heap_new w _)
 refine⟨w.heap.size+1,[{ target:=.collected w.heap.size,args:=#[] }],W1,{ target:=.fn (.func gf) lb,args:=#[.func (.yield (w.heap.size+1)) #[] #[]] },W1,gf,
  #[.func (.yield (w.heap.size+1)) #[] #[]]++lb,W1,?_,?_,?_,?_,(fun h=>(by cases h)),?_⟩
 ·rw[<-hW1,hrc];exact run_enterLoop_outer _ _ _ _ _
 ·simp only[resolve,hg];simp[go_sem]
 ·intro f' _;trivial
 ·simp[invoke,go_sem,eg]
 ·have hlt:∀ {W:World}{k:Nat}{o:Obj},W.heap[k]? = some o->k<W.heap.size:=fun h=>(Array.getElem?_eq_some_iff.1 h).1;refine(hseq (w.heap.size+1) W1 (fun pre W=>I pre W/\W.heap[w.heap.size+1]? = some (.loop (rc .ready none))/\W.heap[w.heap.size]? = some (.deferred (some [])))
   (fun pre W h=>h.1) (fun pre W W' h hb=>⟨hIB pre W W' h.1 hb,(hb.block _ (hlt h.2.1)).trans h.2.1,(hb.block _ (hlt h.2.2)).trans h.2.2⟩) hbel ?_ ⟨hIB _ _ _ h0 hbel,hL1,hD1⟩).mono ?_
  ·rintro pre x W ⟨hi,hl,hd⟩ hok;have hy:=run_yield (P:=P) (args:=encs x) hl (by rw[hrc];exact hps x);rw[hrc]at hy;refine⟨fn,_,assign,body,hy,roundIn_of_wpIn hfn (hassign _ x W _ ⟨_,run_beginRound hl (by rw[hrc]),?_⟩)⟩;have tb:=iF.put (b:=w.heap.size) W (w.heap.size+1) _ (.loop { rc .ready none with state:=.busy }) oz hl rfl;have hob:∀ k,k≠w.heap.size+1->(W.putObj (w.heap.size+1) (.loop { rc .ready none with state:=.busy })).heap[k]? = W.heap[k]? := fun k hk=>World.putObj_heap_other oz;have hl2:(W.putObj (w.heap.size+1) (.loop { rc .ready none with state:=.busy })).heap[w.heap.size+1]? = some (.loop { rc .ready none with state:=.busy }):=World.putObj_heap_same (hlt hl);have hd2:=(hob w.heap.size oz).trans hd;generalize W.putObj (w.heap.size+1) (.loop { rc .ready none with state:=.busy })=Wb at *;refine wpIn_mono (hbody _ pre x Wb (hIT _ _ _ hi tb) hok (hlt hl2)) ?_;rintro e a3 W3 hp;cases e with
   | normal =>
    obtain⟨hk,hkp,hi3⟩:=hp;have hl3:=(hk _ oz oz).trans hl2;have hd3:=(hk _ oz oz).trans hd2;have hend:=run_endRound (P:=P) none hl3;have te:=iF.put (b:=w.heap.size) W3 (w.heap.size+1) _ (.loop (rc .ready none)) oz hl3 rfl;have hoe:∀ k,k≠w.heap.size+1->(W3.putObj (w.heap.size+1) (.loop (rc .ready none))).heap[k]? = W3.heap[k]? := fun k hk=>World.putObj_heap_other oz;have hl4:(W3.putObj (w.heap.size+1) (.loop (rc .ready none))).heap[w.heap.size+1]? = some (.loop (rc .ready none)):=World.putObj_heap_same (hlt hl3);refine⟨_,_,hend,?_⟩;have hre:({ ({ rc .ready none with state:=.busy }:Loop)with state:=if(none:Option Code).isNone then .ready else .done,pending:=none }:Loop)=rc .ready none:=by rw[hrc];rfl
    rw[hre];have hd4:=(hoe w.heap.size oz).trans hd3;refine⟨rfl,⟨hIT _ _ _ hi3 te,hl4,hd4⟩,hKp pre x W Wb W3 _ hi tb hkp te (fun k h1 h2=>?_) (fun k hk=>⟨hob k hk,hoe k hk⟩)⟩;rcases(show k=w.heap.size\/k=w.heap.size+1 by omega)with rfl|rfl
    ·rw[hd4,hd]
    ·rw[hl4,hl]
   | ret=>exact hp.elim
   | exit id=>exact hp.elim
   | goto t=>exact hp.elim
   | panic ch=>exact hp.elim
   | outgrown=>exact hp.elim
  ·rintro e W2 ⟨⟨v,rfl⟩,xs,hS,hi,hl,hd⟩;subst hrc;have hend:=run_endLoop (P:=P) hl si;refine⟨none,_,hend,?_⟩;exact hdone xs _ hS (hIT _ _ _ hi (iF.put W2 (w.heap.size+1) _ _ oz hl rfl)) ((World.putObj_heap_other oz).trans hd)
section
def aDu (ops:Array Oper):Bool:=ops.toList.all fun o=>match o.op with|.defer _=>false|_=>true
theorem aDp {ops:Array Oper}(h:aDu ops=true) (i:Nat) (o:Oper) (hi:ops[i]? = some o) (c:Call):o.op≠.defer c:=by
 intro e;unfold aDu at h;rw[List.all_eq_true]at h;have:=h o (List.mem_of_getElem? (i:=i) (by rw[Array.getElem?_toList];exact hi));rw[e]at this;cases this
section
variable {P : Program} {ops : Array Oper} {Q : Exit -> Act -> World -> Prop} {l n : Nat} {md : Region.Mode}
theorem aKa {row:String}{args:Array Value}{w:World}{R:Value->World->Prop}(h:Rows P row args w R):RowsIn (Fence.wide.inRound l) n P row args w R :=
 fun c cs _=>let ⟨v,w',r,s⟩:=h c cs;⟨v,w',r,stepsIn_wide.2 s⟩
theorem aLe {o:Oper}{a:Act}{w:World}{K:Act->World->Prop}(ho:∀ c,o.op≠.defer c) (h:o.wp P a w K Q):o.wpIn (Fence.wide.inRound l) n P a w K Q:=by
 refine⟨fun f _=>trivial,?_⟩;rw[Oper.semAt_eq _ _ _ ho];unfold Oper.wp at h;generalize (execOp a.eval o).run P w=r at *;cases r with
 | ok x w' =>
  cases x<;>simp only[Oper.upon,Oper.uponIn]at h ⊢
  case value v=>exact h
  case skip=>exact h
  case defer d=>exact h
  case enter f args=>exact⟨fun e=>(by have e':(none:Option Nat).isSome=true:=e;cases e'),(callsIn_wide.2 h:CallsIn Fence.wide _ P f args w' _)⟩
  case row row args=>exact⟨fun e=>(by have e':(none:Option Nat).isSome=true:=e;cases e'),aKa h⟩
 | halt x w'=>cases x<;>simp only[Oper.upon,Oper.uponIn]at h ⊢ <;> exact h
theorem aSc {i:Nat}{K:Act->World->Prop}{a:Act}{w:World}(ho:∀ o,ops[i]? = some o->∀ c,o.op≠.defer c) (hQ:¬LetsOut Q) (h:wpOp P ops Q i K a w):wpOpIn (Fence.wide.inRound l) n P ops Q i K a w:=by
 unfold wpOp at h;unfold wpOpIn;cases hi:ops[i]? with
 | none=>simp only[hi]at h ⊢;exact h
 | some o =>
  simp only[hi]at h ⊢;split
  ·next hw =>
   rw[if_pos hw]at h;rcases h with h|h
   ·exact aLe (ho o hi) h
   ·exact absurd h.2 hQ
  ·next hw =>
   rw[if_neg hw]at h;exact⟨fun f _=>trivial,h⟩
theorem aEi (ho:∀ (i:Nat) (o:Oper),ops[i]? = some o->∀ c,o.op≠.defer c) (hQ:¬LetsOut Q):∀ (fuel:Nat) (listed:Array Bool) (a:Act) (w:World),wpAny P md ops Q fuel listed a w->wpAnyIn (Fence.wide.inRound l) n P md ops Q fuel listed a w
 | 0,_,_,_,h=>h
 | fuel+1,_,_,_,h=>⟨h.1,fun i hi=>wpOpIn_mono (fun a' w' h'=>aEi ho hQ fuel _ a' w' h') (aSc (ho i) hQ (h.2 i hi))⟩
/-- a region that draws, in a round -/
def kS (K:Act->World->Prop):Exit->Act->World->Prop
 | .normal,a,w=>K a w
 | _,_,_=>False
theorem fH {P : Program} {md : Region.Mode} {ops : Array Oper} {K : Act -> World -> Prop} {S : World -> Prop} (i : Nat) {oi : Oper} {v : Value} {fuel : Nat} {listed : Array Bool} {a : Act} {w : World} (hi : ops[i]? = some oi) (h : wpAnyH P md ops (kS K) S fuel (listed.setIfInBounds i true) (a.put oi.dst v) w)
    (hx:∀ w',S w'->(execOp a.eval oi).run P w'=.ok (.value v) w') (hg:Region.wanted oi (yielded ops a.tmps)=true:=by rfl) (hs:Region.noSelect ops=true:=by kernel_rfl) (hf:Region.free md ops listed i=true:=by kernel_rfl) (hr:(Region.ready md ops listed).contains i=true:=by kernel_rfl) (hS:S w:=by assumption):wpAnyH P md ops (kS K) S (fuel+1) listed a w :=
  wpAnyH_take hi hs hf hr (fun _ _ _ h=>h) (.inl ⟨hg,hx⟩) hS h
theorem fR (S:World->Prop) {id:Nat}{a:Act}{w:World}(hm:P.follows .mixedOrders=true) (ho:aDu ops=true) (hS:S w.drew)
 (h:∀ K:Act->World->Prop,Hid (∀ a w,Q .normal a w->K a w)->S w.drew->wpAnyH P .any ops (kS K) S ops.size (Array.replicate ops.size false) a w.drew):(Code.region id ops true).wpIn (Fence.wide.inRound l) n P Q a w:=by
 have h1:=h (fun a w=>Q .normal a w) (qd fun _ _ h=>h) hS;refine wpIn_mono (wpIn_region_any hm (aEi (Q:=kS fun a w=>Q .normal a w) (aDp ho) (fun⟨_,_,h⟩=>h) _ _ _ _ (wpAny_of_held _ _ _ _ h1))) ?_;intro e a w he;cases e with
 | normal=>exact he
 | ret=>exact he.elim
 | exit id=>exact he.elim
 | goto t=>exact he.elim
 | panic ch=>exact he.elim
 | outgrown=>exact he.elim
theorem aO {ops:Array Oper}{K:Act->World->Prop}{S:World->Prop}{listed:Array Bool}{a:Act}{w:World}{fuel:Nat}(hr:Region.ready md ops listed=[]) (h:K a w):wpAnyH P md ops (kS K) S fuel listed a w:=wpAnyH_done hr h fuel
end
/-- the ways through a piece of code meet again -/
theorem aAs {F:Fence}{n:Nat}{P:Program}{c:Code}{Q:Exit->Act->World->Prop}{a:Act}{w:World}(Pf:Nat->Nat->World->Prop)
 (h:∃ A:Nat->Nat->Act,c.wpIn F n P (fun e a' w'=>e=.normal/\∃ x y,a'=A x y/\Pf x y w') a w/\∀ x y w',Pf x y w'->Q .normal (A x y) w'):c.wpIn F n P Q a w:=by
 obtain⟨A,h1,h2⟩:=h;refine wpIn_mono h1 ?_;rintro e a' w' ⟨rfl,x,y,rfl,hp⟩;exact h2 x y w' hp
end
/-- a call of a Go function, as a step of a region that draws its order -/
theorem aP {P:Program}{ops:Array Oper}{o:Oper}{a:Act}{w:World}{K:Act->World->Prop}{Q:Exit->Act->World->Prop}{E:Prop}(hg:o.guard=none) (f:FuncId) (ops2:List Operand) (ts:Array TypeId) (ho:o.op=.call { callee:=.value (.func f),args:=ops2.toArray,argTypes:=ts })
 (hcf:∀ args w,(callFunc f args).run P w=.ok (.enter f args) w) (vs:List Value) (hv:ops2.map a.eval=vs) (R:Value->World->Prop) (hc:Calls P f vs.toArray w fun e w'=>∃ v,e=.returned v/\R v w') (h:∀ v w',R v w'->K (a.put o.dst v) w'):if Region.wanted o (yielded ops a.tmps)=true then o.wp P a w K Q else E:=by
 have hw:Region.wanted o (yielded ops a.tmps)=true:=by simp[Region.wanted,hg]
 rw[if_pos hw];subst hv;have hr:(execOp a.eval o).run P w=.ok (.enter f (ops2.map a.eval).toArray) w:=by
  simp[execOp,ho,resolve,invoke,Deferred.ofValue,Act.eval,hcf]
 unfold Oper.wp;rw[hr,Oper.upon_enter];refine hc.mono ?_;rintro e w' ⟨v,rfl,hR⟩;exact h v w' hR
theorem aE {P:Program}{ops:Array Oper}{Q:Exit->Act->World->Prop}(S:World->Prop) {id:Nat}{a:Act}{w:World}(hm:P.follows .mixedOrders=true) (hS:S w.drew)
 (h:∀ K:Act->World->Prop,Hid (∀ a w,Q .normal a w->K a w)->S w.drew->wpAnyH P .any ops (kS K) S ops.size (Array.replicate ops.size false) a w.drew):(Code.region id ops true).wp P Q a w:=by
 have h1:=h (fun a w=>Q .normal a w) (qd fun _ _ h=>h) hS;refine Code.wp_mono ?_ (wp_region_any hm (wpAny_of_held _ _ _ _ h1));intro e a w he;cases e with
 | normal=>exact he
 | ret=>exact he.elim
 | exit id=>exact he.elim
 | goto t=>exact he.elim
 | panic ch=>exact he.elim
 | outgrown=>exact he.elim
theorem aBo (a:Act) (d:Option Tmp) (v:Value):(a.put d v).tmps.size=a.tmps.size:=by cases d<;>simp[Act.put]
theorem rG (a:Act) (d j:Nat) (v:Value) (h:d<a.tmps.size):(a.put (some d) v).eval (.tmp j)=if d=j then v else a.eval (.tmp j):=by
 by_cases e:d=j
 ·subst e;rw[if_pos rfl];simp[Act.put,Act.eval,Array.getD,h]
 ·rw[if_neg e];simp only[Act.put,Act.eval,Array.getD_eq_getD_getElem?];rw[Array.getElem?_setIfInBounds_ne e]
theorem aLf (a:Act) (v:Value) (x:Operand):(a.put none v).eval x=a.eval x:=rfl
theorem aHh (a:Act) (v:Value):a.eval (.const v)=v:=rfl
theorem aRm {p:Prop}(h:p:=by
 have hw:Region.wanted o (yielded ops a.tmps)=true:=by simp[Region.wanted,hg]
 rw[if_pos hw];unfold Oper.wp;rw[hr];exact h):p:=h
theorem aEv {P:Program}{ops:Array Oper}{o:Oper}{a:Act}{w:World}{K:Act->World->Prop}{Q:Exit->Act->World->Prop}{E:Prop}(hg:o.guard=none) (v:Value) (w2:World) (hr:(execOp a.eval o).run P w=.ok (.value v) w2) (h:K (a.put o.dst v) w2):if Region.wanted o (yielded ops a.tmps)=true then o.wp P a w K Q else E:=by
 exact aRm
theorem aMp {P:Program}{ops:Array Oper}{o:Oper}{a:Act}{w:World}{K:Act->World->Prop}{Q:Exit->Act->World->Prop}{E:Prop}(hg:o.guard=none) (w2:World) (hr:(execOp a.eval o).run P w=.ok .skip w2) (h:K (a.put o.dst undef) w2):if Region.wanted o (yielded ops a.tmps)=true then o.wp P a w K Q else E:=by
 exact aRm
theorem aR7 {P:Program}{ops:Array Oper}{Q:Exit->Act->World->Prop}{md:Region.Mode}{S:World->Prop}{fuel:Nat}{listed:Array Bool}{a:Act}{w:World}(i:Nat) (o:Oper) (hr:Region.ready md ops listed=[i]) (ho:ops[i]? = some o)
 (h:∀ K':Act->World->Prop,Shut (∀ a w,S w->(S w->wpAnyH P md ops Q S fuel (listed.setIfInBounds i true) a w)->K' a w)->if Region.wanted o (yielded ops a.tmps)=true then Oper.wp P o a w K' Q else K' (a.put o.dst undef) w):wpAnyH P md ops Q S (fuel+1) listed a w :=
 wpAnyH_ready hr si (AllReadyH.cons ho h AllReadyH.nil)
theorem aSw {α:Type}{l:List α}{i:Nat}{x:α}{rs:List α}(h:l.drop i=x::rs):∃ hi:i<l.length,l[i]=x:=by
 have h2:(l.drop i)[0]? = some x:=by rw[h];rfl
 rw[List.getElem?_drop,Nat.add_zero]at h2;exact List.getElem?_eq_some_iff.1 h2
theorem xJ {ops:Array Oper}{i:Nat}{o:Oper}{rs:List Oper}(h:ops.toList.drop i=o::rs):ops[i]? = some o:=by
 rw[<-Array.getElem?_toList,List.getElem?_eq_some_iff];exact aSw h
theorem fD {P:Program}{ops:Array Oper}{Q:Exit->Act->World->Prop}{md:Region.Mode}{S:World->Prop}{fuel:Nat}{listed:Array Bool}{a:Act}{w:World}(i:Nat) {o:Oper}{rs:List Oper}(ho:ops.toList.drop i=o::rs)
 (h:∀ K':Act->World->Prop,Shut (∀ a w,S w->(S w->wpAnyH P md ops Q S fuel (listed.setIfInBounds i true) a w)->K' a w)->if Region.wanted o (yielded ops a.tmps)=true then Oper.wp P o a w K' Q else K' (a.put o.dst undef) w) (hr:Region.ready md ops listed=[i]:=by kernel_rfl):wpAnyH P md ops Q S (fuel+1) listed a w :=
 aR7 i o hr (xJ ho) h
theorem iB {P:Program}{md:Region.Mode}{ops:Array Oper}{Q:Exit->Act->World->Prop}{S:World->Prop}{fuel:Nat}{listed:Array Bool}{a:Act}{w:World}{i:Nat}{o:Oper}{rs:List Nat}{ro:List Oper}(ho:ops.toList.drop i=o::ro)
 (h:∀ K':Act->World->Prop,Shut (∀ a w,S w->(S w->wpAnyH P md ops Q S fuel (listed.setIfInBounds i true) a w)->K' a w)->if Region.wanted o (yielded ops a.tmps)=true then Oper.wp P o a w K' Q else K' (a.put o.dst undef) w)
 (hs:AllReadyH P md ops Q S fuel listed a w rs):AllReadyH P md ops Q S fuel listed a w (i::rs):=AllReadyH.cons (xJ ho) h hs
theorem EX:(∀ (a:Act) (d j:Nat) (v:Value),d<a.tmps.size->(a.put (some d) v).eval (.tmp j)=if d=j then v else a.eval (.tmp j))/\(∀ (a:Act) (v:Value) (x:Operand),(a.put none v).eval x=a.eval x)/\(∀ (a:Act) (v:Value),a.eval (.const v)=v)/\(∀ (a:Act) (d:Option Tmp) (v:Value),(a.put d v).tmps.size=a.tmps.size):=⟨fun a d j v h=>rG a d j v h,aLf,aHh,aBo⟩
theorem aL {P:Program}{md:Region.Mode}{ops:Array Oper}{K:Act->World->Prop}{S:World->Prop}(i:Nat) {oi:Oper}{v:Value}{fuel:Nat}{listed:Array Bool}{a:Act}{w:World}{rs:List Oper}(hi:ops.toList.drop i=oi::rs)
 (h:wpAnyH P md ops (kS K) S fuel (listed.setIfInBounds i true) (a.put oi.dst v) w)
 (hx:∀ w',S w'->(execOp a.eval oi).run P w'=.ok (.value v) w':=by intro w' hSw;have s:=HSS.out w' hSw;simp only[GE,MX,EX,execOp,Ee,if_pos,if_neg,reduceIte,Nat.reduceEqDiff,Nat.reduceLT,Nat.reduceBEq];go_simp;(try with_reducible rfl))
 (hg:Region.wanted oi (yielded ops a.tmps)=true:=by rfl) (hs:Region.noSelect ops=true:=by kernel_rfl) (hf:Region.free md ops listed i=true:=by kernel_rfl) (hr:(Region.ready md ops listed).contains i=true:=by kernel_rfl) (hS:S w:=by assumption):wpAnyH P md ops (kS K) S (fuel+1) listed a w :=
 wpAnyH_take (xJ hi) hs hf hr (fun _ _ _ h=>h) (.inl ⟨hg,hx⟩) hS h
theorem eY {P:Program}{md:Region.Mode}{ops:Array Oper}{K:Act->World->Prop}{S:World->Prop}(i:Nat) {oi:Oper}{v:Value}{fuel:Nat}{listed:Array Bool}{a:Act}{w:World}{rs:List Oper}(hi:ops.toList.drop i=oi::rs)
 (h:wpAnyH P md ops (kS K) S fuel (listed.setIfInBounds i true) (a.put oi.dst v) w)
 (hx:∀ w',S w'->(execOp a.eval oi).run P w'=.ok (.value v) w':=by intro w' hSw;have s:=HSS2.out w' hSw;simp only[GE,MX,EX,execOp,Ee,if_pos,if_neg,reduceIte,Nat.reduceEqDiff,Nat.reduceLT,Nat.reduceBEq];go_simp;(try with_reducible rfl))
 (hg:Region.wanted oi (yielded ops a.tmps)=true:=by rfl) (hs:Region.noSelect ops=true:=by kernel_rfl) (hf:Region.free md ops listed i=true:=by kernel_rfl) (hr:(Region.ready md ops listed).contains i=true:=by kernel_rfl) (hS:S w:=by assumption):wpAnyH P md ops (kS K) S (fuel+1) listed a w :=
 wpAnyH_take (xJ hi) hs hf hr (fun _ _ _ h=>h) (.inl ⟨hg,hx⟩) hS h
theorem sX {P:Program}{ops:Array Oper}{o:Oper}{a:Act}{w:World}{K:Act->World->Prop}{Q:Exit->Act->World->Prop}{E:Prop}{v:Value}{w2:World}(h:K (a.put o.dst v) w2) (hg:o.guard=none:=by rfl)
 (hr:(execOp a.eval o).run P w=.ok (.value v) w2:=by simp only[GE,MX,EX,execOp,Ee,if_pos,if_neg,reduceIte,Nat.reduceEqDiff,Nat.reduceLT,Nat.reduceBEq];go_simp;(first|done|exact⟨rfl,rfl⟩|rfl)):if Region.wanted o (yielded ops a.tmps)=true then o.wp P a w K Q else E:=aEv hg v w2 hr h
theorem pA {P:Program}{ops:Array Oper}{o:Oper}{a:Act}{w:World}{K:Act->World->Prop}{Q:Exit->Act->World->Prop}{E:Prop}{w2:World}(h:K (a.put o.dst undef) w2) (hg:o.guard=none:=by rfl)
 (hr:(execOp a.eval o).run P w=.ok .skip w2:=by simp only[GE,MX,EX,execOp,Ee,if_pos,if_neg,reduceIte,Nat.reduceEqDiff,Nat.reduceLT,Nat.reduceBEq];go_simp;(first|done|rfl)):if Region.wanted o (yielded ops a.tmps)=true then o.wp P a w K Q else E:=aMp hg w2 hr h
theorem oZ {p:Prop}(h:p:=by rw[<-hA1];simp only[GE,MX,EX,and_self,Ee,reduceIte,Nat.reduceEqDiff,Nat.reduceLT,Nat.reduceBEq]):p:=h
theorem mQ {p:Prop}(h:p:=by rw[<-hA2];simp only[GE,MX,EX,and_self,Ee,reduceIte,Nat.reduceEqDiff,Nat.reduceLT,Nat.reduceBEq]):p:=h
theorem rV {p:Prop}(h:p:=by rw[<-hA3];simp only[GE,MX,EX,and_self,Ee,reduceIte,Nat.reduceEqDiff,Nat.reduceLT,Nat.reduceBEq]):p:=h
theorem xE {p:Prop}(h:p:=by rw[<-hA4];simp only[GE,MX,EX,and_self,Ee,reduceIte,Nat.reduceEqDiff,Nat.reduceLT,Nat.reduceBEq]):p:=h
theorem ee5 {p:Prop}(h:p:=by rw[<-hA5];simp only[GE,MX,EX,and_self,Ee,reduceIte,Nat.reduceEqDiff,Nat.reduceLT,Nat.reduceBEq]):p:=h
theorem ee6 {p:Prop}(h:p:=by rw[<-hA6];simp only[GE,MX,EX,and_self,Ee,reduceIte,Nat.reduceEqDiff,Nat.reduceLT,Nat.reduceBEq]):p:=h
/-- the greatest threshold up to x, and the least from x on -/
def jY (x:Int) (acc t:Int):Int:=if t<=x then max acc t else acc
def dZ (x:Int) (acc t:Int):Int:=if x<=t then min acc t else acc
def gY (old next:aB) (thr:List Int):aB :=
 ⟨if(cJ old next).lo<old.lo then thr.foldl (jY (cJ old next).lo) (-9223372036854775808)else old.lo,
  if old.hi<(cJ old next).hi then thr.foldl (dZ (cJ old next).hi) 9223372036854775807 else old.hi⟩
theorem aPv {p:Prop}(h:p:=by
 have d2:(j:Int)<(thr.length:Int):=oz
 have hwk:IntKind.i64.wrap ((j:Int)+1)=(j:Int)+1:=IntWalk.i64_in _ oz;obtain⟨rfl,htb⟩:=hta oz;have c0:=((bT hbr).1 tb (tof+j) oz).trans (HC.out j hlt).1;have hS:=eQ (jY jlo) 0 thr j hlt (-9223372036854775808);generalize List.foldl (jY jlo) (-9223372036854775808) (thr.take j)=acc at *;generalize thr.getD j 0=t at *;have HS:=qd hS;clear hS;have f5:=aD h5.out;have f6:=fun x=>h5.out.set 0 x si;by_cases e1:t<=jlo
 ·by_cases e2:acc<t
  ·have hu:jY jlo acc t=t:=by unfold jY;rw[if_pos e1];omega
   exact aTu
  ·have hu:jY jlo acc t=acc:=by unfold jY;rw[if_pos e1];omega
   exact aTu
 ·have hu:jY jlo acc t=acc:=by unfold jY;rw[if_neg e1]
  exact aVp):p:=h
theorem aT8 {p:Prop}(h:p:=by
 clear v1 v3 v4 v5 hbw;obtain⟨j,hj,rfl,hbr,h1,h3,h4,h5⟩:=hrel;have f1:=aD h1.out;have k1:=h1.out;have k3:=h3.out;have k4:=h4.out;have f4:=aD h4.out;by_cases hlt:j<thr.length
 ·have d2:(j:Int)<(thr.length:Int):=oz
  have hwk:IntKind.i64.wrap ((j:Int)+1)=(j:Int)+1:=IntWalk.i64_in _ oz;obtain⟨rfl,htb⟩:=hta oz;have c0:=((bT hbr).1 tb (tof+j) oz).trans (HC.out j hlt).1;have hS:=eQ (dZ jhi) 0 thr j hlt 9223372036854775807;generalize List.foldl (dZ jhi) 9223372036854775807 (thr.take j)=acc at *;generalize thr.getD j 0=t at *;have HS:=qd hS;clear hS;have f5:=aD h5.out;have f6:=fun x=>h5.out.set 1 x si;by_cases e1:jhi<=t
  ·by_cases e2:t<acc
   ·have hu:dZ jhi acc t=t:=by unfold dZ;rw[if_pos e1];omega
    have HU:=qd hu;clear hu;go_wp2_with fail
    go_roundw
    case rel=>exact⟨j+1,oz,si,bel,qd aK,qd aK,qd aK,qd (by rw[HS.out,HU.out];exact f6 _)⟩
    case measure=>go_light;exact ml
   ·have hu:dZ jhi acc t=acc:=by unfold dZ;rw[if_pos e1];omega
    have HU:=qd hu;clear hu;go_wp2_with fail
    go_roundw
    case rel=>exact⟨j+1,oz,si,bel,qd aK,qd aK,qd aK,qd (by rw[HS.out,HU.out];exact f6 _)⟩
    case measure=>go_light;exact ml
  ·have hu:dZ jhi acc t=acc:=by unfold dZ;rw[if_neg e1]
   have HU:=qd hu;clear hu;go_wp2_with fail
   go_roundw
   case rel=>exact⟨j+1,oz,si,hbr,h1,h3,h4,qd (by rw[HS.out,HU.out];exact h5.out)⟩
   case measure=>go_light;exact ml
 ·have hjk:j=thr.length:=oz
  subst hjk;have d2:¬(thr.length:Int)<(thr.length:Int):=oz
  rw[List.take_length]at h5;have h6:=h5.out;have p1:=h1.out;have p3:=h3.out;have p4:=h4.out;have hby:=hbr;have r3:=aD p3;have s3:=cQ p3;clear h1 h3 h4 h5 hbr k1 k3 k4 f1 f4;generalize hE:(thr.foldl (dZ jhi) 9223372036854775807)=ehi at *;have HEehi:=qd hE;clear hE;have f5:=aD h6;have r1:=aD p1;have r4:=aD p4;go_wp2_with fail;refine fV (by rfl) (by rfl) aK si ?_;exact⟨by first|rfl|(rw[HEelo.out,HEehi.out];done)|(rw[HEehi.out];done)|(rw[HEelo.out];done),bel⟩):p:=h
theorem aHu (a b:aB) (thr:List Int) (ta:Option Addr) (tl tc:Nat) (w:World) (ha:a.lo<=a.hi) (hb:b.lo<=b.hi) (ht:cI w.heap.size w ta tl thr):Calls Tryz.prog 90 #[aJ a,aJ b,.slice ta tl tc] w fun e w'=>e=.returned (aJ (gY a b thr))/\Below w.heap.size w w':=by
 obtain⟨htl,htm,tb,tof,hta,htc⟩:=ht;subst htl;have htm':thr.length<=9223372036854775807:=htm;have HC:=qd htc;clear htc;have HA:=qd (fun w=>eM a w ha);have HB:=qd (fun w=>eM b w hb);have HJ:=qd (fun w=>vI a b w);have HR:gY a b thr=⟨if(cJ a b).lo<a.lo then thr.foldl (jY (cJ a b).lo) (-9223372036854775808)else a.lo,if a.hi<(cJ a b).hi then thr.foldl (dZ (cJ a b).hi) 9223372036854775807 else a.hi⟩:=rfl;generalize gY a b thr=R at *;generalize cJ a b=J at *;unfold aJ at *;obtain⟨rlo,rhi⟩:=R;obtain⟨jlo,jhi⟩:=J;obtain⟨lo,hi⟩:=a;obtain⟨lo2,hi2⟩:=b;dsimp only at *;by_cases c1:jlo<lo
 ·by_cases c2:hi<jhi
  ·rw[if_pos c1,if_pos c2]at HR;injection HR with hr1 hr2;subst hr1 hr2;go_enter Tryz.func90,Tryz.ntmps90;go_wp2_with (first|(go_at_call 19;refine(HJ.out _).mono ?_;rintro e w0 ⟨rfl,hb0⟩;have n1:aF w0 w.heap.size [_,_]:=aK;have n2:aF w0 (w.heap.size+1) [_,_]:=aK;have n3:aF w0 (w.heap.size+1+1) [_,_]:=aK;have m1:=aD n1;have m2:=aD n2;have hbx:Below w.heap.size w w0:=bel;clear hb0)|(go_at_call 55;refine(HA.out _).mono ?_;rintro e w1 ⟨rfl,hb1⟩;clear HA;have o1:aF w1 w.heap.size [_,_]:=aK;have o2:aF w1 (w.heap.size+1) [_,_]:=aK;have o3:aF w1 (w.heap.size+1+1) [_,_]:=aK;have o4:aF w1 w0.heap.size [_,_]:=aK;have q1:=aD o1;have q2:=aD o2;have hbz:Below w.heap.size w w1:=bel;clear n1 n2 n3 m1 m2 hb1)|(go_at_call 55;refine(HB.out _).mono ?_;rintro e w2 ⟨rfl,hb2⟩;clear HB;have p1:=o1.below hb2;have p3:=o3.below hb2;have p4:=o4.below hb2;have r1:=aD p1;have r3:=aD p3;have r4:=aD p4;have s3:=cQ p3;have hby:Below w.heap.size w w2:=bel;clear hb2 hbz o1 o2 o3 o4 q1 q2)|fail)
   have g1:=r1.1;have g3:=r3.1;have g4:=r4.1;generalize hW:World.alloc _ _=WA;have hbw:Below w.heap.size w WA:=by rw[<-hW];exact bel
   have v1:aF WA w.heap.size [.int .i64 lo,.int .i64 hi]:=by rw[<-hW];exact aK
   have v3:aF WA (w.heap.size+1+1) [.int .i64 0,.int .i64 0]:=by rw[<-hW];exact aK
   have v4:aF WA w0.heap.size [.int .i64 jlo,.int .i64 jhi]:=by rw[<-hW];exact aK
   have v5:aF WA w2.heap.size [.int .i64 (-9223372036854775808),.int .i64 hi]:=by rw[<-hW];first|exact h6.set 0 _ si|exact aK
   clear hW;clear p1 p3 p4 r1 r3 r4 s3 hby;go_wp2;go_loopw [10,32] (fun v i wr=>∃ j:Nat,j<=thr.length/\i=.int .i64 j/\Below w.heap.size w wr/\Hid (aF wr w.heap.size [.int .i64 lo,.int .i64 hi])/\Hid (aF wr (w.heap.size+1+1) [.int .i64 0,.int .i64 0])/\Hid (aF wr w0.heap.size [.int .i64 jlo,.int .i64 jhi])/\Hid (aF wr w2.heap.size [.int .i64 ((thr.take j).foldl (jY jlo) (-9223372036854775808)),.int .i64 hi])) (fun v i _=>thr.length-(intOf i).toNat)
   case atStart=>exact⟨0,Nat.zero_le _,rfl,hbw,qd v1,qd v3,qd v4,qd v5⟩
   case round =>
    clear v1 v3 v4 v5 hbw;obtain⟨j,hj,rfl,hbr,h1,h3,h4,h5⟩:=hrel;have f1:=aD h1.out;have k1:=h1.out;have k3:=h3.out;have k4:=h4.out;have f4:=aD h4.out;by_cases hlt:j<thr.length
    ·exact aPv
    ·have hjk:j=thr.length:=oz
     subst hjk;have d2:¬(thr.length:Int)<(thr.length:Int):=oz
     rw[List.take_length]at h5;have h6:=h5.out;have p1:=h1.out;have p3:=h3.out;have p4:=h4.out;have hby:=hbr;have r3:=aD p3;have s3:=cQ p3;clear h1 h3 h4 h5 hbr k1 k3 k4 f1 f4;generalize hE:(thr.foldl (jY jlo) (-9223372036854775808))=elo at *;have HEelo:=qd hE;clear hE;have f5:=aD h6;have f6:=h6.set 1 (.int .i64 9223372036854775807) si;have r1:=aD p1;have r4:=aD p4;go_wp2_with fail;have g1:=r1.1;have g3:=r3.1;have g4:=r4.1;generalize hW:World.setCell _ _ _=WB;have hbw:Below w.heap.size w WB:=by rw[<-hW];exact bel
     have v1:aF WB w.heap.size [.int .i64 lo,.int .i64 hi]:=by rw[<-hW];exact aK
     have v3:aF WB (w.heap.size+1+1) [.int .i64 0,.int .i64 0]:=by rw[<-hW];exact aK
     have v4:aF WB w0.heap.size [.int .i64 jlo,.int .i64 jhi]:=by rw[<-hW];exact aK
     have v5:aF WB w2.heap.size [.int .i64 elo,.int .i64 9223372036854775807]:=by rw[<-hW];first|exact h6.set 1 _ si|exact aK
     clear hW;clear p1 p3 p4 r1 r3 r4 s3 hby;go_wp2;go_loopw [12,54] (fun v i wr=>∃ j:Nat,j<=thr.length/\i=.int .i64 j/\Below w.heap.size w wr/\Hid (aF wr w.heap.size [.int .i64 lo,.int .i64 hi])/\Hid (aF wr (w.heap.size+1+1) [.int .i64 0,.int .i64 0])/\Hid (aF wr w0.heap.size [.int .i64 jlo,.int .i64 jhi])/\Hid (aF wr w2.heap.size [.int .i64 elo,.int .i64 ((thr.take j).foldl (dZ jhi) 9223372036854775807)])) (fun v i _=>thr.length-(intOf i).toNat)
     case atStart=>exact⟨0,Nat.zero_le _,rfl,hbw,qd v1,qd v3,qd v4,qd v5⟩
     case round =>
      exact aT8
  ·rw[if_pos c1,if_neg c2]at HR;injection HR with hr1 hr2;have hr2:=hr2.symm;subst hr1 hr2;go_enter Tryz.func90,Tryz.ntmps90;go_wp2_with (first|(go_at_call 19;refine(HJ.out _).mono ?_;rintro e w0 ⟨rfl,hb0⟩;have n1:aF w0 w.heap.size [_,_]:=aK;have n2:aF w0 (w.heap.size+1) [_,_]:=aK;have n3:aF w0 (w.heap.size+1+1) [_,_]:=aK;have m1:=aD n1;have m2:=aD n2;have hbx:Below w.heap.size w w0:=bel;clear hb0)|(go_at_call 55;refine(HA.out _).mono ?_;rintro e w1 ⟨rfl,hb1⟩;clear HA;have o1:aF w1 w.heap.size [_,_]:=aK;have o2:aF w1 (w.heap.size+1) [_,_]:=aK;have o3:aF w1 (w.heap.size+1+1) [_,_]:=aK;have o4:aF w1 w0.heap.size [_,_]:=aK;have q1:=aD o1;have q2:=aD o2;have hbz:Below w.heap.size w w1:=bel;clear n1 n2 n3 m1 m2 hb1)|(go_at_call 55;refine(HB.out _).mono ?_;rintro e w2 ⟨rfl,hb2⟩;clear HB;have p1:=o1.below hb2;have p3:=o3.below hb2;have p4:=o4.below hb2;have r1:=aD p1;have r3:=aD p3;have r4:=aD p4;have s3:=cQ p3;have hby:Below w.heap.size w w2:=bel;clear hb2 hbz o1 o2 o3 o4 q1 q2)|fail)
   have g1:=r1.1;have g3:=r3.1;have g4:=r4.1;generalize hW:World.alloc _ _=WA;have hbw:Below w.heap.size w WA:=by rw[<-hW];exact bel
   have v1:aF WA w.heap.size [.int .i64 lo,.int .i64 hi]:=by rw[<-hW];exact aK
   have v3:aF WA (w.heap.size+1+1) [.int .i64 0,.int .i64 0]:=by rw[<-hW];exact aK
   have v4:aF WA w0.heap.size [.int .i64 jlo,.int .i64 jhi]:=by rw[<-hW];exact aK
   have v5:aF WA w2.heap.size [.int .i64 (-9223372036854775808),.int .i64 hi]:=by rw[<-hW];first|exact h6.set 0 _ si|exact aK
   clear hW;clear p1 p3 p4 r1 r3 r4 s3 hby;go_wp2;go_loopw [10,32] (fun v i wr=>∃ j:Nat,j<=thr.length/\i=.int .i64 j/\Below w.heap.size w wr/\Hid (aF wr w.heap.size [.int .i64 lo,.int .i64 hi])/\Hid (aF wr (w.heap.size+1+1) [.int .i64 0,.int .i64 0])/\Hid (aF wr w0.heap.size [.int .i64 jlo,.int .i64 jhi])/\Hid (aF wr w2.heap.size [.int .i64 ((thr.take j).foldl (jY jlo) (-9223372036854775808)),.int .i64 hi])) (fun v i _=>thr.length-(intOf i).toNat)
   case atStart=>exact⟨0,Nat.zero_le _,rfl,hbw,qd v1,qd v3,qd v4,qd v5⟩
   case round =>
    clear v1 v3 v4 v5 hbw;obtain⟨j,hj,rfl,hbr,h1,h3,h4,h5⟩:=hrel;have f1:=aD h1.out;have k1:=h1.out;have k3:=h3.out;have k4:=h4.out;have f4:=aD h4.out;by_cases hlt:j<thr.length
    ·exact aPv
    ·have hjk:j=thr.length:=oz
     subst hjk;have d2:¬(thr.length:Int)<(thr.length:Int):=oz
     rw[List.take_length]at h5;have h6:=h5.out;have p1:=h1.out;have p3:=h3.out;have p4:=h4.out;have hby:=hbr;have r3:=aD p3;have s3:=cQ p3;clear h1 h3 h4 h5 hbr k1 k3 k4 f1 f4;generalize hE:(thr.foldl (jY jlo) (-9223372036854775808))=elo at *;have HEelo:=qd hE;clear hE;have f5:=aD h6;have r1:=aD p1;have r4:=aD p4;go_wp2_with fail;refine fV (by rfl) (by rfl) aK si ?_;exact⟨by first|rfl|(rw[HEelo.out,HEehi.out];done)|(rw[HEehi.out];done)|(rw[HEelo.out];done),bel⟩
 ·by_cases c2:hi<jhi
  ·rw[if_neg c1,if_pos c2]at HR;injection HR with hr1 hr2;have hr1:=hr1.symm;subst hr1 hr2;go_enter Tryz.func90,Tryz.ntmps90;go_wp2_with (first|(go_at_call 19;refine(HJ.out _).mono ?_;rintro e w0 ⟨rfl,hb0⟩;have n1:aF w0 w.heap.size [_,_]:=aK;have n2:aF w0 (w.heap.size+1) [_,_]:=aK;have n3:aF w0 (w.heap.size+1+1) [_,_]:=aK;have m1:=aD n1;have m2:=aD n2;have hbx:Below w.heap.size w w0:=bel;clear hb0)|(go_at_call 55;refine(HA.out _).mono ?_;rintro e w1 ⟨rfl,hb1⟩;clear HA;have o1:aF w1 w.heap.size [_,_]:=aK;have o2:aF w1 (w.heap.size+1) [_,_]:=aK;have o3:aF w1 (w.heap.size+1+1) [_,_]:=aK;have o4:aF w1 w0.heap.size [_,_]:=aK;have q1:=aD o1;have q2:=aD o2;have hbz:Below w.heap.size w w1:=bel;clear n1 n2 n3 m1 m2 hb1)|(go_at_call 55;refine(HB.out _).mono ?_;rintro e w2 ⟨rfl,hb2⟩;clear HB;have p1:=o1.below hb2;have p3:=o3.below hb2;have p4:=o4.below hb2;have r1:=aD p1;have r3:=aD p3;have r4:=aD p4;have s3:=cQ p3;have hby:Below w.heap.size w w2:=bel;clear hb2 hbz o1 o2 o3 o4 q1 q2)|fail)
   have g1:=r1.1;have g3:=r3.1;have g4:=r4.1;generalize hW:World.alloc _ _=WB;have hbw:Below w.heap.size w WB:=by rw[<-hW];exact bel
   have v1:aF WB w.heap.size [.int .i64 lo,.int .i64 hi]:=by rw[<-hW];exact aK
   have v3:aF WB (w.heap.size+1+1) [.int .i64 0,.int .i64 0]:=by rw[<-hW];exact aK
   have v4:aF WB w0.heap.size [.int .i64 jlo,.int .i64 jhi]:=by rw[<-hW];exact aK
   have v5:aF WB w2.heap.size [.int .i64 lo,.int .i64 9223372036854775807]:=by rw[<-hW];first|exact h6.set 1 _ si|exact aK
   clear hW;clear p1 p3 p4 r1 r3 r4 s3 hby;go_wp2;go_loopw [12,54] (fun v i wr=>∃ j:Nat,j<=thr.length/\i=.int .i64 j/\Below w.heap.size w wr/\Hid (aF wr w.heap.size [.int .i64 lo,.int .i64 hi])/\Hid (aF wr (w.heap.size+1+1) [.int .i64 0,.int .i64 0])/\Hid (aF wr w0.heap.size [.int .i64 jlo,.int .i64 jhi])/\Hid (aF wr w2.heap.size [.int .i64 lo,.int .i64 ((thr.take j).foldl (dZ jhi) 9223372036854775807)])) (fun v i _=>thr.length-(intOf i).toNat)
   case atStart=>exact⟨0,Nat.zero_le _,rfl,hbw,qd v1,qd v3,qd v4,qd v5⟩
   case round =>
    exact aT8
  ·rw[if_neg c1,if_neg c2]at HR;injection HR with hr1 hr2;have hr1:=hr1.symm;have hr2:=hr2.symm;subst hr1 hr2;go_enter Tryz.func90,Tryz.ntmps90;go_wp2_with (first|(go_at_call 19;refine(HJ.out _).mono ?_;rintro e w0 ⟨rfl,hb0⟩;have n1:aF w0 w.heap.size [_,_]:=aK;have n2:aF w0 (w.heap.size+1) [_,_]:=aK;have n3:aF w0 (w.heap.size+1+1) [_,_]:=aK;have m1:=aD n1;have m2:=aD n2;have hbx:Below w.heap.size w w0:=bel;clear hb0)|(go_at_call 55;refine(HA.out _).mono ?_;rintro e w1 ⟨rfl,hb1⟩;clear HA;have o1:aF w1 w.heap.size [_,_]:=aK;have o2:aF w1 (w.heap.size+1) [_,_]:=aK;have o3:aF w1 (w.heap.size+1+1) [_,_]:=aK;have o4:aF w1 w0.heap.size [_,_]:=aK;have q1:=aD o1;have q2:=aD o2;have hbz:Below w.heap.size w w1:=bel;clear n1 n2 n3 m1 m2 hb1)|(go_at_call 55;refine(HB.out _).mono ?_;rintro e w2 ⟨rfl,hb2⟩;clear HB;have p1:=o1.below hb2;have p3:=o3.below hb2;have p4:=o4.below hb2;have r1:=aD p1;have r3:=aD p3;have r4:=aD p4;have s3:=cQ p3;have hby:Below w.heap.size w w2:=bel;clear hb2 hbz o1 o2 o3 o4 q1 q2)|fail)
   exact wG
def fE (x:dJ):Bool:=dK x.op&&decide (x.op≠0)&&decide (x.op≠14)&&decide (x.op≠18)
def vR (f:aC) (x:dJ):Bool:=decide (14<=x.op)&&decide (x.op<=18)&&decide (0<=x.n)&&decide (x.n<f.code.length)
def aDj (f:aC) (x:dJ) (k:Nat):List Int:=(if fE x&&decide (k+1<f.code.length)then[(k:Int)+1]else[])++(if vR f x && !(fE x&&decide (x.n=(k:Int)+1))then[x.n]else[])
theorem aR6 (f:aC) (k:Nat):aY f k=aDj f (f.code.getD k default) k:=by
 unfold aY aDj;generalize f.code.getD k default=x;have rk:∀ (L:List Int),iI f.code.length L 0=[]:=fun L=>rfl;have k0:∀ (z:Int) (L:List Int),rY f.code.length (z::L) 0=(decide (0<=z)&&decide (z<f.code.length)):=fun z L=>by unfold rY;simp
 have one:∀ z:Int,iI f.code.length [z] [z].length=if decide (0<=z)&&decide (z<f.code.length)then[z]else[]:=fun z=>by
  show iI _ _ (0+1)=_;rw[mZ,rk,k0,List.nil_append];rfl
 have two:∀ z y:Int,iI f.code.length [z,y] [z,y].length=(if decide (0<=z)&&decide (z<f.code.length)then[z]else[])++(if decide (0<=y)&&decide (y<f.code.length)&&decide (y≠z)then[y]else[]):=fun z y=>by
  show iI _ _ (0+1+1)=_;rw[mZ,mZ,rk,k0,List.nil_append];congr 1
 have e1:(decide (0<=(k:Int)+1)&&decide ((k:Int)+1<f.code.length))=decide (k+1<f.code.length):=by
  rw[Bool.eq_iff_iff];simp;omega
 unfold aDh;by_cases h0:x.op=0
 ·rw[if_pos h0];have ha:fE x=false:=by unfold fE;simp[h0]
  have hf:vR f x=false:=by unfold vR;simp[h0]
  rw[ha,hf];rfl
 rw[if_neg h0];by_cases h14:x.op=14\/x.op=18
 ·rw[if_pos h14,one];have ha:fE x=false:=by unfold fE;rcases h14 with h|h<;>simp[h]
  have hf:vR f x=(decide (0<=x.n)&&decide (x.n<f.code.length)):=by unfold vR;rcases h14 with h|h<;>simp[h]
  rw[ha,hf];simp
 rw[if_neg h14];by_cases h15:x.op=15\/x.op=16\/x.op=17
 ·rw[if_pos h15,two,e1];have ha:fE x=true:=by unfold fE dK;rcases h15 with h|h|h<;>simp[h]
  have hf:vR f x=(decide (0<=x.n)&&decide (x.n<f.code.length)):=by unfold vR;rcases h15 with h|h|h<;>simp[h]
  rw[ha,hf,Bool.true_and,Bool.true_and];congr 2;rw[Bool.eq_iff_iff];simp
 rw[if_neg h15];have hf:vR f x=false:=by unfold vR;rw[Bool.eq_false_iff];intro h;simp at h;omega
 rw[hf];by_cases hk:dK x.op=true
 ·rw[if_pos hk,one,e1];have ha:fE x=true:=by unfold fE;simp[hk];omega
  rw[ha];simp
 ·rw[if_neg hk];have ha:fE x=false:=by unfold fE;simp[hk]
  rw[ha];rfl
theorem aP3 {B:Nat}{hh:HF}{f:aC}{frm:Nat}{x:dJ}{w:World}(hB:B<=w.heap.size) (hf:aZ B w hh f) (hfl:frm<f.code.length) (hn1:f.code.length<=1024) (hx:f.code.getD frm default=x):∃ pa pl pc cb co cc,hh=⟨pa,pl,pc,some ⟨cb,co,none⟩,f.code.length,cc⟩/\f.code.length<=maxLen/\cb<B /\
 (w.cell? ⟨cb,co+frm*5,none⟩=some (.int .i64 x.op)/\w.cell? ⟨cb,co+frm*5+1,none⟩=some (.int .i64 x.a)/\w.cell? ⟨cb,co+frm*5+2,none⟩=some (.int .i64 x.b)/\w.cell? ⟨cb,co+frm*5+3,none⟩=some (.int .i64 x.c)/\w.cell? ⟨cb,co+frm*5+4,none⟩=some (.int .i64 x.n)) /\
 cb<w.heap.size/\cb<w.heap.size+1/\cb<w.heap.size+1+1/\cb<w.heap.size+1+1+1/\(frm:Int)<(f.code.length:Int)/\IntKind.i64.wrap ((frm:Int)+1)=(frm:Int)+1:=by
 obtain⟨pa,pl,pc,ca,cl,cc⟩:=hh;obtain⟨h1,h2,⟨hcl,hcm,cb,co,hcb,hcells⟩,h4,h5⟩:=hf;dsimp only at *;subst hcl;obtain⟨rfl,hcB⟩:=hcb oz;obtain⟨g,-⟩:=hcells frm hfl;rw[hx]at g;exact⟨pa,pl,pc,cb,co,cc,rfl,hcm,hcB,g,oz,oz,oz,oz,oz,IntWalk.i64_in _ oz⟩
theorem sN (op:Int) (w:World) :
 Calls Tryz.prog 71 #[.int .i64 op] w fun e w'=>e=.returned (.bool (dK op))/\w'=w:=by
 have hk:dK op=(decide (0<=op)&&decide (op<=19)):=by unfold dK;grind
 rw[hk];go_enter Tryz.func71,Tryz.ntmps71;go_wp2
 all_goals
  go_ret;go_light;refine⟨nN ?_,rfl⟩
  grind
theorem kY (has:Bool) (r regs:Int) (w:World) :
 Calls Tryz.prog 73 #[.bool has,.int .i64 r,.int .i64 regs] w fun e w'=>e=.returned (.int .i64 (cN has r regs))/\w'=w:=by
 cases has
 all_goals
  go_enter Tryz.func73,Tryz.ntmps73;go_wp2
 all_goals
  go_ret;go_light;refine⟨fU ?_,rfl⟩;unfold cN
  grind
theorem pT (op:Int) (w:World) :
 Calls Tryz.prog 74 #[.int .i64 op] w fun e w'=>e=.returned (.bool (decide (op=14\/op=15\/op=16\/op=17\/op=18)))/\w'=w:=by
 go_enter Tryz.func74,Tryz.ntmps74;go_wp2
 all_goals
  go_ret;go_light;refine⟨nN ?_,rfl⟩
  grind
theorem xL (s:ByteArray) (w:World) (hs:s.size<=maxLen) :
 Calls Tryz.prog 70 #[.string s] w fun e w'=>e=.returned (.bool (eV s))/\w'=w:=by
 unfold maxLen at hs;go_enter Tryz.func70,Tryz.ntmps70;go_wp2
 all_goals first
  | (go_ret;go_light;refine⟨nN ?_,rfl⟩;unfold eV;grind)
  | skip
 go_loop [3] (fun i=>∃ k:Nat,k<=s.size/\i=.int .i64 k/\zI s k) (fun i=>s.size-(intOf i).toNat)
 case atStart=>exact⟨0,Nat.zero_le _,rfl,by intro i h;omega⟩
 case round =>
  obtain⟨k,hk,rfl,hn⟩:=hrel;have HE:=yV s k;have HS:=xI s k;have HN:=zS s k;go_wp2
  all_goals first
   | (go_ret;go_light;refine⟨?_,rfl⟩;refine nN ?_;first|(rw[HN (by assumption) (by grind)])|(have:=HE (by assumption) hk hn;unfold eV;rw[this];grind))
   | (go_round
      case rel=>go_light;exact⟨k+1,by grind,by grind,HS (by assumption) hn (by grind)⟩
      case measure=>go_light;simp[intOf];grind)
   | skip
def xF (op:Int):List Value:=let R:=dM op.toNat;[.bool R.a,.bool R.b,.bool R.c,.bool (decide (R.n≠0))]
theorem aWb (k:Nat) (h:k=0):xF k=[.bool true,.bool false,.bool false,.bool false]:=by subst h;rfl
theorem aWg (k:Nat) (h:k=1\/k=13\/k=15\/k=16\/k=18):xF k=[.bool true,.bool false,.bool false,.bool true]:=by rcases h with rfl|rfl|rfl|rfl|rfl<;>rfl
theorem aWa (k:Nat) (h:k=2\/k=10):xF k=[.bool true,.bool true,.bool false,.bool false]:=by rcases h with rfl|rfl<;>rfl
theorem aWc (k:Nat) (h:3<=k/\k<=9):xF k=[.bool true,.bool true,.bool true,.bool false]:=by
 rcases(show k=3\/k=4\/k=5\/k=6\/k=7\/k=8\/k=9 by omega)with rfl|rfl|rfl|rfl|rfl|rfl|rfl<;>rfl
theorem aWd (k:Nat) (h:k=11\/k=12\/k=17\/k=19):xF k=[.bool true,.bool true,.bool false,.bool true]:=by rcases h with rfl|rfl|rfl|rfl<;>rfl
theorem aWf (k:Nat) (h:k=14):xF k=[.bool false,.bool false,.bool false,.bool true]:=by subst h;rfl
theorem aSi (Q:Ending->World->Prop) (T:Array Value) (W:World) (k:Nat) (a b c d:Value) (ho:aF W k [a,b,c,d]) (hT:T[2]? = some (.pointer (some ⟨k,0,none⟩)))
 (hq:Q (.returned (.agg #[a,b,c,d])) W):bodyPost Tryz.prog Tryz.f72 Q .ret { tmps:=T,defers:=[] } W:=by
 have r0:=ho.2.1 0 _ rfl;have r1:=ho.2.1 1 _ rfl;have r2:=ho.2.1 2 _ rfl;have r3:=ho.2.1 3 _ rfl;have hr:(results Tryz.f72 T).run Tryz.prog W=.ok (.agg #[a,b,c,d]) W:=by
  simp[results,Tryz.results72,go_sem,hT,r0,r1,r2,r3]
 exact bodyPost_ret hr rfl hq
theorem aNr (op:Int) (w:World) (hk:dK op=true) :
 Calls Tryz.prog 72 #[.int .i64 op] w fun e w'=>e=.returned (.agg (xF op).toArray)/\Below w.heap.size w w':=by
 have h0:0<=op/\op<20:=by unfold dK at hk;grind
 obtain⟨k,rfl⟩:=Int.eq_ofNat_of_zero_le h0.1;have hlt:k<20:=oz
 clear hk h0;go_enter Tryz.func72,Tryz.ntmps72;go_wp2
 all_goals first
  | (refine aSi _ _ _ w.heap.size _ _ _ _ (aF.new w _ _) rfl ⟨?_,bel⟩
     simp only[beq_iff_eq,beq_eq_false_iff_ne,ne_eq]at *
     first
      | (rw[aWb k (by omega)])
      | (rw[aWg k (by omega)])
      | (rw[aWa k (by omega)])
      | (rw[aWc k (by omega)])
      | (rw[aWd k (by omega)])
      | (rw[aWf k (by omega)]))
  | (exfalso;simp only[beq_iff_eq,beq_eq_false_iff_ne,ne_eq]at *;omega)
/-- a list of numbers in memory of its own; it may be an empty row -/
def aN0 (w:World) (l:List Int) (e:Ending) (w':World):Prop:=∃ v,e=.returned v/\Below w.heap.size w w'/\w'.ownsRow 0 3 1 v l.length (aR l)/\(∀ k,v.ownBlock=some k->w.heap.size<=k)
/-- a literal of no elements -/
theorem eE (w:World) (e:TypeId) (size:Nat) {g:Nat}(hg:g=w.heap.size):(w.alloc (.cells #[] e)).ownsRow 0 e size (.slice (some ⟨g,0,none⟩) 0 0) 0 []:=by
 subst hg;exact World.ownsRow_lit (e:=e) (size:=size) w #[] 0 (Nat.zero_le _) (Nat.zero_le _) si
theorem aRo {p:Prop}(h:p:=by
 go_wp2_with (first|(go_at_call 74;refine HTG.out.mono ?_;rintro e w2 ⟨rfl,hw2⟩;have hw3:=hw2.symm;subst hw3)|fail)
 go_meet
 all_goals exact⟨by rw[HF.out],rfl⟩):p:=h
theorem aDx {p:Prop}(h:p:=by
 have H1:=qd h1;clear h1;go_wp2;go_meet
 all_goals exact⟨by simp[H1.out],rfl⟩):p:=h
theorem aIv {p:Prop}(h:p:=by
 go_wp2;go_meet
 all_goals exact⟨rfl,rfl⟩):p:=h
theorem aIs {p:Prop}(h:p:=by
 simp only[Bool.and_eq_true,decide_eq_true_eq];omega):p:=h
theorem vG (B:Nat) (hh:HF) (f:aC) (k:Nat) (w:World) (hB:B<=w.heap.size) (hf:aZ B w hh f) (hat:k<f.code.length) (hn:f.code.length<=1024):Calls Tryz.prog 59 #[aI hh f,.int .i64 k] w (aN0 w (aY f k)):=by
 rw[aR6];obtain⟨x,hx⟩:∃ x,f.code.getD k default=x:=⟨_,rfl⟩
 rw[hx];have h64:aM x.n:=by
  obtain⟨_,_,⟨hcl,_,cb,co,_,hcc⟩,_,_⟩:=hf;have:=(hcc k oz).2.2.2.2.2;rw[hx]at this;exact this
 obtain⟨pa,pl,pc,cb,co,cc,rfl,hcm,hcB,⟨g0,g1,g2,g3,g4⟩,hcbl,hcb1,hcb2,hcb3,hfr,hwf⟩:=aP3 hB hf hat hn hx;obtain⟨op,xa,xb,xc,xn⟩:=x;dsimp only at *;have q0:¬(k:Int)<0:=oz
 have q1:¬(f.code.length:Int)<=(k:Int):=oz
 have q2:decide ((k:Int)<0)=false:=si
 have q3:decide ((f.code.length:Int)<=(k:Int))=false:=by simp;omega
 have H64:=qd h64;have HX:=qd hx;obtain⟨RES,hRES⟩:∃ q,aDj f ⟨op,xa,xb,xc,xn⟩ k=q:=⟨_,rfl⟩
 rw[hRES];have HRES:=qd hRES;clear hRES;unfold aI aN0;dsimp only;clear hf hx h64 hcm hcB;go_enter Tryz.func59,Tryz.ntmps59;go_upto_region 5 with(fail)
 generalize hW0:World.alloc _ _=W0;have HE:Hid (W0.ownsRow 0 3 1 (.slice (some ⟨w.heap.size+1,0,none⟩) 0 0) 0 []):=qd (by rw[<-hW0];refine aA bel (eE (w.alloc _) _ _ ?_);simp);obtain⟨hb0,OF,OE,OX,hz0⟩:=iP hW0;clear hW0 g0 g1 g2 g3 g4 OE;have f5:=aX OF;have x5:=aX OX;go_upto_region 6 with(first|(go_at_call 71;refine(sN _ _).mono ?_;rintro e w1 ⟨rfl,hw1⟩;have hw2:=hw1.symm;subst hw2)|fail)
 go_cut [7,8] (fun v7 v wx=>v=.bool (fE ⟨op,xa,xb,xc,xn⟩)/\wx=W0)
 case first =>
  by_cases hk:dK op=true
  ·by_cases e0:op=0
   ·have r0:(op != 0)=false:=by simp[e0]
    go_wp2;go_meet
    all_goals exact⟨by simp[fE,e0],rfl⟩
   have r0:(op != 0)=true:=by simpa using e0
   by_cases e1:op=14
   ·have r1:(op != 14)=false:=by simp[e1]
    go_wp2;go_meet
    all_goals exact⟨by simp[fE,e1],rfl⟩
   have r1:(op != 14)=true:=by simpa using e1
   by_cases e2:op=18
   ·have r2:(op != 18)=false:=by simp[e2]
    go_wp2;go_meet
    all_goals exact⟨by simp[fE,e2],rfl⟩
   have r2:(op != 18)=true:=by simpa using e2
   have hA:fE ⟨op,xa,xb,xc,xn⟩=true:=by simp[fE,hk,e0,e1,e2]
   have HA:=qd hA;clear hA e0 e1 e2;go_wp2;go_meet
   all_goals exact⟨by rw[HA.out],rfl⟩
  ·have hk2:dK op=false:=by simpa using hk
   have hA:fE ⟨op,xa,xb,xc,xn⟩=false:=by simp[fE,hk2]
   have HA:=qd hA;clear hA;go_wp2;go_meet
   all_goals exact⟨by rw[HA.out],rfl⟩
 case rest =>
  obtain⟨rfl,rfl⟩:=hcut;obtain⟨wb,hwb⟩:∃ wb:World,wb=wc:=⟨_,rfl⟩
  subst hwb;have hfar:vR f ⟨op,xa,xb,xc,xn⟩=(decide (op=14\/op=15\/op=16\/op=17\/op=18)&&decide (0<=xn)&&decide (xn<f.code.length)):=by
   unfold vR;rw[Bool.eq_iff_iff];exact aIs
  have hR:aDj f ⟨op,xa,xb,xc,xn⟩ k=(if fE ⟨op,xa,xb,xc,xn⟩&&decide (k+1<f.code.length)then[(k:Int)+1]else[])++(if vR f ⟨op,xa,xb,xc,xn⟩ && !(fE ⟨op,xa,xb,xc,xn⟩&&decide (xn=(k:Int)+1))then[xn]else[]):=rfl;rw[HRES.out]at hR;have HR:=qd hR;clear hR HRES;generalize fE ⟨op,xa,xb,xc,xn⟩=ah at *;generalize vR f ⟨op,xa,xb,xc,xn⟩=fr at *;have HFAR:=qd hfar;clear hfar;go_upto_region 7 with(fail)
  go_cut [53] (fun v wx=>v=.bool (ah&&decide (k+1<f.code.length))/\wx=wb)
  case first =>
   cases ah
   ·exact aIv
   ·by_cases h1:k+1<f.code.length
    ·have h2:(k:Int)+1<(f.code.length:Int):=oz
     exact aDx
    ·have h2:¬(k:Int)+1<(f.code.length:Int):=oz
     exact aDx
  case rest =>
   obtain⟨rfl,rfl⟩:=hcut;obtain⟨wb,hwb⟩:∃ wb:World,wb=wc:=⟨_,rfl⟩
   subst hwb;generalize hB1:(ah&&decide (k+1<f.code.length))=b1;have HB1:=qd hB1;clear hB1;go_upto_if 53 with(fail)
   go_cut [5] (fun v wx=>∃ a c,v=.slice a (if b1=true then[(k:Int)+1]else[]).length c/\Hid (wx.ownsRow 0 3 1 v (if b1=true then[(k:Int)+1]else[]).length (aR (if b1=true then[(k:Int)+1]else[])))/\aG (fun j=>j=w.heap.size+1) wb wx/\(∀ j,v.ownBlock=some j->j=w.heap.size+1\/wb.heap.size<=j))
   case first =>
    cases b1
    ·go_wp2;go_meet
     all_goals exact⟨_,_,rfl,HE,aG.refl _ _,fun j hj=>.inl (by simpa[Value.ownBlock]using hj.symm)⟩
    ·go_wp2_with (first|(at_builtin;refine bO rfl (.tmp 54) (.tmp 57) 50 3 1 8 (.int .i64 0) rfl Tryz.underlying50 Tryz.infoI rfl dc (.slice (some ⟨w.heap.size+1,0,none⟩) 0 0) _ _ rfl (aA eN HE.out) ⟨wb.heap.size,0,none⟩ 1 1 (aR [(k:Int)+1]) rfl rfl (cC (aF.new' _ _ _ _ rfl)) (bZ _) dc dc dc ?_;intro g4 c4 w4 hr4 hc4 hg4)|fail)
     go_meet;have hcA:aG (fun j=>j=w.heap.size+1) wb w4:=(aG.of eN).trans (hc4.mono (fun j _ hj=>by have h9:w.heap.size+1=j:=eL hj;omega));exact⟨_,_,rfl,qd hr4,hcA,fun j hj=>by
      have e:g4=j:=eL hj
      rcases hg4 with h|h
      ·left;have h9:w.heap.size+1=g4:=eL h;omega
      ·right;simp at h;omega⟩
   case rest =>
    obtain⟨a1,c1,rfl,HL,hc1,hv1⟩:=hcut;obtain⟨w1,hw1⟩:∃ wb:World,wb=wc:=⟨_,rfl⟩
    subst hw1;generalize hL1:(if b1=true then[(k:Int)+1]else[])=L1 at *;have OF1:=hc1.own OF (by show ¬(w.heap.size=w.heap.size+1);omega);have OX1:=hc1.own OX (by show ¬(w.heap.size+1+1=w.heap.size+1);omega);have f5b:=aX OF1;have x5b:=aX OX1;have hz1:=hc1.size;have hb1:Below w.heap.size w w1:=hb0.trans (hc1.below _ hb0.size (fun j _ e=>by have e2:j=w.heap.size+1:=e;omega));clear f5 x5 OF OX HE hc1 hb0 HX;go_upto_region 9 with(fail)
    go_cut [9] (fun v wx=>v=.bool fr/\wx=w1)
    case first =>
     by_cases ht:op=14\/op=15\/op=16\/op=17\/op=18
     ·have hd:decide (op=14\/op=15\/op=16\/op=17\/op=18)=true:=by simpa using ht
      have HT:=qd ht;have htg:=pT op w1;rw[hd]at htg HFAR;have HTG:=qd htg;clear ht hd htg;by_cases h0:0<=xn
      ·by_cases h1:xn<(f.code.length:Int)
       ·have hF:fr=true:=by rw[HFAR.out];simp[h0,h1]
        have HF:=qd hF;clear hF;exact aRo
       ·have hF:fr=false:=by rw[HFAR.out];simp[h1]
        have HF:=qd hF;clear hF;go_wp2_with (first|(go_at_call 74;refine HTG.out.mono ?_;rintro e w2 ⟨rfl,hw2⟩;have hw3:=hw2.symm;subst hw3)|fail)
        go_meet
        all_goals exact⟨by rw[HF.out];simp;omega,rfl⟩
      ·have hF:fr=false:=by rw[HFAR.out];simp[h0]
       have HF:=qd hF;clear hF;exact aRo
     ·have hd:decide (op=14\/op=15\/op=16\/op=17\/op=18)=false:=by simpa using ht
      have htg:=pT op w1;rw[hd]at htg HFAR;have HTG:=qd htg;have hF:fr=false:=by rw[HFAR.out];rfl
      have HF:=qd hF;clear ht hd htg hF;exact aRo
    case rest =>
     obtain⟨rfl,rfl⟩:=hcut;obtain⟨w2,hw2⟩:∃ wb:World,wb=wc:=⟨_,rfl⟩
     subst hw2;go_upto_region 10 with(fail)
     go_cut [86] (fun v wx=>v=.bool (fr && !(ah&&decide (xn=(k:Int)+1)))/\wx=w2)
     case first =>
      cases fr
      ·exact aIv
      ·cases ah
       ·exact aIv
       ·by_cases h1:xn=(k:Int)+1
        ·have e1:(xn==(k:Int)+1)=true:=by simpa using h1
         exact aDx
        ·have e1:(xn==(k:Int)+1)=false:=by simpa using h1
         exact aDx
     case rest =>
      obtain⟨rfl,rfl⟩:=hcut;obtain⟨w3,hw3⟩:∃ wb:World,wb=wc:=⟨_,rfl⟩
      subst hw3;have HRR:=HR.out;generalize (fr && !(ah&&decide (xn=(k:Int)+1)))=b2 at *;have HR2:=qd HRR;clear HRR HR;cases b2
      ·have e:RES=L1:=by have h9:=HR2.out;rw[HB1.out,hL1]at h9;simpa using h9
       subst e;go_wp2
       try rw[Exit.noGoto_ret]
       go_ret;exact⟨_,rfl,hb1,HL.out,fun j hj=>by have:=hv1 j hj;omega⟩
      ·have e:RES=L1++[xn]:=by have h9:=HR2.out;rw[HB1.out,hL1]at h9;simpa using h9
       have hl:L1.length<=1:=by rw[<-hL1];split<;>simp
       have E:=qd e;have HL2:=qd hL1;clear e hL1;go_wp2_with (first|(at_builtin;refine bO rfl (.tmp 87) (.tmp 90) 50 3 1 8 (.int .i64 0) rfl Tryz.underlying50 Tryz.infoI rfl dc (.slice a1 L1.length c1) _ _ rfl (aA eN HL.out) ⟨w3.heap.size,0,none⟩ 1 1 (aR [xn]) rfl rfl (cC (aF.new' _ _ _ _ rfl)) (bZ _) bH oz dc ?_;intro g6 c6 w6 hr6 hc6 hg6)|fail)
       try rw[Exit.noGoto_ret]
       go_ret;have hcA:aG (fun j=>(Value.slice a1 L1.length c1).ownBlock=some j) w3 w6:=(aG.of eN).trans hc6;have hbA:=hb1.trans (hcA.below _ hb1.size (fun j hj e=>by have:=hv1 j e;omega));refine⟨_,rfl,hbA,?_,fun j hj=>?_⟩
       ·rw[E.out,List.length_append];rw[<-bK]at hr6;exact hr6
       ·have e:g6=j:=eL hj
        subst e;rcases hg6 with h|h
        ·have:=hv1 _ h;omega
        ·simp at h;omega
theorem aE7 (a b:aB) (h:dH a b=true):rX a b=⟨wrap64 (a.lo*b.lo),wrap64 (a.lo*b.lo)⟩:=by unfold rX;rw[if_pos h]
theorem yM (a b:aB) (h:dH a b=false):rX a b=gK ((fM a b).map fun p=>(gM p.1 p.2).1) ((fM a b).all fun p=>(gM p.1 p.2).2):=by unfold rX;rw[if_neg (by simp[h])]
/-- the products of the first j pairs, and whether all are numbers -/
def xD (a b:aB) (j:Nat):List Int:=((fM a b).take j).map fun p=>(gM p.1 p.2).1
def vL (a b:aB) (j:Nat):Bool:=((fM a b).take j).all fun p=>(gM p.1 p.2).2
theorem aK0 (a b:aB) (j:Nat) (hj:j<=4):(xD a b j).length=j:=by simp[xD,fM];omega
theorem aPq (a b:aB) (j:Nat) (hj:j<4):xD a b (j+1)=xD a b j++[(gM ((fM a b).getD j (0,0)).1 ((fM a b).getD j (0,0)).2).1]:=by
 rcases(show j=0\/j=1\/j=2\/j=3 by omega)with rfl|rfl|rfl|rfl<;>simp[xD,fM]
theorem aL1 (a b:aB) (j:Nat) (hj:j<4):vL a b (j+1)=(vL a b j&&(gM ((fM a b).getD j (0,0)).1 ((fM a b).getD j (0,0)).2).2):=by
 rcases(show j=0\/j=1\/j=2\/j=3 by omega)with rfl|rfl|rfl|rfl<;>simp[vL,fM,Bool.and_assoc]
theorem aR2 (a b:aB) (h1:aM a.lo) (h2:aM a.hi) (h3:aM b.lo) (h4:aM b.hi) (j:Nat) (hj:j<4):aM ((fM a b).getD j (0,0)).1/\aM ((fM a b).getD j (0,0)).2:=by
 rcases(show j=0\/j=1\/j=2\/j=3 by omega)with rfl|rfl|rfl|rfl<;>simp[fM,h1,h2,h3,h4]
def aUr (p:Int×Int):Value:=.agg #[.int .i64 p.1,.int .i64 p.2]
theorem aSr (a b:aB) (j:Nat) (hj:j<4) (w:World):(Instr.index 160 (.agg #[.int .i64 a.lo,.int .i64 b.lo,.int .i64 a.lo,.int .i64 b.hi,.int .i64 a.hi,.int .i64 b.lo,.int .i64 a.hi,.int .i64 b.hi]) (.int .i64 j)).run Tryz.prog w=.ok (aUr ((fM a b).getD j (0,0))) w:=by
 rcases(show j=0\/j=1\/j=2\/j=3 by omega)with rfl|rfl|rfl|rfl<;>rfl
theorem aT6 {p:Prop}(h:p:=by
 go_enter Tryz.func85,Tryz.ntmps85;go_wp2_with (first|(go_at_call 55;refine(HA.out _).mono ?_;rintro e w1 ⟨rfl,hb1⟩;clear HA;have o1:aF w1 w.heap.size [_,_]:=aK;have o2:aF w1 (w.heap.size+1) [_,_]:=aK;have o3:aF w1 (w.heap.size+1+1) [_,_]:=aK;have q1:=aD o1;have q2:=aD o2;have hbz:Below w.heap.size w w1:=bel)|(go_at_call 55;refine(HB.out _).mono ?_;rintro e w2 ⟨rfl,hb2⟩;clear HB;have p1:=o1.below hb2;have p2:=o2.below hb2;have p3:=o3.below hb2;have r1:=aD p1;have r2:=aD p2;have r3:=aD p3;have s3:=cQ p3;have hby:Below w.heap.size w w2:=bel;clear hb2 hb1 hbz o1 o2 o3 q1 q2)|fail)
 clear p1 p2 r1 r2 r3 s3;go_loopw [17,18,174] (fun v c i wr=>∃ j:Nat,j<=4/\i=.int .i64 j/\c=.bool (MA j)/\Below w.heap.size w wr/\Hid (aF wr (w.heap.size+1+1) [.int .i64 0,.int .i64 0])/\(∀ k,v.ownBlock=some k->w.heap.size+3<=k)/\Hid (wr.ownsRow 0 2 1 v j (aR (MT j)))) (fun v c i _=>4-(intOf i).toNat)
 case atStart=>exact⟨0,Nat.zero_le _,rfl,by rw[HE1.out],hby,qd p3,by simp[Value.ownBlock],qd (by rw[HE0.out];exact World.ownsRow_nil _ _ _ _)⟩
 case round =>
  clear p3 hby;obtain⟨j,hj,rfl,rfl,hbr,h0,hvb,hv⟩:=hrel;by_cases hlt:j<4
  ·have d2:(j:Int)<4:=oz
   have hwk:IntKind.i64.wrap ((j:Int)+1)=(j:Int)+1:=IntWalk.i64_in _ oz;have HIj:=qd (HI.out j hlt);have HNj:=HN.out j hlt;have HTj:=qd (HT.out j hlt);have HLj:=qd (HL.out j hlt);generalize PR.getD j (0,0)=pr at *;obtain⟨x,y⟩:=pr;unfold aUr at HIj;dsimp only at *;have HM:=qd (fun w=>aHp x y w HNj.1 HNj.2);clear HNj;generalize gM x y=tm at *;obtain⟨z,zb⟩:=tm;dsimp only at *;rcases(show MA j=true\/MA j=false by cases MA j<;>simp)with hma|hma
   all_goals rw[hma]at HLj ⊢
   all_goals go_wp2_with (first|(refine kE rfl (.tmp 173) (.tmp 174) 160 rfl _ (HIj.out _) ?_)|(go_at_call 110;refine(HM.out _).mono ?_;rintro e w3 ⟨rfl,rfl⟩)|(at_builtin;refine bO rfl (.tmp 185) (.tmp 187) 22 2 1 8 (.int .i64 0) rfl Tryz.underlying22 Tryz.info64 rfl dc _ _ _ rfl (aA bel hv.out) ⟨wr.heap.size+1,0,none⟩ 1 1 (aR [z]) rfl rfl (cC (aF.new' _ _ _ _ si)) (bZ _) (by unfold maxLen;omega) oz dc ?_;intro g2 cap2 w4 hb4 hc4 hg4)|fail)
   all_goals have hc5:aG (fun k=>u17.ownBlock=some k) wr w4:=(aG.of (by exact bel)).trans hc4
   all_goals have h45:=h0.out.1
   all_goals refine⟨⟨j+1,oz,si,by rw[HLj.out];try rfl,hbr.trans (hc5.below _ hbr.size (fun k hk e=>by have:=hvb k e;omega)),qd (hc5.own h0.out (fun e=>by have:=hvb _ e;omega)),?_,qd ?_⟩,?_⟩
   all_goals first
    | (intro k hk;have hk':g2=k:=by simpa[Value.ownBlock]using hk
       subst hk';rcases hg4 with h|h
       ·exact hvb _ h
       ·simp at h;omega)
    | (rw[HTj.out,bK];exact hb4)
    | (go_light;exact ml)
  ·have hjk:j=4:=oz
   subst hjk;have hz4:=HZ.out 4 oz;obtain⟨g,cap,rfl,-,-,hg⟩:=bB hv.out oz;have HB4:=qd (uM g 0 4 cap (MT 4) (MA 4) wr hg hz4.symm (by unfold maxLen;omega) oz (fun i hi'=>by
    have hx:=aH hv.out (j:=i) (u:=.int .i64 ((MT 4).getD i 0)) (aV (by rw[List.getD_eq_getElem?_getD,List.getElem?_eq_getElem (by omega)];rfl));rw[Nat.zero_add];exact hx))
   have hgb:=hvb g rfl;have o4:=h0.out;rw[<-HR2.out]at HB4;unfold aJ at HB4;dsimp only at HB4;clear hv hvb;go_wp2_with (first|(go_at_call 108;refine HB4.out.mono ?_;rintro e w3 ⟨rfl,hb3⟩;have o5:=o4.below hb3;have q5:=aD o5;have q6:=cQ o5;have hz3:=hb3.size)|fail)
   refine bV (by rfl) (by rfl) (by rfl) aK si ?_;exact⟨rfl,bel⟩):p:=h
theorem aSq (a b:aB) (w:World) (ha:a.lo<=a.hi) (hb:b.lo<=b.hi) (h1:aM a.lo) (h2:aM a.hi) (h3:aM b.lo) (h4:aM b.hi):Calls Tryz.prog 85 #[.int .i64 5,aJ a,aJ b] w fun e w'=>e=.returned (.tuple #[aJ (rX a b),.bool true])/\Below w.heap.size w w':=by
 have HA:=qd (fun w=>eM a w ha);have HB:=qd (fun w=>eM b w hb);rcases(show dH a b=true\/dH a b=false by cases dH a b<;>simp)with hp|hp
 ·rw[aE7 a b hp];exact aG2
 ·have HR:=qd (yM a b hp);generalize rX a b=R at *;unfold dH at hp;simp only[Bool.and_eq_false_iff,decide_eq_false_iff_not]at hp;have HI:=qd (aSr a b);have HN:=qd (aR2 a b h1 h2 h3 h4);have HT:=qd (aPq a b);have HL:=qd (aL1 a b);have HZ:=qd (aK0 a b);have e4:xD a b 4=(fM a b).map fun p=>(gM p.1 p.2).1:=rfl;have e5:vL a b 4=(fM a b).all fun p=>(gM p.1 p.2).2:=rfl;have e0:xD a b 0=[]:=rfl;have e1:vL a b 0=true:=rfl;have HR2:=qd (HR.out.trans (by rw[<-e4,<-e5]));clear HR e4 e5;have HE0:=qd e0;have HE1:=qd e1;clear e0 e1;generalize xD a b=MT at *;generalize vL a b=MA at *;generalize fM a b=PR at *;unfold aJ at *;obtain⟨rlo,rhi⟩:=R;obtain⟨lo,hi⟩:=a;obtain⟨lo2,hi2⟩:=b;dsimp only at *;by_cases hl:lo=hi
  ·subst hl;have hl2:¬lo2=hi2:=oz
   have hl3:(lo2==hi2)=false:=by simpa using hl2
   exact aT6
  ·skip
   exact aT6
theorem aMl (len:Int) (l:List Int) (k:Nat):∀ x∈iI len l k,0<=x/\x<len:=by
 intro x hx;unfold iI at hx;obtain⟨i,hi,rfl⟩:=List.mem_map.1 hx;have:=(List.mem_filter.1 hi).2;unfold rY at this;simp only[Bool.and_eq_true,decide_eq_true_eq]at this;exact this.1
theorem gQ (f:aC) (u:Nat):∀ x∈aY f u,0<=x/\x<f.code.length:=aMl _ _ _
theorem iS (f:aC) (u:Nat):(aY f u).length<=2:=by
 unfold aY iI;rw[List.length_map];exact Nat.le_trans (List.length_filter_le _ _) (by simpa using aFm _ _)
/-- what can be reached from the first instruction -/
inductive lA (f:aC):Nat->Prop
 | zero:lA f 0
 | step (u v:Nat):lA f u->(v:Int)∈aY f u->lA f v
open Classical in
noncomputable def dY (f:aC):List Bool:=(List.range f.code.length).map fun v=>decide (lA f v)
theorem fY (f:aC):(dY f).length=f.code.length:=by simp[dY]
theorem mD (f:aC) (v:Nat) (hv:v<f.code.length):(dY f)[v]? = some true↔lA f v:=by
 simp[dY,hv]
theorem lA.lt {f:aC}(h0:0<f.code.length) {v:Nat}(h:lA f v):v<f.code.length:=by
 cases h with
 | zero=>exact h0
 | step u v _ h2=>have:=gQ f u _ h2;omega
/-- what stands between the rounds of the search -/
structure uV (f:aC) (can:List Bool) (todo:List Int):Prop where
 len:can.length=f.code.length
 tr:∀ x∈todo,∃ v:Nat,x=v/\v<f.code.length/\lA f v
 cr:∀ v,can[v]? = some true->lA f v
 cl:∀ v,can[v]? = some true->∀ s:Nat,(s:Int)∈aY f v->can[s]? = some true\/(s:Int)∈todo
 z:can[0]? = some true\/(0:Int)∈todo
theorem uV.start (f:aC) (h:0<f.code.length):uV f (List.replicate f.code.length false) [0] :=
 ⟨si,fun x hx=>by simp at hx;exact⟨0,by simpa using hx,h,.zero⟩,fun v hv=>by simp[List.getElem?_replicate]at hv,fun v hv=>by simp[List.getElem?_replicate]at hv,.inr si⟩
theorem uV.drop {f:aC}{can:List Bool}{t:List Int}{a:Nat}(h:uV f can (t++[(a:Int)])) (ha:can[a]? = some true):uV f can t:=by
 refine⟨h.len,fun x hx=>h.tr x (by simp[hx]),h.cr,fun v hv s hs=>?_,?_⟩
 ·rcases h.cl v hv s hs with k|k
  ·exact .inl k
  ·rcases List.mem_append.1 k with k|k
   ·exact .inr k
   ·have:s=a:=by simp at k;omega
    subst this;exact .inl ha
 ·rcases h.z with k|k
  ·exact .inl k
  ·rcases List.mem_append.1 k with k|k
   ·exact .inr k
   ·have:0=a:=by simp at k;omega
    subst this;exact .inl ha
theorem uV.mark {f:aC}{can:List Bool}{t:List Int}{a:Nat}(h:uV f can (t++[(a:Int)])) (ha:a<f.code.length):uV f (can.set a true) (t++aY f a):=by
 have hra:lA f a:=by
  obtain⟨v,hv,_,hr⟩:=h.tr a si;have:a=v:=oz
  subst this;exact hr
 have hset:∀ v:Nat,(can.set a true)[v]? = some true->v=a\/can[v]? = some true:=by
  intro v hv;by_cases e:v=a
  ·exact .inl e
  ·rw[List.getElem?_set_ne (by omega)]at hv;exact .inr hv
 have hself:(can.set a true)[a]? = some true:=by rw[List.getElem?_set_self (by rw[h.len];exact ha)]
 have hkeep:∀ v:Nat,can[v]? = some true->(can.set a true)[v]? = some true:=by
  intro v hv;by_cases e:v=a
  ·subst e;exact hself
  ·rw[List.getElem?_set_ne (by omega)];exact hv
 refine⟨by rw[List.length_set];exact h.len,fun x hx=>?_,fun v hv=>?_,fun v hv s hs=>?_,?_⟩
 ·rcases List.mem_append.1 hx with k|k
  ·exact h.tr x (by simp[k])
  ·have:=gQ f a x k;refine⟨x.toNat,oz,oz,.step a _ hra ?_⟩;rw[show((x.toNat:Nat):Int)=x by omega];exact k
 ·rcases hset v hv with rfl|k
  ·exact hra
  ·exact h.cr v k
 ·rcases hset v hv with rfl|k
  ·exact .inr (by simp[hs])
  ·rcases h.cl v k s hs with k|k
   ·exact .inl (hkeep s k)
   ·rcases List.mem_append.1 k with k|k
    ·exact .inr (by simp[k])
    ·have:s=a:=by simp at k;omega
     subst this;exact .inl hself
 ·rcases h.z with k|k
  ·exact .inl (hkeep 0 k)
  ·rcases List.mem_append.1 k with k|k
   ·exact .inr (by simp[k])
   ·have:0=a:=by simp at k;omega
    subst this;exact .inl hself
theorem uV.done {f:aC}{can:List Bool}(h:uV f can []):can=dY f:=by
 have hz:can[0]? = some true:=by rcases h.z with k|k;exact k;simp at k
 have hall:∀ v,lA f v->can[v]? = some true:=by
  intro v hv
  induction hv with
  | zero=>exact hz
  | step u v _ h2 ih =>
   rcases h.cl u ih v h2 with k|k
   ·exact k
   ·simp at k
 apply List.ext_getElem?;intro v;by_cases hv:v<f.code.length
 ·have hvc:v<can.length:=by rw[h.len];exact hv
  have e1:can[v]? = some can[v]:=List.getElem?_eq_getElem (by rw[h.len];exact hv);have e2:(dY f)[v]? = some ((dY f)[v]'(by rw[fY];exact hv)):=List.getElem?_eq_getElem (by rw[fY];exact hv);rw[e1,e2];congr 1;rw[Bool.eq_iff_iff];constructor
  ·intro k;have:=(mD f v hv).2 (h.cr v (by rw[e1,k]));rw[e2]at this;injection this
  ·intro k;have:=hall v ((mD f v hv).1 (by rw[e2,k]));rw[e1]at this;injection this
 ·rw[List.getElem?_eq_none (by rw[h.len];omega),List.getElem?_eq_none (by rw[fY];omega)]
/-- rounds still to come -/
def mK (can:List Bool) (todo:List Int):Nat:=3*can.count false+todo.length
theorem aCf {can:List Bool}{a:Nat}(h:can[a]? = some false):(can.set a true).count false+1=can.count false:=by
 induction can generalizing a with
 | nil=>simp at h
 | cons x l ih =>
  cases a with
  | zero=>simp at h;subst h;simp
  | succ a =>
   simp at h;have:=ih h;rw[List.set_cons_succ,List.count_cons,List.count_cons];omega
theorem aI7 {f:aC}{can:List Bool}{t:List Int}{a:Nat}(h:can[a]? = some false):mK (can.set a true) (t++aY f a)<mK can (t++[(a:Int)]):=by
 have h1:=aCf h;have h2:=iS f a;unfold mK;simp only[List.length_append,List.length_cons,List.length_nil];omega
theorem zQ {can:List Bool}{t:List Int}{a:Int}:mK can t<mK can (t++[a]):=by unfold mK;simp
theorem aMa (can:List Bool) (todo:List Int):todo.length<=mK can todo:=by unfold mK;omega
def qK (l:List Nat):List Int:=l.map Int.ofNat
/-- an order of all that can be reached -/
structure jN (f:aC) (l:List Nat):Prop where
 nodup:l.Nodup
 mem:∀ v:Nat,v∈l↔lA f v
 head:l.head? = some 0
 pred:∀ (p:List Nat) (v:Nat) (q:List Nat),l=p++v::q->v≠0->∃ u,(v:Int)∈aY f u/\u∈p
structure pF (f:aC) (been:List Bool) (out:List Nat) (st:List (Nat×Nat)):Prop where
 len:been.length=f.code.length
 nodup:(st.map Prod.fst++out).Nodup
 bn:∀ v:Nat,been[v]? = some true↔v∈st.map Prod.fst++out
 rch:∀ v:Nat,v∈st.map Prod.fst++out->lA f v
 way:∀ p∈st,p.2<=(aY f p.1).length/\∀ (i:Nat) (x:Int),i<p.2->(aY f p.1)[i]? = some x->x.toNat∈st.map Prod.fst++out
 full:∀ v∈out,∀ x∈aY f v,x.toNat∈st.map Prod.fst++out
 adj:∀ (p:List (Nat×Nat)) (x y:Nat×Nat) (q:List (Nat×Nat)),st=p++x::y::q->(y.1:Int)∈aY f x.1
 ot:∀ (p:List Nat) (v:Nat) (q:List Nat),out=p++v::q->v≠0->∃ u,(v:Int)∈aY f u/\(u∈q\/u∈st.map Prod.fst)
 bot:st=[]/\out.getLast? = some 0\/∃ w q,st=(0,w)::q
theorem pF.lt {f:aC}{been:List Bool}{out:List Nat}{st:List (Nat×Nat)}(h:pF f been out st) {v:Nat}(hv:v∈st.map Prod.fst++out):v<f.code.length:=by
 have:=(h.bn v).2 hv;rw[<-h.len]
 grind
theorem pF.start (f:aC) (h0:0<f.code.length):pF f ((List.replicate f.code.length false).set 0 true) [] [(0,0)]:=by
 refine⟨si,si,fun v=>?_,fun v hv=>?_,fun p hp=>?_,si,?_,si,.inr ⟨0,[],rfl⟩⟩
 ·grind
 ·simp at hv;subst hv;exact .zero
 ·grind
 ·intro p x y q e;have:=congrArg List.length e
  grind
/-- the top is done -/
theorem pF.finish {f:aC}{been:List Bool}{out:List Nat}{st:List (Nat×Nat)}{a w:Nat}(h:pF f been out (st++[(a,w)])) (hw:w=(aY f a).length):pF f been (out++[a]) st:=by
 have hm:∀ v,v∈(st++[(a,w)]).map Prod.fst++out↔v∈st.map Prod.fst++(out++[a]):=by
  grind
 refine⟨h.len,?_,fun v=>(h.bn v).trans (hm v),fun v hv=>h.rch v ((hm v).2 hv),fun p hp=>?_,fun v hv x hx=>?_,?_,?_,?_⟩
 ·have:=h.nodup;refine(List.Perm.nodup_iff ?_).1 this
  grind
 ·have:=h.way p (by simp[hp])
  grind
 ·rcases List.mem_append.1 hv with k|k
  ·exact(hm _).1 (h.full v k x hx)
  ·simp at k;subst k;have:=h.way (v,w) si;obtain⟨i,hi,he⟩:=List.getElem_of_mem hx;exact(hm _).1 (this.2 i x oz (by rw[<-he,List.getElem?_eq_getElem hi]))
 ·intro p x y q e;exact h.adj p x y (q++[(a,w)]) (by rw[e];simp)
 ·intro p v q e hv;rcases List.eq_nil_or_concat q with rfl|⟨q',z,rfl⟩
  ·obtain⟨rfl,e2⟩:=List.append_inj' e rfl;simp at e2;subst e2;rcases List.eq_nil_or_concat st with rfl|⟨s',b,rfl⟩
   ·rcases h.bot with⟨k,_⟩|⟨w',q',k⟩
    ·simp at k
    ·simp at k;exact absurd k.1.1 hv
   ·refine⟨b.1,h.adj s' b (a,w) [] si,.inr si⟩
  ·rw[List.concat_eq_append]at e;have e':out++[a]=(p++v::q')++[z]:=by rw[e];simp
   obtain⟨e1,e2⟩:=List.append_inj' e' rfl;obtain⟨u,h1,h2⟩:=h.ot p v q' e1 hv
   grind
 ·rcases st with _|⟨s,st⟩
  ·left;rcases h.bot with⟨k,_⟩|⟨w',q',k⟩
   ·simp at k
   ·grind
  ·right;rcases h.bot with⟨k,_⟩|⟨w',q',k⟩
   ·simp at k
   ·grind
/-- the top looks at its next way, which leads to one that has been met -/
theorem pF.look {f:aC}{been:List Bool}{out:List Nat}{st:List (Nat×Nat)}{a w:Nat}(h:pF f been out (st++[(a,w)])) {x:Int}(hx:(aY f a)[w]? = some x) (hb:been[x.toNat]? = some true):pF f been out (st++[(a,w+1)]):=by
 have hm:∀ v,v∈(st++[(a,w)]).map Prod.fst++out↔v∈(st++[(a,w+1)]).map Prod.fst++out:=si
 have hwl:w<(aY f a).length:=by grind
 refine⟨h.len,by simpa using h.nodup,fun v=>(h.bn v).trans (hm v),fun v hv=>h.rch v ((hm v).2 hv),fun p hp=>?_,fun v hv y hy=>(hm _).1 (h.full v hv y hy),?_,?_,?_⟩
 ·rcases List.mem_append.1 hp with k|k
  ·have:=h.way p (by simp[k])
   grind
  ·simp at k;subst k;refine⟨hwl,fun i y hi hy=>?_⟩;by_cases e:i=w
   ·subst e;rw[hx]at hy;injection hy with hy;subst hy;exact(hm _).1 ((h.bn _).1 hb)
   ·exact(hm _).1 ((h.way (a,w) si).2 i y oz hy)
 ·intro p y z q e;rcases List.eq_nil_or_concat q with rfl|⟨q',t,rfl⟩
  ·have e':st++[(a,w+1)]=(p++[y])++[z]:=by rw[e];simp
   obtain⟨e1,e2⟩:=List.append_inj' e' rfl;simp at e2;subst e2;exact h.adj p y (a,w) [] (by grind)
  ·rw[List.concat_eq_append]at e;have e':st++[(a,w+1)]=(p++y::z::q')++[t]:=by rw[e];simp
   obtain⟨e1,_⟩:=List.append_inj' e' rfl;exact h.adj p y z (q'++[(a,w)]) (by grind)
 ·intro p v q e hv;obtain⟨u,h1,h2⟩:=h.ot p v q e hv
  grind
 ·right;rcases h.bot with⟨k,_⟩|⟨w',q',k⟩
  ·simp at k
  ·rcases st with _|⟨s,st⟩
   ·grind
   ·grind
/-- a new one is met -/
theorem pF.meet {f:aC}{been:List Bool}{out:List Nat}{st:List (Nat×Nat)}{a w:Nat}(h:pF f been out (st++[(a,w)])) {x:Int}(hx:(aY f a)[w]? = some x) (hb:been[x.toNat]? = some false):pF f (been.set x.toNat true) out (st++[(a,w+1),(x.toNat,0)]):=by
 have hxm:x∈aY f a:=List.mem_of_getElem? hx;have hxr:=gQ f a x hxm;have hxn:((x.toNat:Nat):Int)=x:=oz
 have hwl:w<(aY f a).length:=(List.getElem?_eq_some_iff.1 hx).1;have hnew:x.toNat∉(st++[(a,w)]).map Prod.fst++out:=fun k=>by rw[(h.bn _).2 k]at hb;cases hb
 have hm:∀ v,v∈(st++[(a,w+1),(x.toNat,0)]).map Prod.fst++out↔v∈(st++[(a,w)]).map Prod.fst++out\/v=x.toNat:=by
  intro v;simp only[List.map_append,List.map_cons,List.map_nil,List.mem_append,List.mem_cons,List.not_mem_nil,or_false];grind
 have hl:x.toNat<been.length:=by rw[h.len];omega
 refine⟨by rw[List.length_set];exact h.len,?_,fun v=>?_,fun v hv=>?_,fun p hp=>?_,fun v hv y hy=>(hm _).2 (.inl (h.full v hv y hy)),?_,?_,?_⟩
 ·have h1:((st++[(a,w)]).map Prod.fst++out).Nodup:=h.nodup;have h2:(x.toNat::((st++[(a,w)]).map Prod.fst++out)).Nodup:=List.nodup_cons.2 ⟨hnew,h1⟩;refine(List.Perm.nodup_iff ?_).1 h2;simp only[List.map_append,List.map_cons,List.map_nil,List.append_assoc];have:(x.toNat::(st.map Prod.fst++([a]++out))).Perm (st.map Prod.fst++(x.toNat::([a]++out))):=List.perm_middle.symm;refine this.trans (List.Perm.append_left _ ?_);exact(List.Perm.swap a x.toNat out)
 ·rw[hm];by_cases e:v=x.toNat
  ·subst e;rw[List.getElem?_set_self hl];simp
  ·rw[List.getElem?_set_ne (by omega),h.bn];simp[e]
 ·rcases(hm v).1 hv with k|k
  ·exact h.rch v k
  ·subst k;exact .step a _ (h.rch a si) (by rw[hxn];exact hxm)
 ·rcases List.mem_append.1 hp with k|k
  ·have:=h.way p (by simp[k]);exact⟨this.1,fun i y hi hy=>(hm _).2 (.inl (this.2 i y hi hy))⟩
  ·simp at k;rcases k with rfl|rfl
   ·refine⟨hwl,fun i y hi hy=>?_⟩;by_cases e:i=w
    ·subst e;rw[hx]at hy;injection hy with hy;subst hy;exact(hm _).2 (.inr rfl)
    ·exact(hm _).2 (.inl ((h.way (a,w) si).2 i y (by dsimp only at hi ⊢;omega) hy))
   ·exact⟨Nat.zero_le _,fun i y hi _=>by simp at hi⟩
 ·intro p y z q e;rcases List.eq_nil_or_concat q with rfl|⟨q',t,rfl⟩
  ·have e':(st++[(a,w+1)])++[(x.toNat,0)]=(p++[y])++[z]:=by simpa using e
   obtain⟨e1,e2⟩:=List.append_inj' e' rfl;obtain⟨e3,e4⟩:=List.append_inj' e1 rfl;simp at e2 e4;subst e2 e4;show((x.toNat:Nat):Int)∈aY f a;rw[hxn];exact hxm
  ·rw[List.concat_eq_append]at e;have e':(st++[(a,w+1)])++[(x.toNat,0)]=(p++y::z::q')++[t]:=by simpa using e
   obtain⟨e1,_⟩:=List.append_inj' e' rfl;rcases List.eq_nil_or_concat q' with rfl|⟨q2,t2,rfl⟩
   ·have e2:st++[(a,w+1)]=(p++[y])++[z]:=by rw[e1];simp
    obtain⟨e3,e4⟩:=List.append_inj' e2 rfl;simp at e4;subst e4;exact h.adj p y (a,w) [] (by rw[e3];simp)
   ·rw[List.concat_eq_append]at e1;have e2:st++[(a,w+1)]=(p++y::z::q2)++[t2]:=by rw[e1];simp
    obtain⟨e3,_⟩:=List.append_inj' e2 rfl;exact h.adj p y z (q2++[(a,w)]) (by rw[e3];simp)
 ·intro p v q e hv;obtain⟨u,h1,h2⟩:=h.ot p v q e hv;refine⟨u,h1,?_⟩;simp only[List.map_append,List.map_cons,List.map_nil,List.mem_append,List.mem_cons,List.not_mem_nil,or_false]at h2 ⊢
  grind
 ·right;rcases h.bot with⟨k,_⟩|⟨w',q',k⟩
  ·simp at k
  ·rcases st with _|⟨s,st⟩
   ·simp at k;exact⟨w+1,[(x.toNat,0)],by simp[k.1.1]⟩
   ·simp at k;exact⟨w',st++[(a,w+1),(x.toNat,0)],by rw[k.1];rfl⟩
theorem pF.done {f:aC}{been:List Bool}{out:List Nat}(h:pF f been out []):jN f out.reverse:=by
 have hl:out.getLast? = some 0:=by rcases h.bot with⟨_,k⟩|⟨w,q,k⟩;exact k;simp at k
 have h0:0∈out:=List.mem_of_getLast? hl;refine⟨(List.Perm.nodup_iff (List.reverse_perm out)).2 (by simpa using h.nodup),fun v=>?_,by simpa using hl,?_⟩
 ·rw[List.mem_reverse];constructor
  ·intro k;exact h.rch v (by simpa using k)
  ·intro k
   induction k with
   | zero=>exact h0
   | step u v _ h2 ih=>have:=h.full u ih v h2;simpa using this
 ·intro p v q e hv;have e2:out=q.reverse++v::p.reverse:=by
   have:=congrArg List.reverse e;simpa using this
  obtain⟨u,h1,h2⟩:=h.ot _ v _ e2 hv;exact⟨u,h1,by simpa using h2⟩
/-- rounds still to come -/
def jD (been:List Bool) (st:List (Nat×Nat)):Nat:=4*been.count false+(st.map fun p=>3-p.2).sum
theorem aC5 {been:List Bool}{st:List (Nat×Nat)}{a w:Nat}(hw:w<=2):jD been st<jD been (st++[(a,w)]):=by
 unfold jD;simp;omega
theorem aIp {been:List Bool}{st:List (Nat×Nat)}{a w:Nat}(hw:w<2):jD been (st++[(a,w+1)])<jD been (st++[(a,w)]):=by
 unfold jD;simp;omega
theorem aHw {been:List Bool}{st:List (Nat×Nat)}{a w v:Nat}(hw:w<2) (hv:been[v]? = some false):jD (been.set v true) (st++[(a,w+1),(v,0)])<jD been (st++[(a,w)]):=by
 have:=aCf hv;unfold jD;simp;omega
theorem Tryz.infoB:(Tryz.prog.info? 4).map (fun i=>(i.zero,i.size,i.bytes))=some (some (.bool false),1,1):=kr
theorem kW {l:List Bool}{i:Nat}{v:Bool}(h:l[i]? = some v):(bQ l)[i]? = some (.bool v):=by simp[bQ,h]
theorem iR (l:List Bool) (i:Nat) (b:Bool):(bQ l).set i (.bool b)=bQ (l.set i b):=by simp[bQ]
theorem mB (n:Nat):madeCells #[.bool false] n=(bQ (List.replicate n false)).toArray:=by
 apply Array.ext
 ·simp[madeCells,bQ]
 ·intro i h1 h2;simp[madeCells,bQ,Nat.mod_one]
theorem lD {α:Type}(l:List α):l=[]\/∃ t x,l=t++[x]:=by
 rcases List.eq_nil_or_concat l with h|⟨t,x,h⟩
 ·exact .inl h
 ·exact .inr ⟨t,x,by rw[h,List.concat_eq_append]⟩
/-- a list of flags in memory of its own -/
def aI5 (w:World) (l:List Bool) (e:Ending) (w':World):Prop:=∃ v,e=.returned v/\Below w.heap.size w w'/\w'.ownsRow 0 4 1 v l.length (bQ l)/\(∀ k,v.ownBlock=some k->w.heap.size<=k)
theorem tU {p:Prop}(h:p:=by
 rw[IntWalk.i64_in _ (by omega)];omega):p:=h
theorem oI {p:Prop}(h:p:=by
 rw[beq_eq_false_iff_ne];omega):p:=h
theorem aHj {p:Prop}(h:p:=by
 rcases bU ht.out with⟨rfl,_,_⟩|⟨g,c,rfl,_,_,_⟩
 ·exact⟨_,_,rfl⟩
 ·exact⟨_,_,rfl⟩):p:=h
theorem xC {p:Prop}(h:p:=by
 rw[<-hW0];exact((aF.new _ _ _).alloc _).alloc _):p:=h
theorem aBf (B:Nat) (hh:HF) (f:aC) (w:World) (hB:B<=w.heap.size) (hf:aZ B w hh f) (hn0:0<f.code.length) (hn:f.code.length<=1024):Calls Tryz.prog 57 #[aI hh f] w (aI5 w (dY f)):=by
 obtain⟨j0,gi,gz0,gz1,gz2⟩:=info_parts Tryz.infoB;have hmk:=run_make_row' (P:=Tryz.prog) 89 4 (.bool false) 1 Tryz.underlying89 Tryz.infoB rfl .i64 .i64 f.code.length oz oz;rw[mB]at hmk;have HF:=qd hf;obtain⟨pa,pl,pc,ca,cl,cc⟩:=hh;obtain⟨h1,h2,⟨hcl,hcm,hcx⟩,h4,h5⟩:=hf;dsimp only at *;subst hcl;clear h2 hcm hcx h1 h4 h5;have i1:¬(f.code.length:Int)=0:=oz
 have i2:¬(1024:Int)<(f.code.length:Int):=oz
 have i3:((f.code.length:Int)==0)=false:=oI
 have i4:decide ((1024:Int)<(f.code.length:Int))=false:=by rw[decide_eq_false_iff_not];omega
 have hNX:=qd (fun(a:Nat) w hB hf hat=>qO B ⟨pa,pl,pc,ca,f.code.length,cc⟩ f a w hB hf hat);unfold aI at *;dsimp only at *;have hS:=qd (uV.start f hn0);have hR:∀ can,uV f can []->can=dY f:=fun can h=>h.done;have HRR:=qd hR;clear hR;generalize dY f=RP at *;have hnl:(List.replicate f.code.length false).length=f.code.length:=si
 generalize List.replicate f.code.length false=F0 at *;go_enter Tryz.func57,Tryz.ntmps57;go_wp2;go_step3;go_wp2;go_step3;go_wp2;generalize hW0:World.alloc _ _=W0;have hb0:Below w.heap.size w W0:=by rw[<-hW0];exact bel
 have OB:aF W0 w.heap.size [.string f.name,.slice pa pl pc,.int .i64 f.regs,.int .i64 f.words,.slice ca f.code.length cc]:=xC
 have OC:W0.ownsRow 0 4 1 (.slice (some ⟨w.heap.size+1,0,none⟩) f.code.length f.code.length) f.code.length (bQ F0):=by
  rw[<-hW0];have:=(World.ownsRow_lit (w.alloc (.cells #[.string f.name,.slice pa pl pc,.int .i64 f.regs,.int .i64 f.words,.slice ca f.code.length cc] 42)) (base:=0) (e:=4) (size:=1) (bQ F0).toArray f.code.length (Nat.zero_le _) bH (by simp[bQ,hnl])).alloc (.cells #[.int .i64 0] 3);simpa using this
 have OT:W0.ownsRow 0 3 1 (.slice (some ⟨w.heap.size+1+1,0,none⟩) 1 1) 1 (aR [0]):=by
  rw[<-hW0];have:=World.ownsRow_lit ((w.alloc (.cells #[.string f.name,.slice pa pl pc,.int .i64 f.regs,.int .i64 f.words,.slice ca f.code.length cc] 42)).alloc (.cells (bQ F0).toArray 4)) (base:=0) (e:=3) (size:=1) (aR [0]).toArray 1 (Nat.zero_le _) bH (by simp[aR]);simpa[aR]using this
 clear hW0 hmk gz0 gz1 gz2 gi
 go_loopg [4] (mK F0 [0]) (fun k v wr=>∃ (can:List Bool) (todo:List Int),k=mK can todo/\Hid (uV f can todo)/\k<=4000/\Below w.heap.size w wr/\Hid (aF wr w.heap.size [.string f.name,.slice pa pl pc,.int .i64 f.regs,.int .i64 f.words,.slice ca f.code.length cc])/\Hid (wr.ownsRow 0 4 1 (.slice (some ⟨w.heap.size+1,0,none⟩) f.code.length f.code.length) f.code.length (bQ can))/\(∀ j,v.ownBlock=some j->w.heap.size+2<=j)/\Hid (wr.ownsRow 0 3 1 v todo.length (aR todo)))
 case atStart=>exact⟨F0,[0],rfl,hS,by have:F0.count false<=F0.length:=List.count_le_length;unfold mK;simp;omega,hb0,qd OB,qd OC,by simp[Value.ownBlock],qd OT⟩
 case round =>
  clear hb0 OB OC OT hnl;obtain⟨can,todo,rfl,hI,hk,hbr,hb,hc,hvb,ht⟩:=hrel;have b5:=aX hb.out;rcases lD todo with rfl|⟨t,x,rfl⟩
  ·obtain⟨va,vc,rfl⟩:∃ va vc,u4=.slice va 0 vc:=by
    exact aHj
   go_wp2
   try rw[Exit.noGoto_ret]
   go_ret;go_light;have e:=HRR.out can hI.out;have hl:RP.length=f.code.length:=by rw[<-e];exact hI.out.len
   exact⟨_,rfl,bel,by rw[hl,<-e];exact hc.out,(fun k hk=>by
    have:w.heap.size+1=k:=by simpa[Value.ownBlock]using hk
    omega)⟩
  ·have hx:=hI.out.tr x si;obtain⟨a,rfl,ha,-⟩:=hx;have hlt:t.length+1<=4000:=by
    have:=aMa can (t++[(a:Int)]);simp only[List.length_append,List.length_cons,List.length_nil]at this;omega
   have hln:(t++[(a:Int)]).length=t.length+1:=si
   have ht2:=ht.out;rw[hln]at ht2;obtain⟨g,c,rfl,hgc,hgm,hgl⟩:=bB ht2 oz;have hgm':c<=9223372036854775807:=hgm;have t0:=aH ht2 (j:=t.length) (u:=.int .i64 a) (aV si);have hpop:=pL ht2 t.length oz;rw[Nat.mul_one,show(aR (t++[(a:Int)])).take t.length=aR t by rw[bK,<-pX t,List.take_left]]at hpop;have hcl:can.length=f.code.length:=hI.out.len;have hab:w.heap.size+2<=g:=hvb g rfl;have c0:=aH hc.out (j:=a) (u:=.bool (can[a]'(oz))) (kW (by rw[List.getElem?_eq_getElem]));have hgf:=hc.out.frozenAt a;have hca:can[a]? = some (can[a]'(oz)):=List.getElem?_eq_getElem oz;have hw1:IntKind.i64.wrap ((t.length:Int)+1-1)=(t.length:Int):=tU
   have j1:(0:Int)<(t.length:Int)+1:=oz
   have hvb':∀ j,(Value.slice (some ⟨g,0,none⟩) t.length c).ownBlock=some j->w.heap.size+2<=j:=fun j hj=>hvb j hj;have HP:=qd hpop;clear hpop ht2;have HCA:=qd hca;clear hca;generalize can[a]'(oz)=m at *;cases m
   ·go_wp2_with fail;have hst:aG (· = w.heap.size+1) wr (wr.setCell ⟨w.heap.size+1,a,none⟩ (.bool true)):=aG.setCell (S:=(· = w.heap.size+1)) (aG.refl _ _) (p:=⟨w.heap.size+1,a,none⟩) (Or.inl rfl) _;have P2:=aN hst HP.out (by intro k hk e;have h7:g=k:=eL hk;omega);have C2:=cH hc.out a (.bool true);rw[iR]at C2;have B2:=hst.own hb.out oz;have hb2:Below w.heap.size w (wr.setCell ⟨w.heap.size+1,a,none⟩ (.bool true)):=bel;have hI2:=qd (hI.out.mark ha);have hM:=qd (aI7 (f:=f) (t:=t) HCA.out);have hL2:=iS f a;generalize wr.setCell ⟨w.heap.size+1,a,none⟩ (.bool true)=W1 at *;clear hbr hb hc ht HP t0 c0 hgf b5 hst hgl;have hz2:=hb2.size;refine(hNX.out a W1 oz (HF.out.same (aQ.of hb2 hB)) ha).mono ?_;rintro e w5 ⟨nv,rfl,hb5,hr5,hf5,hn5⟩;have hk3:mK (can.set a true) (t++aY f a)<=4000:=by have:=hM.out;omega
    have HK3:=qd hk3;clear hk3;have hcl2:=bJ C2;have P3:=aA hb5 P2;have C3:=aA hb5 C2;have B3:=B2.below hb5;have hb3:Below w.heap.size w w5:=bel;clear P2 C2 B2;generalize aY f a=nl at *;by_cases hne:nl=[]
    ·subst hne;obtain rfl:=hn5 rfl;go_wp2_with (first|(at_builtin;refine wJ rfl (.tmp 42) (.tmp 45) 50 3 1 8 (.int .i64 0) rfl Tryz.underlying50 Tryz.infoI _ _ _ rfl P3 rfl ?_)|fail)
     go_roundg (mK (can.set a true) (t++[]))
     case measure=>exact hM.out
     case rel=>exact⟨_,_,rfl,hI2,HK3.out,hb3,qd B3,qd C3,hvb',qd (by simpa using P3)⟩
    ·have hnl:0<nl.length:=List.length_pos_iff.2 hne;obtain⟨g5,c5,rfl,-,-,hg5⟩:=bB hr5 hnl;clear hn5;go_wp2_with (first|(at_builtin;refine bO rfl (.tmp 42) (.tmp 45) 50 3 1 8 (.int .i64 0) rfl Tryz.underlying50 Tryz.infoI rfl dc _ _ _ rfl P3 ⟨g5,0,none⟩ nl.length c5 (aR nl) rfl (by simp[aR]) (hr5.cells rfl) (bZ _) bH oz hnl ?_;intro g6 c6 w6 hr6 hc6 hg6)|fail)
     go_roundg (mK (can.set a true) (t++nl))
     case measure=>exact hM.out
     case rel =>
      have e6:∀ k,(Value.slice (some ⟨g,0,none⟩) t.length c).ownBlock=some k->k=g:=fun k hk=>by simpa[Value.ownBlock,eq_comm]using hk
      refine⟨_,_,rfl,hI2,HK3.out,hb3.trans (hc6.below _ hb3.size (fun k hk e=>by have:=e6 k e;omega)),qd (hc6.own B3 (fun e=>by have:=e6 _ e;omega)),qd (aN hc6 C3 (by intro k hk e;have h6:=e6 _ e;have h7:w.heap.size+1=k:=eL hk;omega)),?_,qd (by rw[List.length_append,bK];exact hr6)⟩;intro k hk;have hk':g6=k:=by simpa[Value.ownBlock]using hk
      subst hk';rcases hg6 with h|h
      ·have:=e6 _ h;omega
      ·have:=hb5.size;omega
   ·go_wp2_with fail
    go_roundg (mK can t)
    case measure=>exact zQ
    case rel=>exact⟨can,t,rfl,qd (hI.out.drop HCA.out),by have:=@zQ can t a;omega,hbr,hb,hc,hvb',HP⟩
def plC (p:Nat×Nat):List Value:=[.int .i64 p.1,.int .i64 p.2]
def mG (st:List (Nat×Nat)):List Value:=st.flatMap plC
theorem nU (st:List (Nat×Nat)):(mG st).length=st.length*2:=by
 induction st with
 | nil=>rfl
 | cons x l ih=>simp only[mG,List.flatMap_cons,List.length_append]at ih ⊢;rw[ih];simp[plC];omega
theorem rM (st:List (Nat×Nat)) (p:Nat×Nat):mG (st++[p])=mG st++plC p:=by simp[mG]
theorem tT (st:List (Nat×Nat)) (a w:Nat):(mG (st++[(a,w)]))[st.length*2]? = some (.int .i64 a)/\(mG (st++[(a,w)]))[st.length*2+1]? = some (.int .i64 w):=by
 rw[rM,List.getElem?_append_right (by rw[nU];omega),List.getElem?_append_right (by rw[nU];omega),nU];exact⟨by simp[plC],by rw[show st.length*2+1-st.length*2=1 by omega];rfl⟩
theorem aRl (st:List (Nat×Nat)) (a w w':Nat):(mG (st++[(a,w)])).set (st.length*2+1) (.int .i64 w')=mG (st++[(a,w')]):=by
 rw[rM,rM,List.set_append_right _ _ (by rw[nU];omega),nU,show st.length*2+1-st.length*2=1 by omega];rfl
theorem aKt (st:List (Nat×Nat)) (p:Nat×Nat):(mG (st++[p])).take (st.length*2)=mG st:=by
 rw[rM,<-nU,List.take_left]
theorem aP7 (st:List (Nat×Nat)):∀ v∈mG st,v.oneCell'=true:=by
 intro v hv;obtain⟨p,_,hp⟩:=List.mem_flatMap.1 hv;simp[plC]at hp;rcases hp with rfl|rfl<;>rfl
theorem aUw (st:List (Nat×Nat)) (h:∀ p∈st,p.2<=2):st.length<=(st.map fun p=>3-p.2).sum:=by
 induction st with
 | nil=>simp
 | cons x l ih =>
  grind
theorem aLx {f:aC}{been:List Bool}{out:List Nat}{st:List (Nat×Nat)}(h:pF f been out st):st.length<=jD been st:=by
 have:=aUw st (fun p hp=>Nat.le_trans (h.way p hp).1 (iS f p.1));unfold jD;omega
theorem aOs (l:List Nat) (a:Nat):qK (l++[a])=qK l++[(a:Int)]:=by simp[qK]
/-- a list with its first i and its last i exchanged -/
def xR (l:List Int) (i:Nat):List Int:=(List.range l.length).map fun j=>if j<i\/l.length-i<=j then l.getD (l.length-1-j) 0 else l.getD j 0
theorem oB (l:List Int) (i:Nat):(xR l i).length=l.length:=by simp[xR]
theorem rB (l:List Int) (i j:Nat) (hj:j<l.length):(xR l i)[j]? = some (if j<i\/l.length-i<=j then l.getD (l.length-1-j) 0 else l.getD j 0):=by simp[xR,hj]
theorem aLs (l:List Int):xR l 0=l:=by
 apply List.ext_getElem?;intro j;by_cases hj:j<l.length
 ·rw[rB l 0 j hj,if_neg (by omega),List.getD_eq_getElem?_getD,List.getElem?_eq_getElem hj];rfl
 ·rw[List.getElem?_eq_none (by rw[oB];omega),List.getElem?_eq_none (by omega)]
theorem aK8 (l:List Int) (i k:Nat) (hik:i<k) (hk:k+i+1=l.length):((xR l i).set i (l.getD k 0)).set k (l.getD i 0)=xR l (i+1):=by
 apply List.ext_getElem?;intro j;by_cases hj:j<l.length
 ·rw[rB l (i+1) j hj];by_cases e1:j=k
  ·subst e1;rw[List.getElem?_set_self (by rw[List.length_set,oB];exact hj),if_pos (by omega)];congr 2;omega
  ·rw[List.getElem?_set_ne (by omega)];by_cases e2:j=i
   ·subst e2;rw[List.getElem?_set_self (by rw[oB];exact hj),if_pos (by omega)];congr 2;omega
   ·rw[List.getElem?_set_ne (by omega),rB l i j hj];by_cases c:j<i\/l.length-i<=j
    ·grind
    ·grind
 ·rw[List.getElem?_eq_none (by simp[oB];omega),List.getElem?_eq_none (by rw[oB];omega)]
theorem aLq (l:List Int) (i k:Nat) (hik:¬i<k) (hk:k+i+1=l.length\/(k+1=i/\2*i=l.length)):xR l i=l.reverse:=by
 apply List.ext_getElem?;intro j;by_cases hj:j<l.length
 ·rw[rB l i j hj];by_cases c:j<i\/l.length-i<=j
  ·grind
  ·grind
 ·rw[List.getElem?_eq_none (by rw[oB];omega),List.getElem?_eq_none (by grind)]
theorem aS0 (l:List Nat):(qK l).reverse=qK l.reverse:=by simp[qK]
theorem Tryz.infoP:(Tryz.prog.info? 167).map (fun i=>(i.zero,i.size,i.bytes))=some (some (.agg #[.int .i64 0,.int .i64 0]),2,16):=kr
theorem aKh (B:Nat) (hh:HF) (f:aC) (w:World) (hB:B<=w.heap.size) (hf:aZ B w hh f) (hn0:0<f.code.length) (hn:f.code.length<=1024):Calls Tryz.prog 115 #[aI hh f] w fun e w'=>∃ l,jN f l/\aAx w (qK l) e w':=by
 have hmk:=run_make_row' (P:=Tryz.prog) 89 4 (.bool false) 1 Tryz.underlying89 Tryz.infoB rfl .i64 .i64 f.code.length oz oz;rw[mB]at hmk;have HF:=qd hf;obtain⟨pa,pl,pc,ca,cl,cc⟩:=hh;obtain⟨h1,h2,⟨hcl,hcm,hcx⟩,h4,h5⟩:=hf;dsimp only at *;subst hcl;clear h2 hcm hcx h1 h4 h5;have hNX:=qd (fun(a:Nat) w hB hf hat=>qO B ⟨pa,pl,pc,ca,f.code.length,cc⟩ f a w hB hf hat);unfold aI at *;dsimp only at *;have hS:=qd (pF.start f hn0);have hnl:(List.replicate f.code.length false).length=f.code.length:=si
 generalize List.replicate f.code.length false=F0 at *;have hn1:(0:Int)<(f.code.length:Int):=oz
 have OC0:∀ W:World,(W.alloc (.cells (bQ F0).toArray 4)).ownsRow 0 4 1 (.slice (some ⟨W.heap.size,0,none⟩) f.code.length f.code.length) f.code.length (bQ F0):=fun W=>by
  have:=World.ownsRow_lit W (base:=0) (e:=4) (size:=1) (bQ F0).toArray f.code.length (Nat.zero_le _) bH (by simp[bQ,hnl]);simpa using this
 go_enter Tryz.func115,Tryz.ntmps115;go_upto_region 4 with(fail)
 generalize hW0:World.alloc _ _=W0;have hb0:Below w.heap.size w W0:=by rw[<-hW0];exact bel
 have OB:aF W0 w.heap.size [.string f.name,.slice pa pl pc,.int .i64 f.regs,.int .i64 f.words,.slice ca f.code.length cc]:=xC
 have OC:W0.ownsRow 0 4 1 (.slice (some ⟨w.heap.size+1,0,none⟩) f.code.length f.code.length) f.code.length (bQ F0):=by
  rw[<-hW0];have:=(OC0 (w.alloc (.cells #[.string f.name,.slice pa pl pc,.int .i64 f.regs,.int .i64 f.words,.slice ca f.code.length cc] 42))).alloc (.cells #[.int .i64 0,.int .i64 0] 167);simpa using this
 have OT:W0.ownsRow 0 167 2 (.slice (some ⟨w.heap.size+1+1,0,none⟩) 1 1) 1 (mG [(0,0)]):=by
  rw[<-hW0];have:=World.ownsRow_lit ((w.alloc (.cells #[.string f.name,.slice pa pl pc,.int .i64 f.regs,.int .i64 f.words,.slice ca f.code.length cc] 42)).alloc (.cells (bQ F0).toArray 4)) (base:=0) (e:=167) (size:=2) (mG [(0,0)]).toArray 1 (Nat.zero_le _) bH (by simp[mG,plC]);simpa[mG,plC]using this
 have hz0:w.heap.size+3<=W0.heap.size:=by rw[<-hW0];simp
 clear hW0 hmk OC0;have c0:=aH OC (j:=0) (u:=.bool (F0[0]'(oz))) (kW (by rw[List.getElem?_eq_getElem]));have hfz:=OC.frozenAt 0;have hst:aG (· = w.heap.size+1) W0 (W0.setCell ⟨w.heap.size+1,0,none⟩ (.bool true)):=aG.setCell (S:=(· = w.heap.size+1)) (aG.refl _ _) (p:=⟨w.heap.size+1,0,none⟩) (Or.inl rfl) _;have C2:=cH OC 0 (.bool true);rw[iR]at C2;have B2:=hst.own OB oz;have T2:=aN hst OT (by intro k hk e;have h7:w.heap.size+1+1=k:=eL hk;omega);have hb2:Below w.heap.size w (W0.setCell ⟨w.heap.size+1,0,none⟩ (.bool true)):=bel;have hz2:w.heap.size+3<=(W0.setCell ⟨w.heap.size+1,0,none⟩ (.bool true)).heap.size:=by simpa using hz0
 have hdl:jD (F0.set 0 true) [(0,0)]<=4200:=by
  have:(F0.set 0 true).count false<=(F0.set 0 true).length:=List.count_le_length;rw[List.length_set]at this;unfold jD;simp;omega
 have HB2:=qd B2;have HC2:=qd C2;have HT2:=qd T2;have HDL:=qd hdl;clear OB OC OT B2 C2 T2 hst hb0 hz0 hdl;go_wp2;generalize W0.setCell ⟨w.heap.size+1,0,none⟩ (.bool true)=W1 at *;clear c0 hfz hnl
 go_loopg [4,5] (jD (F0.set 0 true) [(0,0)]) (fun k v4 v5 wr=>∃ (been:List Bool) (out:List Nat) (st:List (Nat×Nat)),k=jD been st/\Hid (pF f been out st)/\out.length+k<=4200/\Below w.heap.size w wr/\w.heap.size+3<=wr.heap.size/\Hid (aF wr w.heap.size [.string f.name,.slice pa pl pc,.int .i64 f.regs,.int .i64 f.words,.slice ca f.code.length cc]) /\
  Hid (wr.ownsRow 0 4 1 (.slice (some ⟨w.heap.size+1,0,none⟩) f.code.length f.code.length) f.code.length (bQ been)) /\
  (∀ j,v4.ownBlock=some j->w.heap.size+2<=j)/\(∀ j,v5.ownBlock=some j->w.heap.size+2<=j)/\(∀ j,v4.ownBlock=some j->v5.ownBlock≠some j) /\
  Hid (wr.ownsRow 0 3 1 v4 out.length (aR (qK out)))/\Hid (wr.ownsRow 0 167 2 v5 st.length (mG st)))
 case atStart=>exact⟨_,[],[(0,0)],rfl,hS,by have:=HDL.out;simpa using this,hb2,hz2,HB2,HC2,by simp[Value.ownBlock],by simp[Value.ownBlock],by simp[Value.ownBlock],qd (World.ownsRow_nil _ _ _ _),HT2⟩
 case round =>
  clear HB2 HC2 HT2 hb2 hz2 HDL hS;obtain⟨been,out,st,rfl,hI,hk,hbr,hzr,hB2,hC,hv4,hv5,hne,hO,hT⟩:=hrel;have b5:=aX hB2.out;rcases lD st with rfl|⟨t,⟨a,wy⟩,rfl⟩
  ·skip
   obtain⟨va5,vc5,rfl⟩:∃ va5 vc5,u5=.slice va5 0 vc5:=by
    rcases bU hT.out with⟨rfl,_,_⟩|⟨g,c,rfl,_,_,_⟩
    ·exact⟨_,_,rfl⟩
    ·exact⟨_,_,rfl⟩
   have hok:=hI.out.done;have hol:0<out.length:=by
    rcases hI.out.bot with⟨_,k⟩|⟨w',q,k⟩
    ·cases out with
     | nil=>simp at k
     | cons x l=>simp
    ·simp at k
   obtain⟨g4,c4,rfl,h41,h42,h43⟩:=bB hO.out hol;have h42':c4<=9223372036854775807:=h42;have hg4:=hv4 g4 rfl;have hw0:IntKind.i64.wrap ((out.length:Int)-1)=((out.length-1:Nat):Int):=tU
   have HOK:=qd hok;clear hok;have hRow:=qd (show wr.ownsRow 0 3 1 (.slice (some ⟨g4,0,none⟩) out.length c4) out.length (aR (xR (qK out) 0)) by rw[aLs];exact hO.out);have hll:(qK out).length=out.length:=by simp[qK]
   clear hI hO hT hB2 hC hv4 hv5 hne b5;have HK:=qd hk;clear hk;generalize hL:qK out=L at *;have HL:=qd hL;clear hL;go_wp2;go_loopw [9,10] (fun v9 v10 wx=>∃ (i k:Nat),v9=.int .i64 i/\v10=.int .i64 ((k:Int)-1)/\k+i=out.length/\i<=k/\Below w.heap.size w wx/\Hid (wx.ownsRow 0 3 1 (.slice (some ⟨g4,0,none⟩) out.length c4) out.length (aR (xR L i)))) (fun v9 _ _=>out.length-(intOf v9).toNat)
   case atStart=>exact⟨0,out.length,rfl,by rw[Int.ofNat_sub (by omega)];rfl,oz,oz,hbr,hRow⟩
   case round =>
    clear hRow hbr;obtain⟨i,k,rfl,rfl,hik,hik2,hbx,hR⟩:=hrel;have hgx:=bJ hR.out;by_cases hlt:i+1<k
    ·have d2:(i:Int)<(k:Int)-1:=oz
     have q1:=rB L i i oz;have q2:=rB L i (k-1) oz;rw[if_neg (by omega)]at q1 q2;have a0:=aH hR.out (aV q1);have a1:=aH hR.out (aV q2);have f0:=hR.out.frozenAt i;have f1:=hR.out.frozenAt (k-1);have hst:=qd (aK8 L i (k-1) oz oz);clear q1 q2;obtain⟨m,rfl⟩:∃ m,k=m+1:=⟨k-1,oz⟩
     simp only[Nat.add_sub_cancel]at *;generalize L.getD i 0=x at *;generalize L.getD m 0=y at *;have hmm:((m+1:Nat):Int)-1=(m:Int):=oz
     have hwi:IntKind.i64.wrap ((i:Int)+1)=(i:Int)+1:=IntWalk.i64_in _ oz;have hwk:IntKind.i64.wrap ((m:Int)-1)=(m:Int)-1:=IntWalk.i64_in _ oz;have hmi:¬m=i:=oz
     have him:¬i=m:=oz
     have r1:=cH (cH hR.out i (.int .i64 y)) m (.int .i64 x);have e1:((aR (xR L i)).set i (.int .i64 y)).set m (.int .i64 x)=aR (xR L (i+1)):=by rw[<-hst.out];simp[aR]
     have r2:=cH (cH hR.out m (.int .i64 x)) i (.int .i64 y);rw[List.set_comm _ _ (by omega)]at r2;rw[e1]at r1 r2;have R1:=qd r1;have R2:=qd r2;clear r1 r2 e1;go_wp2
     go_region
     all_goals go_wp2_with fail
     all_goals refine⟨⟨i+1,m,si,rfl,oz,oz,bel,qd (by first|exact R1.out|exact R2.out)⟩,?_⟩
     all_goals(go_light;exact ml)
    ·have d2:¬(i:Int)<(k:Int)-1:=oz
     have hrv:=aLq L i (k-1) oz (.inl oz);have HRV:=qd hrv;clear hrv;go_wp2;go_ret;go_light;refine⟨out.reverse,HOK.out,_,rfl,bel,?_,?_,?_⟩
     ·have e:(qK out.reverse).length=out.length:=by simp[qK]
      rw[e,<-aS0,HL.out,<-HRV.out];exact hR.out
     ·intro j hj;have h7:g4=j:=eL hj
      omega
     ·intro e;have e2:(qK out.reverse).length=out.length:=by simp[qK]
      rw[e]at e2;change 0=out.length at e2;omega
  ·have hln:(t++[(a,wy)]).length=t.length+1:=si
   have hlt:t.length+1<=4200:=by
    have:=aLx hI.out;rw[hln]at this;omega
   have hT2:=hT.out;rw[hln]at hT2;obtain⟨g,c,rfl,hgc,hgm,hgl⟩:=bB hT2 oz;have hgm':c<=9223372036854775807:=hgm;have hab:=hv5 g rfl;have ht1:=(tT t a wy).1;have ht2:=(tT t a wy).2;have t0:=aH hT2 ht1;have t1:=aH hT2 ht2;have tf:=hT2.frozenAt (t.length*2+1);clear ht1 ht2;have ha:a<f.code.length:=hI.out.lt si;have hway:=(hI.out.way (a,wy) si).1;dsimp only at hway;have hw1:IntKind.i64.wrap ((t.length:Int)+1-1)=(t.length:Int):=tU
   have j1:(0:Int)<(t.length:Int)+1:=oz
   have HT:=qd hT2;clear hT2 hT;go_wp2;refine bC 5 kr kr ?_;simp only[TD];repeat(refine bS (fun K hK=>?_);go_simp;refine hK _ ?_;clear hK K)
   refine cF ?_;go_wp2_with fail;refine(hNX.out a wr.drew (by simp;omega) (HF.out.same (aQ.of (show Below w.heap.size w wr.drew by exact bel) hB)) ha).mono ?_;rintro e w2 ⟨nv,rfl,hb3,hr3,hf3,hn3⟩;have O3:=aA hb3 (show(wr.drew).ownsRow 0 3 1 u4 out.length (aR (qK out))from hO.out);have T3:=aA hb3 (show(wr.drew).ownsRow 0 167 2 (.slice (some ⟨g,0,none⟩) (t.length+1) c) (t.length+1) (mG (t++[(a,wy)]))from HT.out);have C3:=aA hb3 (show(wr.drew).ownsRow 0 4 1 (.slice (some ⟨w.heap.size+1,0,none⟩) f.code.length f.code.length) f.code.length (bQ been)from hC.out);have B3:=(show aF wr.drew w.heap.size [.string f.name,.slice pa pl pc,.int .i64 f.regs,.int .i64 f.words,.slice ca f.code.length cc]from hB2.out).below hb3;have hz3:wr.heap.size<=w2.heap.size:=hb3.size;have hbw:Below w.heap.size w w2:=bel;obtain⟨va,vc,rfl⟩:∃ va vc,nv=.slice va (aY f a).length vc:=by
    rcases bU hr3 with⟨rfl,h0,_⟩|⟨g',c',rfl,_,_,_⟩
    ·exact⟨none,0,by rw[h0]⟩
    ·exact⟨_,_,rfl⟩
   have hnlen:=iS f a;have HFin:=qd (fun e=>hI.out.finish (a:=a) (w:=wy) e);have HLook:=qd (fun x hx hb=>hI.out.look (a:=a) (w:=wy) (x:=x) hx hb);have HMeet:=qd (fun x hx hb=>hI.out.meet (a:=a) (w:=wy) (x:=x) hx hb);have HIn:=qd (gQ f a);have HIL:=qd hI.out.len;have hz2:w.heap.size+3<=w2.heap.size:=oz
   clear hn3 hB2 hC hO HT t0 t1 tf b5 hbr hb3 hgl hI hf3;generalize aY f a=nl at *;have t0:=aH T3 (tT t a wy).1;have t1:=aH T3 (tT t a wy).2;have tf:=T3.frozenAt (t.length*2+1);by_cases hwe:wy=nl.length
   ·subst hwe;have hM:=@aC5 been t a nl.length hnlen;have hk2:(out++[a]).length+jD been t<=4200:=by simp;omega
    have HK2:=qd hk2;clear hk2;have HM:=qd hM;clear hM;have hpop:=pL T3 t.length oz;rw[aKt]at hpop;have HPOP:=qd hpop;clear hpop;have hol:out.length<=4200:=oz
    go_wp2_with (first|(at_builtin;refine bO rfl (.tmp 40) (.tmp 45) 50 3 1 8 (.int .i64 0) rfl Tryz.underlying50 Tryz.infoI rfl dc _ _ _ rfl (aA bel O3) ⟨w2.heap.size,0,none⟩ 1 1 (aR [(a:Int)]) rfl rfl (cC (aF.new' _ _ _ _ si)) (bZ _) bH oz dc ?_;intro g6 c6 w6 hr6 hc6 hg6)|fail)
    have hc7:aG (fun k=>u4.ownBlock=some k) w2 w6:=(aG.of (by exact bel)).trans hc6;have hgl3:=bJ T3
    go_roundg (jD been t)
    case measure=>exact HM.out
    case rel =>
     refine⟨been,out++[a],t,rfl,qd (HFin.out si),HK2.out,hbw.trans (hc7.below _ hbw.size (fun k hk e=>by have:=hv4 k e;omega)),by have:=hc7.size;omega,qd (hc7.own B3 (fun e=>by have:=hv4 _ e;omega)),
      qd (aN hc7 C3 (fun q hq e=>by have h7:w.heap.size+1=q:=eL hq;have:=hv4 _ e;omega)),?_,?_,?_,qd (by rw[aOs,bK,List.length_append];exact hr6),
      qd (aN hc7 HPOP.out (fun q hq e=>by have h7:g=q:=eL hq;subst h7;exact hne _ e rfl))⟩
     ·intro j hj;have h7:g6=j:=eL hj
      subst h7;rcases hg6 with h|h
      ·exact hv4 _ h
      ·simp at h;omega
     ·intro j hj;exact hv5 j hj
     ·intro j hj e;have h7:g6=j:=eL hj
      have h8:g=j:=eL e
      rcases hg6 with h|h
      ·exact hne _ h (by rw[h7,<-h8];rfl)
      ·simp at h;omega
   ·have hwl:wy<nl.length:=oz
    obtain⟨gn,gc,hnv,-,-,hgn⟩:=bB hr3 oz;cases hnv;have hxe:nl[wy]? = some (nl[wy]'hwl):=List.getElem?_eq_getElem hwl;have n0:=aH hr3 (aV hxe);have hxr:=HIn.out _ (List.getElem_mem hwl);have HXE:=qd hxe;clear hxe;generalize nl[wy]'hwl=x at *;obtain⟨v,rfl⟩:∃ v:Nat,x=v:=⟨x.toNat,oz⟩
    have hvl:v<f.code.length:=oz
    have hvb:v<been.length:=by rw[HIL.out];exact hvl
    have hbe:been[v]? = some (been[v]'hvb):=List.getElem?_eq_getElem hvb;have e0:=aH C3 (kW hbe);have ef:=C3.frozenAt v;have HBE:=qd hbe;clear hbe;generalize been[v]'hvb=m at *;have hw2:IntKind.i64.wrap ((wy:Int)+1)=(wy:Int)+1:=IntWalk.i64_in _ oz;have hwe2:¬(wy:Int)=(nl.length:Int):=oz
    have hwy:wy<2:=oz
    have hgl3:=bJ T3;have hst:aG (· = g) w2 (w2.setCell ⟨g,t.length*2+1,none⟩ (.int .i64 ((wy:Int)+1))):=aG.setCell (S:=(· = g)) (aG.refl _ _) (p:=⟨g,t.length*2+1,none⟩) (Or.inl rfl) _;have T4:=cH T3 (t.length*2+1) (.int .i64 ((wy:Int)+1));have hps:=aRl t a wy (wy+1);rw[show(((wy+1:Nat)):Int)=(wy:Int)+1 by omega]at hps;rw[hps]at T4;have B4:=hst.own B3 oz;have C4:=aN hst C3 (fun q hq e=>by have h7:w.heap.size+1=q:=eL hq;omega);have O4:=aN hst O3 (fun q hq e=>hne q hq (by rw[e];rfl));have hb4:Below w.heap.size w (w2.setCell ⟨g,t.length*2+1,none⟩ (.int .i64 ((wy:Int)+1))):=bel;have HT4:=qd T4;have HB4:=qd B4;have HC4:=qd C4;have HO4:=qd O4;clear T4 B4 C4 O4 hps hst;cases m
    ·have hM:=@aHw been t a wy v hwy HBE.out;have hk2:out.length+jD (been.set v true) (t++[(a,wy+1),(v,0)])<=4200:=oz
     have HK2:=qd hk2;have HM:=qd hM;clear hk2 hM;go_upto_region 15 with(fail)
     have hvx:v<f.code.length:=hvl;generalize hWb:w2.setCell ⟨g,t.length*2+1,none⟩ (.int .i64 ((wy:Int)+1))=Wb at *;have hzb:w.heap.size+3<=Wb.heap.size:=by rw[<-hWb];simpa using hz2
     clear hWb;have hst2:aG (· = w.heap.size+1) Wb (Wb.setCell ⟨w.heap.size+1,v,none⟩ (.bool true)):=aG.setCell (S:=(· = w.heap.size+1)) (aG.refl _ _) (p:=⟨w.heap.size+1,v,none⟩) (Or.inl rfl) _;have C5:=cH HC4.out v (.bool true);rw[iR]at C5;have T5:=aN hst2 HT4.out (fun q hq e=>by have h7:g=q:=eL hq;omega);have O5:=aN hst2 HO4.out (fun q hq e=>by have:=hv4 q hq;omega);have B5:=hst2.own HB4.out oz;have hb5:Below w.heap.size w (Wb.setCell ⟨w.heap.size+1,v,none⟩ (.bool true)):=bel;have hz5:w.heap.size+3<=(Wb.setCell ⟨w.heap.size+1,v,none⟩ (.bool true)).heap.size:=by simpa using hzb
     generalize Wb.setCell ⟨w.heap.size+1,v,none⟩ (.bool true)=W5 at *;clear hst2;have hgl5:=bJ T5;go_wp2_with (first|(at_builtin;refine bO rfl (.tmp 74) (.tmp 77) 168 167 2 16 (.agg #[.int .i64 0,.int .i64 0]) rfl Tryz.underlying168 Tryz.infoP rfl dc _ _ _ rfl (aA bel T5) ⟨W5.heap.size,0,none⟩ 1 1 (mG [(v,0)]) rfl rfl (cC (aF.new' _ _ _ _ si)) (aP7 _) bH oz dc ?_;intro g6 c6 w6 hr6 hc6 hg6)|fail)
     have hc7:aG (fun k=>(Value.slice (some ⟨g,0,none⟩) (t.length+1) c).ownBlock=some k) W5 w6:=(aG.of (by exact bel)).trans hc6;have e7:∀ k,(Value.slice (some ⟨g,0,none⟩) (t.length+1) c).ownBlock=some k->k=g:=fun k hk=>by simpa[Value.ownBlock,eq_comm]using hk
     go_roundg (jD (been.set v true) (t++[(a,wy+1),(v,0)]))
     case measure=>exact HM.out
     case rel =>
      refine⟨been.set v true,out,t++[(a,wy+1),(v,0)],rfl,qd (HMeet.out _ HXE.out HBE.out),HK2.out,hb5.trans (hc7.below _ hb5.size (fun k hk e=>by have:=e7 k e;omega)),by have:=hc7.size;omega,qd (hc7.own B5 (fun e=>by have:=e7 _ e;omega)),
       qd (aN hc7 C5 (fun q hq e=>by have h7:w.heap.size+1=q:=eL hq;have:=e7 _ e;omega)),hv4,?_,?_,qd (aN hc7 O5 (fun q hq e=>by have:=e7 _ e;subst this;exact hne _ hq rfl)),qd ?_⟩
      ·intro j hj;have h7:g6=j:=eL hj
       subst h7;rcases hg6 with h|h
       ·have:=e7 _ h;omega
       ·simp at h;omega
      ·intro j hj e;have h7:g6=j:=eL e
       rcases hg6 with h|h
       ·have:=e7 _ h;exact hne j hj (by rw[<-h7,this];rfl)
       ·have:=cA O5 hj;simp at h;omega
      ·rw[show t++[(a,wy+1),(v,0)]=(t++[(a,wy+1)])++[(v,0)] by simp,show mG ((t++[(a,wy+1)])++[(v,0)])=mG (t++[(a,wy+1)])++mG [(v,0)] by simp[mG]];have e8:((t++[(a,wy+1)])++[(v,0)]).length=t.length+1+1:=si
       rw[e8];exact hr6
    ·have hM:=@aIp been t a wy hwy;have hk2:out.length+jD been (t++[(a,wy+1)])<=4200:=oz
     have HK2:=qd hk2;have HM:=qd hM;clear hk2 hM;go_wp2_with fail
     go_roundg (jD been (t++[(a,wy+1)]))
     case measure=>exact HM.out
     case rel=>exact⟨been,out,t++[(a,wy+1)],rfl,qd (HLook.out _ HXE.out HBE.out),HK2.out,hb4,by simpa using hz2,HB4,HC4,hv4,(fun j hj=>hv5 j hj),(fun j hj e=>hne j hj e),HO4,qd (by rw[List.length_append];exact HT4.out)⟩
end Go.Proofs.YteebpnbdihcfmaaGreatDoor
