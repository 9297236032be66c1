/- The reference of spans; Plain law; R08 -/
import Derived.Test.YteebpnbdihcfmaaGreatDoorJ10
set_option linter.unusedVariables false
set_option linter.unusedSimpArgs false
set_option maxRecDepth 100000
set_option maxHeartbeats 20000000
namespace Go.Proofs.YteebpnbdihcfmaaGreatDoor
open Go.RowKit
theorem aUn {p:Prop}(h:p:=by
 go_ret2;exact⟨rfl,by first|exact Below.refl _ _|exact(Below.refl _ _).drew⟩):p:=h
theorem aHl {p b:Int}(hb:b≠0):(p.tmod b).natAbs<b.natAbs:=by
 rw[Int.natAbs_tmod];exact Nat.mod_lt _ oz
theorem aNj {a b p:Int}(hb:b≠0) (hB:b.natAbs<=9223372036854775808) (hp:(p-a*b)%18446744073709551616=0) (h:p.tdiv b=a):p=a*b:=by
 have h1:=Int.mul_tdiv_add_tmod p b;have h2:=aHl (p:=p) hb;rw[h,Int.mul_comm]at h1;generalize p.tmod b=r at *;generalize a*b=q at *;omega
def lF (a b:Int):Int:=if a=0\/b=0 then 0 else if a = -1\/b = -1 then(if -9223372036854775808<=a*b/\a*b<=9223372036854775807 then a*b else 0)else wrap64 (a*b)
theorem aPm {p:Prop}(h:p:=by
 subst e;refine bC 14 kr kr ?_;simp only[TD];repeat(refine bS (fun K hK=>?_);go_simp;refine hK _ ?_;clear hK K)
 refine cF ?_;go_wp2;exact aUn):p:=h
theorem aT0 {p:Prop}(h:p:=by
 clear h2 h1;go_enter Tryz.func100,Tryz.ntmps100;go_wp2_with (first|(go_at_call 117;refine(HO.out _).mono ?_;intro e w10 h10;obtain⟨rfl,h11⟩:=h10;have h12:=h11.symm;subst h12)|(go_at_call 99;refine(HL.out _).mono ?_;intro e w10 h10;obtain⟨rfl,h11⟩:=h10;have h12:=h11.symm;subst h12)|fail)
 try rw[Exit.noGoto_ret]
 go_ret2;exact⟨rfl,by first|exact Below.refl _ _|exact(Below.refl _ _).drew⟩):p:=h
theorem aRn {p:Prop}(h:p:=by
 clear h0 h1;go_enter Tryz.func100,Tryz.ntmps100;go_wp2
 try rw[Exit.noGoto_ret]
 exact aUn):p:=h
theorem fP (a b:Int) (w:World) (ha:aM a) (hb:aM b) (B:Bool) (hB:B=(decide (-9223372036854775808<=a*b)&&decide (a*b<=9223372036854775807))):Calls Tryz.prog 100 #[.int .i64 a,.int .i64 b] w fun e w'=>e=.returned (.tuple #[.int .i64 (lF a b),.bool B])/\Below w.heap.size w w':=by
 obtain⟨R,hR⟩:∃ R,lF a b=R:=⟨_,rfl⟩
 rw[hR];unfold lF at hR;by_cases h0:a=0\/b=0
 ·rw[if_pos h0]at hR;have hz:a*b=0:=by rcases h0 with h|h<;>rw[h]<;>simp
  rw[hz]at hB;obtain rfl:B=true:=by rw[hB];decide
  subst hR;clear hB hz;by_cases h1:a=0
  ·have d1:(a==0)=true:=by simpa using h1
   exact aRn
  ·have d1:(a==0)=false:=by simpa using h1
   have d2:(b==0)=true:=by simpa using h0.resolve_left h1
   exact aRn
 ·rw[if_neg h0]at hR;have n1:a≠0:=fun h=>h0 (.inl h);have n2:b≠0:=fun h=>h0 (.inr h);have d1:(a==0)=false:=by simpa using n1
  have d2:(b==0)=false:=by simpa using n2
  by_cases h1:a = -1\/b = -1
  ·rw[if_pos h1]at hR;obtain⟨o,ho⟩:∃ o,(if a = -1 then b else a)=o:=⟨_,rfl⟩
   have hab:a*b=0-o:=by
    by_cases h:a = -1
    ·rw[if_pos h]at ho;rw[h,ho];omega
    ·rw[if_neg h]at ho;rw[h1.resolve_left h,ho];omega
   have io:aM o:=by rw[<-ho];split<;>assumption
   rw[hab]at hR hB;have HO:=qd (fun w=>aIy a b w);rw[ho]at HO;have HL:=qd (fun w=>mA 0 o w ⟨dc,dc⟩ io B hB);have hRe:R=if B then 0-o else 0:=by
    rw[<-hR,hB];by_cases h : -9223372036854775808<=0-o/\0-o<=9223372036854775807
    ·rw[if_pos h,if_pos (by simp;omega)]
    ·rw[if_neg h,if_neg (by simp;omega)]
   rw[<-hRe]at HL;have HR:=qd hRe;clear hR hB hRe hab ho n1 n2 h0 io;by_cases h2:a = -1
   ·have d3:(a == -1)=true:=by simpa using h2
    exact aT0
   ·have d3:(a == -1)=false:=by simpa using h2
    have d4:(b == -1)=true:=by simpa using h1.resolve_left h2
    exact aT0
  ·rw[if_neg h1]at hR;have d3:(a == -1)=false:=by simp;exact fun h=>h1 (.inl h)
   have d4:(b == -1)=false:=by simp;exact fun h=>h1 (.inr h)
   have n3:a ≠ -1:=fun h=>h1 (.inl h);have n4:b ≠ -1:=fun h=>h1 (.inr h);obtain⟨p,hp⟩:∃ p,wrap64 (a*b)=p:=⟨_,rfl⟩
   have hp2:IntKind.i64.wrap (a*b)=p:=(IntWalk.i64_left _).trans hp;have ip:aM p:=by rw[<-hp];unfold wrap64 aM;omega
   have hpm:(p-a*b)%18446744073709551616=0:=by rw[<-hp];unfold wrap64;omega
   unfold aM at ha hb ip;have hk1:B=true->p=a*b:=fun h=>by
    rw[hB]at h;simp only[Bool.and_eq_true,decide_eq_true_eq]at h;rw[<-hp];unfold wrap64;omega
   have hk2:p.tdiv b=a->B=true:=fun h=>by
    have e:=aNj n2 oz hpm h;rw[hB];exact aIs
   have hk3:p=a*b->p.tdiv b=a/\p.tdiv a=b:=fun h=>by
    rw[h];exact⟨Int.mul_tdiv_cancel a n2,Int.mul_tdiv_cancel_left b n1⟩
   have hq:∀ x:Int,x≠0->x ≠ -1->IntKind.i64.wrap (p.tdiv x)=p.tdiv x:=fun x hx hx1=>IntWalk.i64_in _ (by
    have h:(p.tdiv x).natAbs=p.natAbs / x.natAbs:=Int.natAbs_tdiv p x;have h2:=Nat.div_le_self p.natAbs x.natAbs;have h3:x.natAbs=1->p.tdiv x=p:=fun h=>by
     rcases(show x=1\/x = -1 by omega)with rfl|rfl
     ·exact Int.tdiv_one p
     ·exact absurd rfl hx1
    by_cases h4:x.natAbs=1
    ·rw[h3 h4];omega
    ·have h5:2<=x.natAbs:=oz
     have h6:p.natAbs / x.natAbs<=p.natAbs / 2:=Nat.div_le_div_left h5 oz;omega)
   have w1:=hq b n2 n4;have w2:=hq a n1 n3;obtain⟨c1,hc1⟩:∃ c,(p.tdiv b==a)=c:=⟨_,rfl⟩
   obtain⟨c2,hc2⟩:∃ c,(p.tdiv a==b)=c:=⟨_,rfl⟩
   have hBc:B=(c1&&c2):=by
    cases hBv:B
    ·have:p.tdiv b≠a:=fun h=>by rw[hk2 h]at hBv;cases hBv
     have:c1=false:=by rw[<-hc1];simpa using this
     rw[this];rfl
    ·obtain⟨e1,e2⟩:=hk3 (hk1 hBv);rw[<-hc1,<-hc2,e1,e2];simp
   rw[hp]at hR;subst hR;have HBC:=qd hBc;have n5:¬b=0:=n2;have n6:¬a=0:=n1;clear hBc hB hk1 hk2 hk3 hq hpm ip ha hb h0 h1 n3 n4;go_enter Tryz.func100,Tryz.ntmps100;go_upto_region 6 with(fail)
   first|rw[hp2]|rw[hp]|skip
   clear hp2 hp;cases c1
   ·have e:=HBC.out;rw[Bool.false_and]at e;exact aPm
   ·have e:=HBC.out;rw[Bool.true_and]at e;exact aPm
/-- what the machine makes of two numbers; none: a trap -/
def opR (op a b:Int):Option Int:=if op=10 then some (if a=0 then 1 else 0)else if(op=6\/op=7)/\b=0 then none else some (tF op a b)
section
def InL (r:List aB) (v:List Int):Prop:=v.length=r.length/\∀ i,i<r.length->InS (r.getD i default) (v.getD i 0)
theorem vU {α:Type}(l:List α) (i j:Nat) (a d:α):(l.set i a).getD j d=if i=j/\i<l.length then a else l.getD j d:=by
 simp only[List.getD_eq_getElem?_getD];by_cases e:i=j
 ·subst e;by_cases h:i<l.length
  ·rw[if_pos ⟨rfl,h⟩,List.getElem?_set_self h];rfl
  ·rw[if_neg (fun q=>h q.2),List.set_eq_of_length_le (by omega)]
 ·rw[if_neg (fun q=>e q.1),List.getElem?_set_ne e]
section
variable {r : List aB} {v : List Int}
theorem InL.set (h:InL r v) (i:Nat) {a:aB}{n:Int}(ha:InS a n):InL (r.set i a) (v.set i n):=by
 refine⟨by simp[h.1],fun j hj=>?_⟩;rw[List.length_set]at hj;rw[vU,vU,h.1];split
 ·exact ha
 ·exact h.2 j hj
theorem InL.setS (h:InL r v) (i:Nat) {a:aB}(ha:InS a (v.getD i 0)):InL (r.set i a) v:=by
 refine⟨by simp[h.1],fun j hj=>?_⟩;rw[List.length_set]at hj;rw[vU];split
 ·rename_i e;rw[<-e.1];exact ha
 ·exact h.2 j hj
end
end
theorem aGw {p:Prop}(h:p:=by
 have w2:IntKind.i64.wrap (x+n)=x+n:=IntWalk.i64_in _ oz;go_enter Tryz.func77,Tryz.ntmps77;exact aJk):p:=h
theorem aN3 {p:Prop}(h:p:=by
 obtain rfl:B=false:=by rw[hB];simp;omega
 clear hB;go_enter Tryz.func77,Tryz.ntmps77;exact aJk):p:=h
theorem qE (x n:Int) (w:World) (hx:aM x) (hn:aM n) (B:Bool) (hB:B=(decide (-9223372036854775808<=x+n)&&decide (x+n<=9223372036854775807))):Calls Tryz.prog 77 #[.int .i64 x,.int .i64 n] w fun e w'=>e=.returned (.tuple #[.int .i64 (if B then x+n else 0),.bool B])/\w'=w:=by
 unfold aM at hx hn;have i0:¬n<n:=oz
 by_cases h1:0<n
 ·have w1:IntKind.i64.wrap (9223372036854775807-n)=9223372036854775807-n:=IntWalk.i64_in _ oz;by_cases h2:9223372036854775807-n<x
  ·exact aN3
  ·obtain rfl:B=true:=by rw[hB];simp;omega
   clear hB;have h3:¬n<0:=oz
   exact aGw
 ·by_cases h4:n<0
  ·have w1:IntKind.i64.wrap (-9223372036854775808-n) = -9223372036854775808-n:=IntWalk.i64_in _ oz;by_cases h2:x < -9223372036854775808-n
   ·exact aN3
   ·obtain rfl:B=true:=by rw[hB];simp;omega
    clear hB;exact aGw
  ·obtain rfl:B=true:=by rw[hB];simp;omega
   clear hB;exact aGw
theorem oH {p:Prop}(h:p:=by
 clear hR h3 h10;go_enter Tryz.func42,Tryz.ntmps42;go_wp2
 try rw[Exit.noGoto_ret]
 go_ret2;exact⟨rfl,rfl⟩):p:=h
theorem aJt (op x y:Int) (w:World) (h3:3<=op) (h10:op<=10) (hx:aM x) (hy:aM y):Calls Tryz.prog 42 #[.int .i64 op,.int .i64 x,.int .i64 y] w fun e w'=>e=.returned (.tuple #[.int .i64 ((opR op x y).getD 0),.bool (opR op x y).isSome])/\w'=w:=by
 obtain⟨R,hR⟩:∃ R,opR op x y=R:=⟨_,rfl⟩
 rw[hR];rcases(show op=3\/op=4\/op=5\/op=6\/op=7\/op=8\/op=9\/op=10 by omega)with rfl|rfl|rfl|rfl|rfl|rfl|rfl|rfl
 ·obtain rfl:some (wrap64 (x+y))=R:=by simpa[opR,tF]using hR
  exact oH
 ·obtain rfl:some (wrap64 (x-y))=R:=by simpa[opR,tF]using hR
  exact oH
 ·obtain rfl:some (wrap64 (x*y))=R:=by simpa[opR,tF]using hR
  exact oH
 ·by_cases h0:y=0
  ·subst h0;obtain rfl:none=R:=by simpa[opR,tF]using hR
   exact oH
  ·obtain rfl:some (wrap64 (x.tdiv y))=R:=by simpa[opR,tF,h0]using hR
   have h1:(y==0)=false:=by simpa using h0
   exact oH
 ·by_cases h0:y=0
  ·subst h0;obtain rfl:none=R:=by simpa[opR,tF]using hR
   exact oH
  ·obtain rfl:some (x.tmod y)=R:=by simpa[opR,tF,h0]using hR
   have h1:(y==0)=false:=by simpa using h0
   exact oH
 ·by_cases h0:x<y
  ·obtain rfl:some 1=R:=by simpa[opR,tF,h0]using hR
   exact oH
  ·obtain rfl:some 0=R:=by simpa[opR,tF,h0]using hR
   exact oH
 ·by_cases h0:x=y
  ·obtain rfl:some 1=R:=by simpa[opR,tF,h0]using hR
   subst h0;exact oH
  ·obtain rfl:some 0=R:=by simpa[opR,tF,h0]using hR
   have h1:(x==y)=false:=by simpa using h0
   exact oH
 ·by_cases h0:x=0
  ·subst h0;obtain rfl:some 1=R:=by simpa[opR,tF]using hR
   exact oH
  ·obtain rfl:some 0=R:=by simpa[opR,tF,h0]using hR
   have h1:(x==0)=false:=by simpa using h0
   exact oH
def cU (z:Int):Bool:=decide (-9223372036854775808<=z)&&decide (z<=9223372036854775807)
abbrev orO (b:Bool) (z:Int):Int:=if b then z else 0
theorem aJz {z:Int}(h:cU z=true):aM z:=by unfold cU at h;simp at h;exact h
theorem aQw {p:Prop}(h:p:=by
 refine⟨?_,fun h=>?_⟩
 ·rw[Bool.eq_iff_iff];simp only[beq_iff_eq,Bool.and_eq_true,decide_eq_true_eq,decide_eq_decide];omega
 ·simp only[Bool.and_eq_true,decide_eq_true_eq]at h;simp only;omega):p:=h
theorem aFg {a b:Int}(ha:aM a) (hb:aM b):(iX a b).2=cU (a+b)/\(cU (a+b)=true->(iX a b).1=a+b):=by
 unfold aM at ha hb;unfold iX cU wrap64;exact aQw
theorem aJo {a b:Int}(ha:aM a) (hb:aM b):(lU a b).2=cU (a-b)/\(cU (a-b)=true->(lU a b).1=a-b):=by
 unfold aM at ha hb;unfold lU cU wrap64;exact aQw
theorem uB (a b:Int):(gM a b).2=cU (a*b)/\(cU (a*b)=true->(gM a b).1=lF a b):=by
 refine⟨rfl,fun h=>?_⟩;have h1:=(aQy (a:=a) (b:=b) h).1;have h2:=aJz h;unfold aM at h2;rw[h1];unfold lF;split
 ·next h0=>rcases h0 with h|h<;>subst h<;>simp
 ·split
  ·first|rfl|rw[if_pos h2]
  ·unfold wrap64;omega
theorem aDt {b:Bool}{x z:Int}(h:b=true) (k:x=z):x=orO b z:=by rw[h,k];rfl
theorem aEa {x1 x2 y1 y2:Int}{b1 b2:Bool}(h1:b1=true->x1=y1) (h2:b2=true->x2=y2):gK [x1,x2] (b1&&b2)=gK [y1,y2] (b1&&b2):=by
 cases b1<;>cases b2<;>first|rfl|rw[h1 rfl,h2 rfl]
theorem aQc {a b:aB}(i1:aM a.lo) (i2:aM a.hi) (i3:aM b.lo) (i4:aM b.hi) (h:dH a b=false):aS 3 a b=(gK [if cU (a.lo+b.lo)then a.lo+b.lo else 0,if cU (a.hi+b.hi)then a.hi+b.hi else 0] (cU (a.lo+b.lo)&&cU (a.hi+b.hi)),true):=by
 show(uH a b,true)=_;have e1:=aFg i1 i3;have e2:=aFg i2 i4;rw[yS a b h,e1.1,e2.1,aEa (fun h=>aDt h (e1.2 h)) (fun h=>aDt h (e2.2 h))]
theorem aRa {a b:aB}(i1:aM a.lo) (i2:aM a.hi) (i3:aM b.lo) (i4:aM b.hi) (h:dH a b=false):aS 4 a b=(gK [if cU (a.lo-b.hi)then a.lo-b.hi else 0,if cU (a.hi-b.lo)then a.hi-b.lo else 0] (cU (a.lo-b.hi)&&cU (a.hi-b.lo)),true):=by
 show(uF a b,true)=_;have e1:=aJo i1 i4;have e2:=aJo i2 i3;rw[aAa a b h,e1.1,e2.1,aEa (fun h=>aDt h (e1.2 h)) (fun h=>aDt h (e2.2 h))]
theorem aQr {a b:aB}(h:dH a b=false):aS 5 a b=(gK [lF a.lo b.lo,lF a.lo b.hi,lF a.hi b.lo,lF a.hi b.hi] (((cU (a.lo*b.lo)&&cU (a.lo*b.hi))&&cU (a.hi*b.lo))&&cU (a.hi*b.hi)),true):=by
 show(rX a b,true)=_;have e1:=uB a.lo b.lo;have e2:=uB a.lo b.hi;have e3:=uB a.hi b.lo;have e4:=uB a.hi b.hi;rw[yM a b h];unfold fM;simp only[List.map_cons,List.map_nil,List.all_cons,List.all_nil,Bool.and_true,e1.1,e2.1,e3.1,e4.1];congr 1;rw[<-Bool.and_assoc,<-Bool.and_assoc];cases h1:cU (a.lo*b.lo)<;>cases h2:cU (a.lo*b.hi)<;>cases h3:cU (a.hi*b.lo)<;>cases h4:cU (a.hi*b.hi)<;>first|rfl|rw[e1.2 h1,e2.2 h2,e3.2 h3,e4.2 h4]
theorem aQo {op:Int}{a b:aB}(h3:3<=op) (h5:op<=5) (h:dH a b=true):aS op a b=(⟨(opR op a.lo b.lo).getD 0,(opR op a.lo b.lo).getD 0⟩,true):=by
 rcases(show op=3\/op=4\/op=5 by omega)with rfl|rfl|rfl
 ·show(uH a b,true)=_;rw[aF7 a b h];rfl
 ·show(uF a b,true)=_;rw[aF2 a b h];rfl
 ·show(rX a b,true)=_;rw[aE7 a b h];rfl
theorem aNk {w:World}{k:Nat}{x y:Int}{all:Bool}(h:aF w k [.int .i64 x,.int .i64 y]):Calls Tryz.prog 98 #[.slice (some ⟨k,0,none⟩) 2 2,.bool all] w fun e w'=>e=.returned (.agg #[.int .i64 (gK [x,y] all).lo,.int .i64 (gK [x,y] all).hi])/\Below w.heap.size w w':=by
 refine wD k 0 2 2 [x,y] all w h.1 rfl dc dc fun i hi=>?_;rw[Nat.zero_add];rcases(show i=0\/i=1 by omega)with rfl|rfl
 ·exact h.2.1 0 _ rfl
 ·exact h.2.1 1 _ rfl
theorem aU1 {w:World}{k:Nat}{x y z u:Int}{all:Bool}(h:aF w k [.int .i64 x,.int .i64 y,.int .i64 z,.int .i64 u]):Calls Tryz.prog 98 #[.slice (some ⟨k,0,none⟩) 4 4,.bool all] w fun e w'=>e=.returned (.agg #[.int .i64 (gK [x,y,z,u] all).lo,.int .i64 (gK [x,y,z,u] all).hi])/\Below w.heap.size w w':=by
 refine wD k 0 4 4 [x,y,z,u] all w h.1 rfl dc dc fun i hi=>?_;rw[Nat.zero_add];rcases(show i=0\/i=1\/i=2\/i=3 by omega)with rfl|rfl|rfl|rfl
 ·exact h.2.1 0 _ rfl
 ·exact h.2.1 1 _ rfl
 ·exact h.2.1 2 _ rfl
 ·exact h.2.1 3 _ rfl
theorem qJ (a:aB) (w:World) (h:a.lo<=a.hi):Calls Tryz.prog 31 #[.agg #[.int .i64 a.lo,.int .i64 a.hi]] w fun e w'=>e=.returned (.bool false)/\Below w.heap.size w w':=by
 have:=iQ a w;rw[show dU a=false by unfold dU;simp;omega]at this;exact this
theorem aPk {p:Prop}(h:p:=by
 have g1:(lo==hi)=false:=by simpa using d1
 rw[decide_eq_false d1]at e;clear d1;subst e;go_wp2;go_meet;exact⟨rfl,rfl⟩):p:=h
theorem aNp {p:Prop}(h:p:=by
 have g2:(lo2==hi2)=false:=by simpa using d2
 rw[decide_eq_true d1,decide_eq_false d2]at e;clear d1 d2;subst e;go_wp2;go_meet;exact⟨rfl,rfl⟩):p:=h
theorem aUq {p:Prop}(h:p:=by
 have e:=HZZ.out;by_cases d1:lo2=0
 ·by_cases d2:hi2=0
  ·rw[decide_eq_true d1,decide_eq_true d2]at e;have g1:(lo2==0)=true:=by simpa using d1
   have g2:(hi2==0)=true:=by simpa using d2
   subst e;clear d1 d2;go_wp2;go_meet;exact⟨rfl,rfl⟩
  ·rw[decide_eq_true d1,decide_eq_false d2]at e;have g1:(lo2==0)=true:=by simpa using d1
   have g2:(hi2==0)=false:=by simpa using d2
   subst e;clear d1 d2;go_wp2;go_meet;exact⟨rfl,rfl⟩
 ·rw[decide_eq_false d1]at e;have g1:(lo2==0)=false:=by simpa using d1
  subst e;clear d1;go_wp2;go_meet;exact⟨rfl,rfl⟩):p:=h
theorem aU0 (op:Int) (a b:aB) (w:World) (h3:3<=op) (h9:op<=5) (ha:a.lo<=a.hi) (hb:b.lo<=b.hi) (i1:aM a.lo) (i2:aM a.hi) (i3:aM b.lo) (i4:aM b.hi):Calls Tryz.prog 62 #[.int .i64 op,aJ a,aJ b] w fun e w'=>e=.returned (.tuple #[aJ (aS op a b).1,.bool (aS op a b).2])/\Below w.heap.size w w':=by
 have HA:=qd (fun w=>qJ a w ha);have HB:=qd (fun w=>qJ b w hb);have HO:=qd (fun w=>aJt op a.lo b.lo w h3 oz i1 i3);have HPT:=qd (fun h=>aQo (a:=a) (b:=b) h3 h);have hcol:dH a b=(decide (a.lo=a.hi)&&decide (b.lo=b.hi)):=rfl;have h10:(op==10)=false:=by simp;omega
 have H3:=qd (aQc i1 i2 i3 i4);have H4:=qd (aRa i1 i2 i3 i4);have H5:=qd (aQr (a:=a) (b:=b));have HS1:=qd (fun w=>qE a.lo b.lo w i1 i3 (cU (a.lo+b.lo)) rfl);have HS2:=qd (fun w=>qE a.hi b.hi w i2 i4 (cU (a.hi+b.hi)) rfl);have HL1:=qd (fun w=>mA a.lo b.hi w i1 i4 (cU (a.lo-b.hi)) rfl);have HL2:=qd (fun w=>mA a.hi b.lo w i2 i3 (cU (a.hi-b.lo)) rfl);have HM1:=qd (fun w=>fP a.lo b.lo w i1 i3 (cU (a.lo*b.lo)) rfl);have HM2:=qd (fun w=>fP a.lo b.hi w i1 i4 (cU (a.lo*b.hi)) rfl);have HM3:=qd (fun w=>fP a.hi b.lo w i2 i3 (cU (a.hi*b.lo)) rfl);have HM4:=qd (fun w=>fP a.hi b.hi w i2 i4 (cU (a.hi*b.hi)) rfl);have HQ:=qd (fun h w=>aBt a b w ha i1 hb h);have HR:=qd (fun h w=>yT a b w i3 i4 hb h);have HMe:=qd (qZ a b);have HT:=qd sQ;have H6:Hid (aS 6 a b=if mC b cO then(cO,false)else(fA a b,true)):=qd rfl;have H7:Hid (aS 7 a b=if mC b cO then(cO,false)else(mS a b,true)):=qd rfl;have H8:Hid (aS 8 a b=(eT (decide (a.hi<b.lo)) (decide (b.hi<=a.lo)),true)):=qd rfl;have H9:Hid (aS 9 a b=(eT (mC a b&&decide (a.lo=a.hi)) (!(cZ a b).2),true)):=qd rfl;have HZ:Hid (mC b cO=(decide (b.lo=0)&&decide (b.hi=0))):=qd rfl;have HE:Hid (mC a b=(decide (a.lo=b.lo)&&decide (a.hi=b.hi))):=qd rfl;obtain⟨zz,hzz⟩:∃ v,mC b cO=v:=⟨_,rfl⟩
 obtain⟨pp,hpp⟩:∃ v,(dH a b&&decide (op<=5))=v:=⟨_,rfl⟩
 rw[hzz]at H6 H7 HZ;have HPP:=qd hpp;have HZZ:=qd HZ.out;have HCOL:=qd hcol;clear hzz hpp hcol HZ ha hb i1 i2 i3 i4;generalize cU (a.lo+b.lo)=f1 at *;generalize cU (a.hi+b.hi)=f2 at *;generalize cU (a.lo-b.hi)=f3 at *;generalize cU (a.hi-b.lo)=f4 at *;generalize cU (a.lo*b.lo)=f5 at *;generalize cU (a.lo*b.hi)=f6 at *;generalize cU (a.hi*b.lo)=f7 at *;generalize cU (a.hi*b.hi)=f8 at *;generalize lF a.lo b.lo=p5 at *;generalize lF a.lo b.hi=p6 at *;generalize lF a.hi b.lo=p7 at *;generalize lF a.hi b.hi=p8 at *;generalize dH a b=pt at *;generalize mC a b=eq at *;generalize hD:fA a b=D at *;generalize mS a b=L at *;generalize hMQ:cZ a b=MQ at *;clear hD hMQ;obtain⟨⟨⟨rl,rh⟩,rb⟩,hR⟩:∃ q,aS op a b=q:=⟨_,rfl⟩
 rw[hR]at HPT ⊢;have HRR:=qd hR;clear hR;obtain⟨lo,hi⟩:=a;obtain⟨lo2,hi2⟩:=b;obtain⟨dl,dh⟩:=D;obtain⟨ll,lh⟩:=L;obtain⟨⟨ml,mh⟩,mb⟩:=MQ;unfold aJ at HQ HR HMe HT ⊢;dsimp only at *;go_enter Tryz.func62,Tryz.ntmps62;go_upto_region 1 with(fail)
 generalize hW:World.alloc _ _=W;obtain⟨hbW,o1,o2,o3,hz⟩:=iP hW;have q1:=aD o1;have O1:=qd o1;have O2:=qd o2;have O3:=qd o3;clear hW o1 o2 o3;go_upto_region 7 with(first|(go_at_call 31;first|(refine(HA.out _).mono ?_;rintro e w1 ⟨rfl,hb1⟩;have q2:=aD (O2.out.below hb1);have hbx:=hbW.trans (hb1.mono hbW.size);clear HA)|(refine(HB.out _).mono ?_;rintro e w2 ⟨rfl,hb2⟩;have hby:=hbx.trans (hb2.mono hbx.size);clear HB))|fail)
 have P1:=qd ((O1.out.below hb1).below hb2);have P2:=qd ((O2.out.below hb1).below hb2);have P3:=qd ((O3.out.below hb1).below hb2);clear q1 q2 O1 O2 O3 hb1 hb2 hbx hbW;have r1:=aD P1.out;have r2:=aD P2.out;have r3:=aD P3.out;have s3:=cQ P3.out;go_cut [8] (fun v wc=>v=.bool zz/\wc=w2)
 case first =>
  exact aUq
 case rest =>
  obtain⟨rfl,h⟩:=hcut;have h':=h.symm;subst h';clear h;go_upto_region 8 with(fail)
  go_cut [80] (fun v wc=>v=.bool pp/\wc=w2)
  case first =>
   have e:=HPP.out;rw[HCOL.out]at e;by_cases d1:lo=hi
   ·have g1:(lo==hi)=true:=by simpa using d1
    by_cases d2:lo2=hi2
    ·have g2:(lo2==hi2)=true:=by simpa using d2
     rw[decide_eq_true d1,decide_eq_true d2]at e;clear d1 d2;rcases(show op=3\/op=4\/op=5 by omega)with rfl|rfl|rfl
     all_goals(subst e;go_wp2;go_meet;exact⟨rfl,rfl⟩)
    ·exact aNp
   ·exact aPk
  case rest =>
   obtain⟨rfl,h⟩:=hcut;have h':=h.symm;subst h';clear h;cases pp;rotate_left
   as_aux_lemma =>
    have hp:=HPP.out;rw[Bool.and_eq_true,decide_eq_true_eq]at hp;have e:=HPT.out hp.2 hp.1;generalize (opR op lo lo2).getD 0=nn at *;cases e;clear hp;go_wp2_with (first|(go_at_call 42;refine(HO.out _).mono ?_;intro e w9 hO9;obtain⟨rfl,h9'⟩:=hO9;have h8':=h9'.symm;subst h8')|fail)
    try rw[Exit.noGoto_ret]
    refine bV (by rfl) (by rfl) (by rfl) ((P3.out.set 0 _ si).set 1 _ si) si ⟨rfl,?_⟩;exact(hby.setCell (p:=⟨w.heap.size+1+1,0,none⟩) iA _).setCell (p:=⟨w.heap.size+1+1,1,none⟩) iA _
   rcases(show op=3\/op=4\/op=5 by omega)with rfl|rfl|rfl
   all_goals clear h3 h9 h10 HO HPT
   as_aux_lemma =>
    have hpt:pt=false:=by have:=HPP.out;simpa using this
    have e:=HRR.out.symm.trans (H3.out hpt);clear H3 H4 H5;generalize (if f1=true then lo+lo2 else 0)=s1 at *;generalize (if f2=true then hi+hi2 else 0)=s2 at *;have e1:rl=_:=congrArg (fun q:aB×Bool=>q.1.lo) e;have e2:rh=_:=congrArg (fun q:aB×Bool=>q.1.hi) e;have e3:rb=_:=congrArg (fun q:aB×Bool=>q.2) e;subst e1 e2 e3;clear e;cases f1
    all_goals(
     go_wp2_with fail;refine(HS1.out _).mono ?_;intro e w9 hO9;obtain⟨rfl,h9'⟩:=hO9;have h8':=h9'.symm;subst h8';go_wp2_with fail;refine(HS2.out _).mono ?_;intro e w9 hO9;obtain⟨rfl,h9'⟩:=hO9;have h8':=h9'.symm;subst h8';go_wp2_with fail)
    all_goals(refine(aNk (aF.new' _ [.int .i64 s1,.int .i64 s2] _ _ rfl)).mono ?_;rintro e w5 ⟨rfl,hb5⟩;have t3:=(P3.out.alloc _).below hb5;have u3:=aD t3;have v3:=cQ t3;have hz5:=hb5.size;have hbv:Below w.heap.size w w5:=hby.trans ((eN.trans (hb5.mono si)).mono hby.size))
    all_goals go_wp2
    all_goals(
     try rw[Exit.noGoto_ret]
     refine bV (by rfl) (by rfl) (by rfl) ((t3.set 0 _ si).set 1 _ si) si ⟨rfl,?_⟩;exact(hbv.setCell (p:=⟨w.heap.size+1+1,0,none⟩) iA _).setCell (p:=⟨w.heap.size+1+1,1,none⟩) iA _)
   as_aux_lemma =>
    have hpt:pt=false:=by have:=HPP.out;simpa using this
    have e:=HRR.out.symm.trans (H4.out hpt);clear H3 H4 H5;generalize (if f3=true then lo-hi2 else 0)=s1 at *;generalize (if f4=true then hi-lo2 else 0)=s2 at *;have e1:rl=_:=congrArg (fun q:aB×Bool=>q.1.lo) e;have e2:rh=_:=congrArg (fun q:aB×Bool=>q.1.hi) e;have e3:rb=_:=congrArg (fun q:aB×Bool=>q.2) e;subst e1 e2 e3;clear e;cases f3
    all_goals(
     go_wp2_with fail;refine(HL1.out _).mono ?_;intro e w9 hO9;obtain⟨rfl,h9'⟩:=hO9;have h8':=h9'.symm;subst h8';go_wp2_with fail;refine(HL2.out _).mono ?_;intro e w9 hO9;obtain⟨rfl,h9'⟩:=hO9;have h8':=h9'.symm;subst h8';go_wp2_with fail)
    all_goals(refine(aNk (aF.new' _ [.int .i64 s1,.int .i64 s2] _ _ rfl)).mono ?_;rintro e w5 ⟨rfl,hb5⟩;have t3:=(P3.out.alloc _).below hb5;have u3:=aD t3;have v3:=cQ t3;have hz5:=hb5.size;have hbv:Below w.heap.size w w5:=hby.trans ((eN.trans (hb5.mono si)).mono hby.size))
    all_goals go_wp2
    all_goals(
     try rw[Exit.noGoto_ret]
     refine bV (by rfl) (by rfl) (by rfl) ((t3.set 0 _ si).set 1 _ si) si ⟨rfl,?_⟩;exact(hbv.setCell (p:=⟨w.heap.size+1+1,0,none⟩) iA _).setCell (p:=⟨w.heap.size+1+1,1,none⟩) iA _)
   as_aux_lemma =>
    have hpt:pt=false:=by have:=HPP.out;simpa using this
    have e:=HRR.out.symm.trans (H5.out hpt);clear H3 H4 H5;have e1:rl=_:=congrArg (fun q:aB×Bool=>q.1.lo) e;have e2:rh=_:=congrArg (fun q:aB×Bool=>q.1.hi) e;have e3:rb=_:=congrArg (fun q:aB×Bool=>q.2) e;subst e1 e2 e3;clear e;clear r1 r2 r3 s3;have r1:=aD P1.out;have r2:=aD P2.out;go_wp2_with fail;refine(HM1.out _).mono ?_;rintro e wm ⟨rfl,hbm⟩;have P1':=qd (P1.out.below hbm);have P2':=qd (P2.out.below hbm);have P3':=qd (P3.out.below hbm);have hby':=hby.trans (hbm.mono hby.size);clear r1 r2 P1 P2 P3 hby hbm;obtain⟨w2,rfl⟩:∃ w2:World,w2=wm:=⟨_,rfl⟩
    have P1:=P1';have P2:=P2';have P3:=P3';have hby:=hby';clear P1' P2' P3' hby';have r1:=aD P1.out;have r2:=aD P2.out;go_wp2_with fail;refine(HM2.out _).mono ?_;rintro e wm ⟨rfl,hbm⟩;have P1':=qd (P1.out.below hbm);have P2':=qd (P2.out.below hbm);have P3':=qd (P3.out.below hbm);have hby':=hby.trans (hbm.mono hby.size);clear r1 r2 P1 P2 P3 hby hbm;obtain⟨w2,rfl⟩:∃ w2:World,w2=wm:=⟨_,rfl⟩
    have P1:=P1';have P2:=P2';have P3:=P3';have hby:=hby';clear P1' P2' P3' hby';have r1:=aD P1.out;have r2:=aD P2.out;go_wp2_with fail;refine(HM3.out _).mono ?_;rintro e wm ⟨rfl,hbm⟩;have P1':=qd (P1.out.below hbm);have P2':=qd (P2.out.below hbm);have P3':=qd (P3.out.below hbm);have hby':=hby.trans (hbm.mono hby.size);clear r1 r2 P1 P2 P3 hby hbm;obtain⟨w2,rfl⟩:∃ w2:World,w2=wm:=⟨_,rfl⟩
    have P1:=P1';have P2:=P2';have P3:=P3';have hby:=hby';clear P1' P2' P3' hby';have r1:=aD P1.out;have r2:=aD P2.out;go_wp2_with fail;refine(HM4.out _).mono ?_;rintro e wm ⟨rfl,hbm⟩;have P1':=qd (P1.out.below hbm);have P2':=qd (P2.out.below hbm);have P3':=qd (P3.out.below hbm);have hby':=hby.trans (hbm.mono hby.size);clear r1 r2 P1 P2 P3 hby hbm;obtain⟨w2,rfl⟩:∃ w2:World,w2=wm:=⟨_,rfl⟩
    have P1:=P1';have P2:=P2';have P3:=P3';have hby:=hby';clear P1' P2' P3' hby';have r1:=aD P1.out;have r2:=aD P2.out;cases f5;rotate_left;cases f6;rotate_left;cases f7
    all_goals go_wp2_with fail
    all_goals(refine(aU1 (aF.new' _ [.int .i64 p5,.int .i64 p6,.int .i64 p7,.int .i64 p8] _ _ rfl)).mono ?_;rintro e w5 ⟨rfl,hb5⟩;have t3:=(P3.out.alloc _).below hb5;have u3:=aD t3;have v3:=cQ t3;have hz5:=hb5.size;have hbv:Below w.heap.size w w5:=hby.trans ((eN.trans (hb5.mono si)).mono hby.size))
    all_goals go_wp2
    all_goals(
     try rw[Exit.noGoto_ret]
     refine bV (by rfl) (by rfl) (by rfl) ((t3.set 0 _ si).set 1 _ si) si ⟨rfl,?_⟩;exact(hbv.setCell (p:=⟨w.heap.size+1+1,0,none⟩) iA _).setCell (p:=⟨w.heap.size+1+1,1,none⟩) iA _)
theorem aJd {p:Prop}(h:p:=by
 go_wp2_with fail;generalize hWq:World.alloc _ _=Wq;have hbq:Below w.heap.size w Wq:=by rw[<-hWq];exact hbv.alloc hbv.size _
 have t4:=t3.alloc (.cells #[.int .i64 ml,.int .i64 mh] 47);rw[hWq]at t4;clear hWq u1 u2 u3 v3 t3;refine(HT.out _ _ _).mono ?_;rintro e w6 ⟨rfl,hb6⟩;have t5:=t4.below hb6;have u5:=aD t5;have v5:=cQ t5;have hz6:=hb6.size;have hbx:Below w.heap.size w w6:=hbq.trans (hb6.mono hbq.size);go_wp2
 try rw[Exit.noGoto_ret]
 refine bV (by rfl) (by rfl) (by rfl) ((t5.set 0 _ si).set 1 _ si) si ⟨rfl,?_⟩;exact(hbx.setCell (p:=⟨w.heap.size+1+1,0,none⟩) (by show _<=w.heap.size+1+1;omega) _).setCell (p:=⟨w.heap.size+1+1,1,none⟩) (by show _<=w.heap.size+1+1;omega) _):p:=h
theorem aQ2 {p:Prop}(h:p:=by
 rw[if_pos rfl]at e;have e1:rl=_:=congrArg (fun q:aB×Bool=>q.1.lo) e;have e2:rh=_:=congrArg (fun q:aB×Bool=>q.1.hi) e;have e3:rb=_:=congrArg (fun q:aB×Bool=>q.2) e;subst e1 e2 e3;clear e;go_wp2
 all_goals(
  try rw[Exit.noGoto_ret]
  refine bV (by rfl) (by rfl) (by rfl) ((P3.out.set 0 _ si).set 1 _ si) si ⟨rfl,?_⟩;exact(hby.setCell (p:=⟨w.heap.size+1+1,0,none⟩) iA _).setCell (p:=⟨w.heap.size+1+1,1,none⟩) iA _)):p:=h
theorem aNm {p:Prop}(h:p:=by
 rintro e w5 ⟨rfl,hb5⟩;have t3:=P3.out.below hb5;have u3:=aD t3;have v3:=cQ t3;have hz5:=hb5.size;have hbv:Below w.heap.size w w5:=hby.trans (hb5.mono hby.size);go_wp2
 all_goals(
  try rw[Exit.noGoto_ret]
  refine bV (by rfl) (by rfl) (by rfl) ((t3.set 0 _ si).set 1 _ si) si ⟨rfl,?_⟩;exact(hbv.setCell (p:=⟨w.heap.size+1+1,0,none⟩) iA _).setCell (p:=⟨w.heap.size+1+1,1,none⟩) iA _)):p:=h
theorem aVl (op:Int) (a b:aB) (w:World) (h3:6<=op) (h9:op<=9) (ha:a.lo<=a.hi) (hb:b.lo<=b.hi) (i1:aM a.lo) (i2:aM a.hi) (i3:aM b.lo) (i4:aM b.hi):Calls Tryz.prog 62 #[.int .i64 op,aJ a,aJ b] w fun e w'=>e=.returned (.tuple #[aJ (aS op a b).1,.bool (aS op a b).2])/\Below w.heap.size w w':=by
 have HA:=qd (fun w=>qJ a w ha);have HB:=qd (fun w=>qJ b w hb);have HO:=qd (fun w=>aJt op a.lo b.lo w oz oz i1 i3);have hcol:dH a b=(decide (a.lo=a.hi)&&decide (b.lo=b.hi)):=rfl;have h10:(op==10)=false:=by simp;omega
 have H3:=qd (aQc i1 i2 i3 i4);have H4:=qd (aRa i1 i2 i3 i4);have H5:=qd (aQr (a:=a) (b:=b));have HS1:=qd (fun w=>qE a.lo b.lo w i1 i3 (cU (a.lo+b.lo)) rfl);have HS2:=qd (fun w=>qE a.hi b.hi w i2 i4 (cU (a.hi+b.hi)) rfl);have HL1:=qd (fun w=>mA a.lo b.hi w i1 i4 (cU (a.lo-b.hi)) rfl);have HL2:=qd (fun w=>mA a.hi b.lo w i2 i3 (cU (a.hi-b.lo)) rfl);have HM1:=qd (fun w=>fP a.lo b.lo w i1 i3 (cU (a.lo*b.lo)) rfl);have HM2:=qd (fun w=>fP a.lo b.hi w i1 i4 (cU (a.lo*b.hi)) rfl);have HM3:=qd (fun w=>fP a.hi b.lo w i2 i3 (cU (a.hi*b.lo)) rfl);have HM4:=qd (fun w=>fP a.hi b.hi w i2 i4 (cU (a.hi*b.hi)) rfl);have HQ:=qd (fun h w=>aBt a b w ha i1 hb h);have HR:=qd (fun h w=>yT a b w i3 i4 hb h);have HMe:=qd (qZ a b);have HT:=qd sQ;have H6:Hid (aS 6 a b=if mC b cO then(cO,false)else(fA a b,true)):=qd rfl;have H7:Hid (aS 7 a b=if mC b cO then(cO,false)else(mS a b,true)):=qd rfl;have H8:Hid (aS 8 a b=(eT (decide (a.hi<b.lo)) (decide (b.hi<=a.lo)),true)):=qd rfl;have H9:Hid (aS 9 a b=(eT (mC a b&&decide (a.lo=a.hi)) (!(cZ a b).2),true)):=qd rfl;have HZ:Hid (mC b cO=(decide (b.lo=0)&&decide (b.hi=0))):=qd rfl;have HE:Hid (mC a b=(decide (a.lo=b.lo)&&decide (a.hi=b.hi))):=qd rfl;obtain⟨zz,hzz⟩:∃ v,mC b cO=v:=⟨_,rfl⟩
 obtain⟨pp,hpp⟩:∃ v,(dH a b&&decide (op<=5))=v:=⟨_,rfl⟩
 rw[hzz]at H6 H7 HZ;have HPP:=qd hpp;have HZZ:=qd HZ.out;have HCOL:=qd hcol;clear hzz hpp hcol HZ ha hb i1 i2 i3 i4;generalize cU (a.lo+b.lo)=f1 at *;generalize cU (a.hi+b.hi)=f2 at *;generalize cU (a.lo-b.hi)=f3 at *;generalize cU (a.hi-b.lo)=f4 at *;generalize cU (a.lo*b.lo)=f5 at *;generalize cU (a.lo*b.hi)=f6 at *;generalize cU (a.hi*b.lo)=f7 at *;generalize cU (a.hi*b.hi)=f8 at *;generalize lF a.lo b.lo=p5 at *;generalize lF a.lo b.hi=p6 at *;generalize lF a.hi b.lo=p7 at *;generalize lF a.hi b.hi=p8 at *;generalize dH a b=pt at *;generalize mC a b=eq at *;generalize hD:fA a b=D at *;generalize mS a b=L at *;generalize hMQ:cZ a b=MQ at *;clear hD hMQ;obtain⟨⟨⟨rl,rh⟩,rb⟩,hR⟩:∃ q,aS op a b=q:=⟨_,rfl⟩
 rw[hR];have HRR:=qd hR;clear hR;obtain⟨lo,hi⟩:=a;obtain⟨lo2,hi2⟩:=b;obtain⟨dl,dh⟩:=D;obtain⟨ll,lh⟩:=L;obtain⟨⟨ml,mh⟩,mb⟩:=MQ;unfold aJ at HQ HR HMe HT ⊢;dsimp only at *;go_enter Tryz.func62,Tryz.ntmps62;go_upto_region 1 with(fail)
 generalize hW:World.alloc _ _=W;obtain⟨hbW,o1,o2,o3,hz⟩:=iP hW;have q1:=aD o1;have O1:=qd o1;have O2:=qd o2;have O3:=qd o3;clear hW o1 o2 o3;go_upto_region 7 with(first|(go_at_call 31;first|(refine(HA.out _).mono ?_;rintro e w1 ⟨rfl,hb1⟩;have q2:=aD (O2.out.below hb1);have hbx:=hbW.trans (hb1.mono hbW.size);clear HA)|(refine(HB.out _).mono ?_;rintro e w2 ⟨rfl,hb2⟩;have hby:=hbx.trans (hb2.mono hbx.size);clear HB))|fail)
 have P1:=qd ((O1.out.below hb1).below hb2);have P2:=qd ((O2.out.below hb1).below hb2);have P3:=qd ((O3.out.below hb1).below hb2);clear q1 q2 O1 O2 O3 hb1 hb2 hbx hbW;have r1:=aD P1.out;have r2:=aD P2.out;have r3:=aD P3.out;have s3:=cQ P3.out;go_cut [8] (fun v wc=>v=.bool zz/\wc=w2)
 case first =>
  exact aUq
 case rest =>
  obtain⟨rfl,h⟩:=hcut;have h':=h.symm;subst h';clear h;go_upto_region 8 with(fail)
  go_cut [80] (fun v wc=>v=.bool pp/\wc=w2)
  case first =>
   have e:=HPP.out;rw[HCOL.out]at e;by_cases d1:lo=hi
   ·have g1:(lo==hi)=true:=by simpa using d1
    by_cases d2:lo2=hi2
    ·have g2:(lo2==hi2)=true:=by simpa using d2
     rw[decide_eq_true d1,decide_eq_true d2]at e;clear d1 d2;have g3:(op==3)=false:=by simp;omega
     have g4:(op==4)=false:=by simp;omega
     have g5:(op==5)=false:=by simp;omega
     rw[decide_eq_false (show ¬op<=5 by omega)]at e;subst e;go_wp2;go_meet;exact⟨rfl,rfl⟩
    ·exact aNp
   ·exact aPk
  case rest =>
   obtain⟨rfl,h⟩:=hcut;have h':=h.symm;subst h';clear h;cases pp;rotate_left
   as_aux_lemma =>
    have hp:=HPP.out;rw[Bool.and_eq_true,decide_eq_true_eq]at hp;omega
   rcases(show op=6\/op=7\/op=8\/op=9 by omega)with rfl|rfl|rfl|rfl
   all_goals clear h3 h9 h10 HO
   as_aux_lemma =>
    have e:=HRR.out.symm.trans H6.out;clear H3 H4 H5 HPP;cases zz
    as_aux_lemma =>
     have HNZ:Hid (¬(lo2=0/\hi2=0)):=qd fun h=>by have:=HZZ.out;simp[h.1,h.2]at this
     clear HZZ;rw[if_neg (by simp)]at e;have e1:rl=_:=congrArg (fun q:aB×Bool=>q.1.lo) e;have e2:rh=_:=congrArg (fun q:aB×Bool=>q.1.hi) e;have e3:rb=_:=congrArg (fun q:aB×Bool=>q.2) e;subst e1 e2 e3;clear e;go_wp2_with fail;refine(HQ.out HNZ.out _).mono ?_;exact aNm
    as_aux_lemma =>
     exact aQ2
   as_aux_lemma =>
    have e:=HRR.out.symm.trans H7.out;clear H3 H4 H5 HPP;cases zz
    as_aux_lemma =>
     have HNZ:Hid (¬(lo2=0/\hi2=0)):=qd fun h=>by have:=HZZ.out;simp[h.1,h.2]at this
     clear HZZ;rw[if_neg (by simp)]at e;have e1:rl=_:=congrArg (fun q:aB×Bool=>q.1.lo) e;have e2:rh=_:=congrArg (fun q:aB×Bool=>q.1.hi) e;have e3:rb=_:=congrArg (fun q:aB×Bool=>q.2) e;subst e1 e2 e3;clear e;go_wp2_with fail;refine(HR.out HNZ.out _).mono ?_;exact aNm
    as_aux_lemma =>
     exact aQ2
   as_aux_lemma =>
    have e:=HRR.out.symm.trans H8.out;clear H3 H4 H5 HPP;have e1:rl=_:=congrArg (fun q:aB×Bool=>q.1.lo) e;have e2:rh=_:=congrArg (fun q:aB×Bool=>q.1.hi) e;have e3:rb=_:=congrArg (fun q:aB×Bool=>q.2) e;subst e1 e2 e3;clear e;have G1:(hi<lo2)=(decide (hi<lo2)=true):=si
    have G2:(hi2<=lo)=(decide (hi2<=lo)=true):=si
    generalize decide (hi<lo2)=c1 at *;generalize decide (hi2<=lo)=c2 at *
    all_goals(
     go_wp2_with fail;refine(HT.out _ _ _).mono ?_;rintro e w5 ⟨rfl,hb5⟩;have t3:=P3.out.below hb5;have u3:=aD t3;have v3:=cQ t3;have hz5:=hb5.size;have hbv:Below w.heap.size w w5:=hby.trans (hb5.mono hby.size);go_wp2)
    all_goals(
     try rw[Exit.noGoto_ret]
     refine bV (by rfl) (by rfl) (by rfl) ((t3.set 0 _ si).set 1 _ si) si ⟨rfl,?_⟩;exact(hbv.setCell (p:=⟨w.heap.size+1+1,0,none⟩) iA _).setCell (p:=⟨w.heap.size+1+1,1,none⟩) iA _)
   as_aux_lemma =>
    have e:=HRR.out.symm.trans H9.out;obtain⟨eb,heb⟩:∃ v,(eq&&decide (lo=hi))=v:=⟨_,rfl⟩
    rw[heb]at e;have HEB:=qd heb;clear heb;clear H3 H4 H5 HPP;have e1:rl=_:=congrArg (fun q:aB×Bool=>q.1.lo) e;have e2:rh=_:=congrArg (fun q:aB×Bool=>q.1.hi) e;have e3:rb=_:=congrArg (fun q:aB×Bool=>q.2) e;subst e1 e2 e3;clear e;have HEE:=qd HE.out;clear HE;go_wp2_with fail;refine(HMe.out _).mono ?_;rintro e w5 ⟨rfl,hb5⟩;have t3:=P3.out.below hb5;have u3:=aD t3;have v3:=cQ t3;have u1:=aD (P1.out.below hb5);have u2:=aD (P2.out.below hb5);have hz5:=hb5.size;have hbv:Below w.heap.size w w5:=hby.trans (hb5.mono hby.size);have heb:=HEB.out;rw[HEE.out]at heb;clear HEE HEB;by_cases d1:lo=hi
    ·have g1:(lo==hi)=true:=by simpa using d1
     by_cases d2:lo2=hi2
     ·have g2:(lo2==hi2)=true:=by simpa using d2
      by_cases d3:lo=lo2
      ·have g3:(lo==lo2)=true:=by simpa using d3
       have h1:eb=true:=by rw[<-heb];simp;omega
       subst h1;clear d1 d2 d3 heb;exact aJd
      ·have g3:(lo==lo2)=false:=by simpa using d3
       have h1:eb=false:=by rw[<-heb];simp[d3]
       subst h1;clear d1 d2 d3 heb;exact aJd
     ·have g2:(lo2==hi2)=false:=by simpa using d2
      have h1:eb=false:=by rw[<-heb];simp;omega
      subst h1;clear d1 d2 heb;exact aJd
    ·have g1:(lo==hi)=false:=by simpa using d1
     have h1:eb=false:=by rw[<-heb];simp[d1]
     subst h1;clear d1 heb;exact aJd
theorem aSx (op:Int) (a b:aB) (w:World) (h3:3<=op) (h9:op<=9) (ha:a.lo<=a.hi) (hb:b.lo<=b.hi) (i1:aM a.lo) (i2:aM a.hi) (i3:aM b.lo) (i4:aM b.hi):Calls Tryz.prog 62 #[.int .i64 op,aJ a,aJ b] w fun e w'=>e=.returned (.tuple #[aJ (aS op a b).1,.bool (aS op a b).2])/\Below w.heap.size w w':=by
 by_cases h:op<=5
 ·exact aU0 op a b w h3 h ha hb i1 i2 i3 i4
 ·exact aVl op a b w oz h9 ha hb i1 i2 i3 i4
end Go.Proofs.YteebpnbdihcfmaaGreatDoor
