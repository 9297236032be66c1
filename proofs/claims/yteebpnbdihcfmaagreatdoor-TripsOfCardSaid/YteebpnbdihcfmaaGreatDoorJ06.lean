/- Package span; Maps keyed by int; append([]T{}; The library's sort of; R9 -/
import Derived.Test.YteebpnbdihcfmaaGreatDoorJ02
import Derived.Maps.OwnSet
import Derived.Maps.RangeWalk
import Derived.Deep.AppendSrc
import Derived.Shelf.Sort.Plain
import Derived.Sort.OwnSortedInts
import Derived.Shelf.Small.Bits
import Derived.Test.YteebpnbdihcfmaaGreatDoorJ03
import Derived.OwnWalk
set_option linter.unusedVariables false
set_option linter.unusedSimpArgs false
set_option maxRecDepth 100000
set_option maxHeartbeats 20000000
namespace Go.Proofs.YteebpnbdihcfmaaGreatDoor
open Go.RowKit
theorem aEs {p:Prop}(h:p:=by
 go_enter Tryz.func85,Tryz.ntmps85;go_wp2_with (first|(go_at_call 55;refine(HA.out _).mono ?_;rintro e w1 ⟨rfl,hb1⟩;clear HA;have o1:aF w1 w.heap.size [_,_]:=aK;have o2:aF w1 (w.heap.size+1) [_,_]:=aK;have o3:aF w1 (w.heap.size+1+1) [_,_]:=aK;have q1:=aD o1;have q2:=aD o2;have hbz:Below w.heap.size w w1:=bel)|(go_at_call 55;refine(HB.out _).mono ?_;rintro e w2 ⟨rfl,hb2⟩;clear HB;have p1:=o1.below hb2;have p2:=o2.below hb2;have p3:=o3.below hb2;have r1:=aD p1;have r2:=aD p2;have r3:=aD p3;have s3:=cQ p3;have hby:Below w.heap.size w w2:=bel;clear hb2 hb1 hbz o1 o2 o3 q1 q2)|fail)
 refine(HX.out _).mono ?_;rintro e w5 ⟨rfl,hb5⟩;have t3:=p3.below hb5;have u3:=aD t3;have v3:=cQ t3;have hz5:=hb5.size;go_wp2;refine bV (by rfl) (by rfl) (by rfl) aK si ?_;exact⟨rfl,bel⟩):p:=h
theorem aMz {p:Prop}(h:p:=by
 rw[hd];clear hd HX;unfold aJ cO at *;obtain⟨lo,hi⟩:=a;obtain⟨lo2,hi2⟩:=b;dsimp only at *;obtain⟨rfl,rfl⟩:=hz;by_cases hl:lo=hi
 ·subst hl;exact aU5
 ·exact aU5):p:=h
theorem aO3 {p:Prop}(h:p:=by
 clear hd;obtain⟨rlo,rhi⟩:=R;unfold aJ at *;obtain⟨lo,hi⟩:=a;obtain⟨lo2,hi2⟩:=b;dsimp only at *;by_cases hl:lo=hi
 ·subst hl;by_cases hk:lo2=hi2
  ·subst hk;have hz2:¬lo2=0:=oz
   exact aEs
  ·by_cases hz2:lo2=0
   ·subst hz2;have hz3:¬hi2=0:=oz
    exact aEs
   ·exact aEs
 ·by_cases hz2:lo2=0
  ·subst hz2;have hz3:¬hi2=0:=oz
   exact aEs
  ·exact aEs):p:=h
theorem aSp (a b:aB) (w:World) (ha:a.lo<=a.hi) (hb:b.lo<=b.hi):Calls Tryz.prog 85 #[.int .i64 6,aJ a,aJ b] w fun e w'=>e=.returned (.tuple #[aJ (aS 6 a b).1,.bool (aS 6 a b).2])/\Below w.heap.size w w':=by
 have HA:=qd (fun w=>eM a w ha);have HB:=qd (fun w=>eM b w hb);have HX:=qd (fun w hz=>aCm a b w hb hz);by_cases hz:b.lo=0/\b.hi=0
 ·have hd:aS 6 a b=(cO,false):=by unfold aS;rw[show mC b cO=true by simp[mC,cO,hz.1,hz.2]];rfl
  exact aMz
 ·have hd:aS 6 a b=(fA a b,true):=by unfold aS;rw[show mC b cO=false by unfold mC cO;by_cases h0:b.lo=0<;>simp_all];rfl
  rw[hd];replace HX:=qd (fun w=>HX.out w hz);dsimp only;generalize fA a b=R at *;exact aO3
theorem aTa (a b:aB) (w:World) (ha:a.lo<=a.hi) (hb:b.lo<=b.hi) (h1:aM b.lo) (h2:aM b.hi):Calls Tryz.prog 85 #[.int .i64 7,aJ a,aJ b] w fun e w'=>e=.returned (.tuple #[aJ (aS 7 a b).1,.bool (aS 7 a b).2])/\Below w.heap.size w w':=by
 have HA:=qd (fun w=>eM a w ha);have HB:=qd (fun w=>eM b w hb);have HX:=qd (fun w (hz:¬(b.lo=0/\b.hi=0))=>aL5 a b w h1 h2);by_cases hz:b.lo=0/\b.hi=0
 ·have hd:aS 7 a b=(cO,false):=by unfold aS;rw[show mC b cO=true by simp[mC,cO,hz.1,hz.2]];rfl
  exact aMz
 ·have hd:aS 7 a b=(mS a b,true):=by unfold aS;rw[show mC b cO=false by unfold mC cO;by_cases h0:b.lo=0<;>simp_all];rfl
  rw[hd];replace HX:=qd (fun w=>HX.out w hz);dsimp only;generalize mS a b=R at *;exact aO3
theorem aQh (y n:Bool) (w:World):Calls Tryz.prog 113 #[.bool y,.bool n] w fun e w'=>e=.returned (.agg #[.int .i64 (eT y n).lo,.int .i64 (eT y n).hi])/\Below w.heap.size w w':=zM y n w
theorem aNz (a b:aB) (w:World) (ha:a.lo<=a.hi) (hb:b.lo<=b.hi):Calls Tryz.prog 85 #[.int .i64 8,aJ a,aJ b] w fun e w'=>e=.returned (.tuple #[aJ (eT (decide (a.hi<b.lo)) (decide (b.hi<=a.lo))),.bool true])/\Below w.heap.size w w':=by
 have HA:=qd (fun w=>eM a w ha);have HB:=qd (fun w=>eM b w hb);have HX:=qd (fun w=>aQh (decide (a.hi<b.lo)) (decide (b.hi<=a.lo)) w);generalize eT (decide (a.hi<b.lo)) (decide (b.hi<=a.lo))=R at *;unfold aJ at *;obtain⟨rlo,rhi⟩:=R;obtain⟨lo,hi⟩:=a;obtain⟨lo2,hi2⟩:=b;dsimp only at *;by_cases hl:lo=hi
 ·subst hl;by_cases hk:lo2=hi2
  ·subst hk;exact aEs
  ·exact aEs
 ·skip
  ·exact aEs
theorem aJf (y y' n:Bool) (w:World) (h:y'=y):Calls Tryz.prog 113 #[.bool y',.bool n] w fun e w'=>e=.returned (.agg #[.int .i64 (eT y n).lo,.int .i64 (eT y n).hi])/\Below w.heap.size w w':=by
 subst h;exact zM y' n w
theorem aO4 {p:Prop}(h:p:=by
 go_enter Tryz.func85,Tryz.ntmps85;go_wp2_with (first|(go_at_call 55;refine(HA.out _).mono ?_;rintro e w1 ⟨rfl,hb1⟩;clear HA;have o1:aF w1 w.heap.size [_,_]:=aK;have o2:aF w1 (w.heap.size+1) [_,_]:=aK;have o3:aF w1 (w.heap.size+1+1) [_,_]:=aK;have q1:=aD o1;have q2:=aD o2;have hbz:Below w.heap.size w w1:=bel)|(go_at_call 55;refine(HB.out _).mono ?_;rintro e w2 ⟨rfl,hb2⟩;clear HB;have p1:=o1.below hb2;have p2:=o2.below hb2;have p3:=o3.below hb2;have r1:=aD p1;have r2:=aD p2;have r3:=aD p3;have s3:=cQ p3;have hby:Below w.heap.size w w2:=bel;clear hb2 hb1 hbz o1 o2 o3 q1 q2)|fail)
 refine bI 6 kr kr (fun T F hF hall=>?_);simp only[TD];have hFc:=fun t=>(bT (hF t)).1;have hFf:=fun t=>(bT (hF t)).2;have hFs:=fun t=>(hF t).size;have hNE:Nonempty T:=(hall _ (Below.refl _ _)).elim fun t _=>⟨t⟩;repeat(refine aU (fun K hK=>?_);go_simp;refine hK _ ?_;clear hK K)
 (refine aU (fun K hK=>?_);go_simp;refine⟨_,fun t=>bE (hF t) hall (HH.out (F t)),hK _ ?_⟩;clear hK K)
 repeat(refine aU (fun K hK=>?_);go_simp;refine hK _ ?_;clear hK K)
 refine gX (fun t=>?_);have hft:=hF t;obtain⟨W2,hW2⟩:∃ W2,W2=F t:=⟨_,rfl⟩;rw[<-hW2]at hft ⊢;clear hW2 hF hall hFc hFf hFs hNE;have hcf:=bT hft;have hzf:=hft.size;have hbx:Below w.heap.size w W2:=hby.trans (hft.mono hby.size);have t1:=p1.below hft;replace p3:=p3.below hft;have u1:=aD t1;have u3:=aD p3;have s4:=cQ p3;clear p1 p2 r1 r2 r3 s3 hcf;go_wp2_with (first|(go_at_call 113;refine(HX.out _ _ (by grind)).mono ?_;rintro e w5 ⟨rfl,hb5⟩;have t3:=p3.below hb5;have u3:=aD t3;have v3:=cQ t3;have hz5:=hb5.size)|fail)
 refine bV (by rfl) (by rfl) (by rfl) aK si ?_;exact⟨rfl,bel⟩):p:=h
theorem aS6 (a b:aB) (w:World) (ha:a.lo<=a.hi) (hb:b.lo<=b.hi):Calls Tryz.prog 85 #[.int .i64 10,aJ a,aJ b] w fun e w'=>e=.returned (.tuple #[aJ (eT (mC a cO) (!iJ a 0)),.bool true])/\Below w.heap.size w w':=by
 have HA:=qd (fun w=>eM a w ha);have HB:=qd (fun w=>eM b w hb);have HX:=qd (fun y' w h=>aJf (mC a cO) y' (!iJ a 0) w h);have HH:=qd (fun w=>aJq a 0 (iJ a 0) w rfl);generalize eT (mC a cO) (!iJ a 0)=R at *;generalize iJ a 0=hv at *;unfold mC cO at *;unfold aJ at *;obtain⟨rlo,rhi⟩:=R;obtain⟨lo,hi⟩:=a;obtain⟨lo2,hi2⟩:=b;dsimp only at *;by_cases h0:lo=0
 ·subst h0;by_cases h1:hi=0
  ·subst h1;by_cases hk:lo2=hi2
   ·subst hk;exact aO4
   ·skip
    exact aO4
  ·have hl:¬0=hi:=fun h=>h1 h.symm;go_enter Tryz.func85,Tryz.ntmps85;go_wp2_with (first|(go_at_call 55;refine(HA.out _).mono ?_;rintro e w1 ⟨rfl,hb1⟩;clear HA;have o1:aF w1 w.heap.size [_,_]:=aK;have o2:aF w1 (w.heap.size+1) [_,_]:=aK;have o3:aF w1 (w.heap.size+1+1) [_,_]:=aK;have q1:=aD o1;have q2:=aD o2;have hbz:Below w.heap.size w w1:=bel)|(go_at_call 55;refine(HB.out _).mono ?_;rintro e w2 ⟨rfl,hb2⟩;clear HB;have p1:=o1.below hb2;have p2:=o2.below hb2;have p3:=o3.below hb2;have r1:=aD p1;have r2:=aD p2;have r3:=aD p3;have s3:=cQ p3;have hby:Below w.heap.size w w2:=bel;clear hb2 hb1 hbz o1 o2 o3 q1 q2)|fail)
   refine bI 6 kr kr (fun T F hF hall=>?_);simp only[TD];have hFc:=fun t=>(bT (hF t)).1;have hFf:=fun t=>(bT (hF t)).2;have hFs:=fun t=>(hF t).size;have hNE:Nonempty T:=(hall _ (Below.refl _ _)).elim fun t _=>⟨t⟩;repeat(refine aU (fun K hK=>?_);go_simp;refine hK _ ?_;clear hK K)
   (refine aU (fun K hK=>?_);go_simp;refine⟨_,fun t=>bE (hF t) hall (HH.out (F t)),hK _ ?_⟩;clear hK K)
   repeat(refine aU (fun K hK=>?_);go_simp;refine hK _ ?_;clear hK K)
   refine gX (fun t=>?_);have hft:=hF t;obtain⟨W2,hW2⟩:∃ W2,W2=F t:=⟨_,rfl⟩;rw[<-hW2]at hft ⊢;clear hW2 hF hall hFc hFf hFs hNE;have hcf:=bT hft;have hzf:=hft.size;have hbx:Below w.heap.size w W2:=hby.trans (hft.mono hby.size);have t1:=p1.below hft;replace p3:=p3.below hft;have u1:=aD t1;have u3:=aD p3;have s4:=cQ p3;clear p1 p2 r1 r2 r3 s3 hcf;go_wp2_with (first|(go_at_call 113;refine(HX.out _ _ (by grind)).mono ?_;rintro e w5 ⟨rfl,hb5⟩;have t3:=p3.below hb5;have u3:=aD t3;have v3:=cQ t3;have hz5:=hb5.size)|fail)
   refine bV (by rfl) (by rfl) (by rfl) aK si ?_;exact⟨rfl,bel⟩
 ·by_cases hl:lo=hi
  ·subst hl;by_cases hk:lo2=hi2
   ·subst hk;exact aO4
   ·skip
    exact aO4
  ·skip
   exact aO4
theorem aG1 {p:Prop}(h:p:=by
 go_enter Tryz.func85,Tryz.ntmps85;go_wp2_with (first|(go_at_call 55;refine(HA.out _).mono ?_;rintro e w1 ⟨rfl,hb1⟩;clear HA;have o1:aF w1 w.heap.size [_,_]:=aK;have o2:aF w1 (w.heap.size+1) [_,_]:=aK;have o3:aF w1 (w.heap.size+1+1) [_,_]:=aK;have q1:=aD o1;have q2:=aD o2;have hbz:Below w.heap.size w w1:=bel)|(go_at_call 55;refine(HB.out _).mono ?_;rintro e w2 ⟨rfl,hb2⟩;clear HB;have p1:=o1.below hb2;have p2:=o2.below hb2;have p3:=o3.below hb2;have r1:=aD p1;have r2:=aD p2;have r3:=aD p3;have s3:=cQ p3;have hby:Below w.heap.size w w2:=bel;clear hb2 hb1 hbz o1 o2 o3 q1 q2)|fail)
 refine(HM.out _).mono ?_;rintro e w4 ⟨rfl,hb4⟩;have hbx:Below w.heap.size w w4:=hby.trans (hb4.mono hby.size);have t1:=p1.below hb4;have t2:=p2.below hb4;replace p3:=p3.below hb4;have u1:=aD t1;have u2:=aD t2;have u3:=aD p3;have hz4:=hb4.size;clear p1 p2 r1 r2 r3 s3;go_wp2_with (first|(go_at_call 113;refine(HX.out _ _ (by grind)).mono ?_;rintro e w5 ⟨rfl,hb5⟩;have t3:=(p3.alloc _).below hb5;have u3:=aD t3;have v3:=cQ t3;have hz5:=hb5.size)|fail)
 refine bV (by rfl) (by rfl) (by rfl) aK si ?_;exact⟨rfl,bel⟩):p:=h
theorem aL4 (a b:aB) (w:World) (ha:a.lo<=a.hi) (hb:b.lo<=b.hi):Calls Tryz.prog 85 #[.int .i64 9,aJ a,aJ b] w fun e w'=>e=.returned (.tuple #[aJ (eT (mC a b&&decide (a.lo=a.hi)) (!(cZ a b).2)),.bool true])/\Below w.heap.size w w':=by
 have HA:=qd (fun w=>eM a w ha);have HB:=qd (fun w=>eM b w hb);have HX:=qd (fun y' w h=>aJf (mC a b&&decide (a.lo=a.hi)) y' (!(cZ a b).2) w h);have HM:=qd (fun w=>aBe a b w);generalize eT (mC a b&&decide (a.lo=a.hi)) (!(cZ a b).2)=R at *;generalize cZ a b=M at *;unfold mC at *;unfold aJ at *;obtain⟨rlo,rhi⟩:=R;obtain⟨⟨mlo,mhi⟩,m⟩:=M;obtain⟨lo,hi⟩:=a;obtain⟨lo2,hi2⟩:=b;dsimp only at *;by_cases hl:lo=hi
 ·subst hl;by_cases hk:lo2=hi2
  ·subst hk;by_cases he:lo=lo2
   ·subst he;exact aG1
   ·skip
    exact aG1
  ·by_cases he:lo=lo2
   ·subst he;exact aG1
   ·skip
    exact aG1
 ·by_cases he:lo=lo2
  ·subst he;by_cases he2:hi=hi2
   ·subst he2;exact aG1
   ·skip
    exact aG1
  ·skip
   exact aG1
end Go.Proofs.YteebpnbdihcfmaaGreatDoor
namespace Go.Proofs.YteebpnbdihcfmaaGreatDoor
open Go.RowKit
open Go.Maps (Keyed)
def aGj (v:Value):Option (DataW Value×List MemPlace):=some (.held v,[])
theorem aFq {v u:Value}{ps:List MemPlace}(h:aGj v=some (.held u,ps)):v=u:=DataW.held.inj (Prod.mk.inj (Option.some.inj h)).1
def vC (i:Int):Lit:=.int .i64 i
def inI (i:Int):Prop := -9223372036854775808<=i/\i<=9223372036854775807
theorem oD:Keyed Tryz.prog 3:=Maps.int_keyed Tryz.underlying3
theorem aC4 {i:Int}(h:inI i):keyOf Tryz.prog 3 (.int .i64 i)=some (vC i):=Maps.keyOf_int_mk Tryz.underlying3 (WalkArith.wf_i64 h)
theorem aDd {i j:Int}(h:i≠j):vC i≠vC j:=fun e=>h (by unfold vC at e;injection e)
theorem aAu (i:Int):WideAt.IsKeyLit (vC i):=trivial
theorem aKw (i j:Int):(vC i).sameKey (vC j)=decide (i=j):=by
 by_cases h:i=j
 ·subst h;rw[WideAt.sameKey_self (aAu i)];simp
 ·rw[Maps.sameKey_ne (aDd h)];simp[h]
/-- what a datum says of a map -/
def aFa (D:DataW Value) (M:Int->Option Value):Prop:=∀ i,inI i->(∀ z,D.atKey (vC i) (.held z)=.held ((M i).getD z))/\Maps.has D (vC i)=(M i).isSome
/-- block b is a map of at most n entries that holds M -/
def bY (W:World) (b n:Nat) (M:Int->Option Value):Prop:=∃ D:DataW Value,W.ownsMap Tryz.prog 3 aGj b n D/\aFa D M
def tV (M:Int->Option Value) (i:Int) (v:Value):Int->Option Value:=fun k=>if k=i then some v else M k
theorem aFa.put {D:DataW Value}{M:Int->Option Value}(h:aFa D M) (hD:Maps.IsMap D) (i:Int) (v:Value):aFa (D.put (vC i) (.held v)) (tV M i v):=by
 intro k hk;by_cases e:k=i
 ·subst e;refine⟨fun z=>?_,?_⟩
  ·rw[Maps.atKey_put_same hD (aAu k)];simp[tV]
  ·rw[Maps.has_put_same hD (aAu k)];simp[tV]
 ·refine⟨fun z=>?_,?_⟩
  ·rw[Maps.atKey_put_other (aDd e),(h k hk).1 z];simp[tV,e]
  ·rw[Maps.has_put_other (aDd e),(h k hk).2];simp[tV,e]
section
variable {W W' : World} {b n : Nat} {M : Int -> Option Value} {t e : TypeId} {z : Value}
theorem bY.lt (h:bY W b n M):b<W.heap.size:=by obtain⟨D,h1,_⟩:=h;exact h1.lt
theorem bY.made (W:World):bY (W.alloc (.map #[] 0)) W.heap.size 0 (fun _=>none) :=
 ⟨.map [],World.ownsMap_made _ _ _ _,fun i _=>⟨fun z=>rfl,rfl⟩⟩
theorem bY.mono (h:bY W b n M) {m:Nat}(hm:n<=m):bY W b m M:=by obtain⟨D,h1,h2⟩:=h;exact⟨D,h1.mono hm,h2⟩
theorem bY.keep (h:bY W b n M) (hb:W'.heap[b]? = W.heap[b]?):bY W' b n M:=by
 obtain⟨D,⟨es,clock,h1,F,hs,hD⟩,h2⟩:=h;exact⟨D,⟨es,clock,hb.trans h1,F,hs,hD⟩,h2⟩
theorem bY.below (h:bY W b n M) (hb:Below W.heap.size W W'):bY W' b n M:=h.keep (hb.block b h.lt)
theorem bY.chg {S:Nat->Prop}(h:bY W b n M) (hc:aG S W W') (hs:¬S b):bY W' b n M:=h.keep (hc.block b h.lt hs)
theorem bY.get (h:bY W b n M) (ht:Tryz.prog.underlying t=some (.map 3 e)) (hz:∀ w,(zeroValue e).run Tryz.prog w=.ok z w) {i:Int}(hi:inI i) :
 (Instr.lookup t (.map (some b)) (.int .i64 i) false).run Tryz.prog W=.ok ((M i).getD z) W:=by
 obtain⟨D,h1,h2⟩:=h;obtain⟨v,ps,hr,hv⟩:=h1.lookup oD ht (hz W) (R:=aGj) (z:=z) (zd:=.held z) (zp:=[]) rfl (aC4 hi);rw[(h2 i hi).1 z]at hv;rw[hr,aFq hv]
theorem bY.getOk (h:bY W b n M) (ht:Tryz.prog.underlying t=some (.map 3 e)) (hz:∀ w,(zeroValue e).run Tryz.prog w=.ok z w) {i:Int}(hi:inI i) :
 (Instr.lookup t (.map (some b)) (.int .i64 i) true).run Tryz.prog W=.ok (.tuple #[(M i).getD z,.bool (M i).isSome]) W:=by
 obtain⟨D,h1,h2⟩:=h;obtain⟨v,ps,hr,hv⟩:=h1.look_ok oD ht (hz W) (R:=aGj) (z:=z) (zd:=.held z) (zp:=[]) rfl (aC4 hi);rw[(h2 i hi).1 z]at hv;rw[hr,aFq hv,(h2 i hi).2]
theorem bY.set (h:bY W b n M) (ht:Tryz.prog.underlying t=some (.map 3 e)) (hn:n<maxLen) {i:Int}(hi:inI i) (v:Value) :
 ∃ W',(Instr.mapUpdate t (.map (some b)) (.int .i64 i) v).run Tryz.prog W=.ok () W'/\bY W' b (n+1) (tV M i v)/\aG (· = b) W W':=by
 obtain⟨D,h1,h2⟩:=h;obtain⟨W',hr,h3,hg⟩:=h1.update (R:=aGj) oD ht hn (aC4 hi) (val:=v) (d:=.held v) (ps:=[]) rfl;exact⟨W',hr,⟨_,h3,h2.put h1.isMap i v⟩,(jT hg).mono (fun k _ e=>(Option.some.inj e).symm)⟩
theorem bY.uniq {n':Nat}{M':Int->Option Value}(h:bY W b n M) (h':bY W b n' M') {i:Int}(hi:inI i):M i=M' i:=by
 obtain⟨D,⟨es,clock,h1,F,hs,hD⟩,h2⟩:=h;obtain⟨D',⟨es',clock',h1',F',hs',hD'⟩,h2'⟩:=h';rw[h1]at h1';injection h1' with h1';injection h1' with e1 e2;subst e1;rw[<-hD]at hD';subst hD';have k1:=(h2 i hi).2;have k2:=(h2' i hi).2;have k3:=(h2 i hi).1 .nilFunc;rw[(h2' i hi).1 .nilFunc]at k3;injection k3 with k3;cases hm:M i with
 | none=>cases hm':M' i with
  | none=>rfl
  | some v=>rw[hm]at k1;rw[hm']at k2;rw[k1]at k2;cases k2
 | some v=>cases hm':M' i with
  | none=>rw[hm]at k1;rw[hm']at k2;rw[k1]at k2;cases k2
  | some v'=>rw[hm,hm']at k3;exact congrArg some k3.symm
/-- a range over a map under way: those of whom left says so are still to come -/
def fW (W:World) (b r n:Nat) (M:Int->Option Value) (left:Int->Bool) (cnt:Nat):Prop :=
 ∃ (D:DataW Value) (L:Lit->Bool),W.ranges Tryz.prog 3 aGj b r n D L cnt/\aFa D M/\(∀ i,inI i->L (vC i)=left i)/\(∀ i,¬inI i->left i=false)
theorem fW.owns {r cnt:Nat}{left:Int->Bool}(h:fW W b r n M left cnt):bY W b n M:=by obtain⟨D,L,h1,h2,_⟩:=h;exact⟨D,h1.owns,h2⟩
theorem fW.lt {r cnt:Nat}{left:Int->Bool}(h:fW W b r n M left cnt):r<W.heap.size/\r≠b:=by obtain⟨D,L,h1,h2,_⟩:=h;exact⟨h1.lt,h1.ne⟩
theorem fW.keep {r cnt:Nat}{left:Int->Bool}(h:fW W b r n M left cnt) (hb:W'.heap[b]? = W.heap[b]?) (hr:W'.heap[r]? = W.heap[r]?):fW W' b r n M left cnt:=by
 obtain⟨D,L,⟨es,clock,since,seen,c0,h1,F,hs,hD,h2,rest⟩,h3⟩:=h;exact⟨D,L,⟨es,clock,since,seen,c0,hb.trans h1,F,hs,hD,hr.trans h2,rest⟩,h3⟩
theorem bY.range (h:bY W b n M) (ht:Tryz.prog.underlying t=some (.map 3 e)) (hM:∀ i,¬inI i->M i=none) :
 ∃ W' cnt,(Instr.range t (.map (some b))).run Tryz.prog W=.ok (.pointer (some ⟨W.heap.size,0,none⟩)) W'/\fW W' b W.heap.size n M (fun i=>(M i).isSome) cnt/\Below W.heap.size W W'/\W'.heap.size=W.heap.size+1/\cnt<=n:=by
 obtain⟨D,h1,h2⟩:=h;obtain⟨W',hr,h3,hg,hs⟩:=h1.range oD ht;exact⟨W',_,hr,⟨D,_,h3,h2,fun i hi=>(h2 i hi).2,fun i hi=>by simp[hM i hi]⟩,⟨hg.os,hg.tape,hg.output,hg.size,fun k hk=>hg.block k hk si⟩,hs,h1.size_le⟩
theorem fW.next {r cnt:Nat}{left:Int->Bool}(h:fW W b r n M left cnt) (ty:TypeId) :
 ((∀ i,left i=false)/\(Instr.next (.pointer (some ⟨r,0,none⟩)) false ty).run Tryz.prog W=.ok (.tuple #[.bool false]) W) \/
 ∃ i v W' cnt',inI i/\left i=true/\M i=some v/\(Instr.next (.pointer (some ⟨r,0,none⟩)) false ty).run Tryz.prog W=.ok (.tuple #[.bool true,.int .i64 i,v]) W'/\fW W' b r n M (fun k=>left k&&decide (k≠i)) cnt'/\cnt'<cnt /\
  aG (· = r) W W'/\W'.heap.size=W.heap.size/\(Instr.entry (.pointer (some ⟨r,0,none⟩))).run Tryz.prog W'=.ok (.tuple #[.int .i64 i,v]) W':=by
 obtain⟨D,L,h1,h2,h3,h4⟩:=h;rcases h1.next oD ty with⟨_,hl,hr⟩|⟨key,v,kl,y,W',cnt',hk,hL,hy,hat,hr,hrg,hlt,hg,hsz,hen⟩
 ·refine .inl ⟨fun i=>?_,hr⟩;by_cases hi:inI i
  ·rw[<-h3 i hi];exact hl _
  ·exact h4 i hi
 ·obtain⟨i,rfl,rfl,hw⟩:=Maps.keyOf_int_inv Tryz.underlying3 hk;have hi:inI i:=by
   have:=hw;simp[Lit.wf,IntKind.min,IntKind.max,IntKind.signed,IntKind.bits]at this;unfold inI;omega
  unfold aGj at hy;injection hy with hy;subst hy;dsimp only at hat;have hM:M i=some v:=by
   have k1:=(h2 i hi).1;have k2:=(h2 i hi).2;have e1:∀ z,(M i).getD z=v:=fun z=>by
    have:=(k1 z).symm.trans (hat (.held z));injection this
   cases hm:M i with
   | none =>
    have q1:=e1 (.bool true);have q2:=e1 (.bool false);rw[hm]at q1 q2;have q3:Value.bool true=Value.bool false:=q1.trans q2.symm;cases q3
   | some u=>have:=e1 v;rw[hm]at this;simpa using this
  have hne:∀ k,inI k->(fun x=>L x && !x.sameKey (vC i)) (vC k)=(left k&&decide (k≠i)):=fun k hk=>by
   dsimp only;rw[h3 k hk,aKw];simp
  refine .inr ⟨i,v,W',cnt',hi,by rw[<-h3 i hi];exact hL,hM,hr,⟨D,_,hrg,h2,hne,fun k hk=>by simp[h4 k hk]⟩,hlt,(jT hg).mono (fun k _ e=>(Option.some.inj e).symm),hsz,hen⟩
end
end Go.Proofs.YteebpnbdihcfmaaGreatDoor
namespace Go.Proofs.YteebpnbdihcfmaaGreatDoor
open Go.RowKit
section
section
variable {P : Program} (w : World)
theorem xQ (t ty e:TypeId) (i:TypeInfo) (z:Value) (size bytes:Nat) (ht:P.underlying t=some (.slice e)) (hi:P.info? e=some i) (hz:i.zero=some z)
 (hsize:i.size=size) (hby:i.bytes=bytes) (hzs:z.cells.size=size) (hsz:0<size)
 (g:Nat) (hown:w.ownsRow 0 e size (.slice (some ⟨g,0,none⟩) 0 0) 0 [])
 (ta:Option Addr) (n c:Nat) (news:List Value) (hl:news.length=n*size) (hsrc:0<n->∃ b o,ta=some ⟨b,o,none⟩/\∀ j u,news[j]? = some u->w.cell? ⟨b,o+j,none⟩=some u) (h1:∀ u∈news,u.oneCell'=true)
 (h63:n<=maxLen) (hbytes:n*bytes<=140737488355328) :
 ∃ v' w',(Builtin.append_ #[t,t] ty #[.slice (some ⟨g,0,none⟩) 0 0,.slice ta n c]).run P w=.ok v' w'/\w'.ownsRow 0 e size v' n news/\Below w.heap.size w w'/\∃ b cap,v'=.slice (some ⟨b,0,none⟩) n cap/\(b=g\/b=w.heap.size):=by
 by_cases hn:n=0
 ·subst hn;have hnil:news=[]:=List.eq_nil_of_length_eq_zero (by simpa using hl);subst hnil;have hs:Src P i.size t (.slice ta 0 c) 0 [] w:=by
   cases ta with
   | none=>exact Src.ofNil w ht c
   | some a=>exact Src.ofSlice w ht a 0 c [] si (fun j u h=>by simp at h) (fun u h=>by cases h)
  have hr:=run_append_room_src (P:=P) w t t ty e i ht hi g 0 0 0 (.slice ta 0 c) 0 [] hs lr (fun j h=>absurd h (Nat.not_lt_zero j)) (fun j h=>absurd h (Nat.not_lt_zero j));have hw:w.setCells g (0+0*i.size) []=w:=by simp[World.setCells]
  rw[hw]at hr;exact⟨_,_,hr,hown,Below.refl _ _,g,0,rfl,.inl rfl⟩
 ·obtain⟨b,o,rfl,hc⟩:=hsrc oz;have hnews:∀ j u,news[j]? = some u->w.cell? ((⟨b,o,none⟩:Addr).add j)=some u:=fun j u h=>by
   have:=hc j u h;unfold Addr.add;split
   ·rename_i e;subst e;simpa using this
   ·exact this
  obtain⟨v',w',hr,h2,_,_⟩:=wV (P:=P) w t ty e i z size bytes ht hi hz hsize hby hzs hsz _ 0 [] hown ⟨b,o,none⟩ n c news hl hnews h1 oz (by simpa using hbytes);have hr2:=run_append_grow (P:=P) w t ty e i z ht hi hz ⟨g,0,none⟩ 0 0 [] si (fun j u h=>by simp at h) ⟨b,o,none⟩ n c news (by rw[hl,hsize]) hnews oz (by unfold maxLen at h63;omega) (growslice_fits oz (by rw[hby];simpa using hbytes));rw[hr2]at hr;cases hr;simp only[Nat.zero_add,List.nil_append]at h2 hr2;exact⟨_,_,by rw[hr2],h2,(Below.drew (Below.refl _ _)).alloc lr _,_,_,rfl,.inr rfl⟩
theorem gO {ops:Array Oper}{rest:List Oper}{o:Oper}{a:Act}{Q:Exit->Act->World->Prop}(hgd:o.guard=none) (s x:Operand) (t:TypeId)
 (ho:o.op=.call { callee:=.builtin .append,args:=#[s,x],argTypes:=#[t,t] })
 (e:TypeId) (i:TypeInfo) (z:Value) (size bytes:Nat) (ht:P.underlying t=some (.slice e)) (hi:P.info? e=some i) (hz:i.zero=some z)
 (hsize:i.size=size) (hby:i.bytes=bytes) (hzs:z.cells.size=size) (hsz:0<size)
 (g:Nat) (hs:a.eval s=.slice (some ⟨g,0,none⟩) 0 0) (hown:w.ownsRow 0 e size (.slice (some ⟨g,0,none⟩) 0 0) 0 [])
 (ta:Option Addr) (n c:Nat) (news:List Value) (hx:a.eval x=.slice ta n c) (hl:news.length=n*size) (hsrc:0<n->∃ b o,ta=some ⟨b,o,none⟩/\∀ j u,news[j]? = some u->w.cell? ⟨b,o+j,none⟩=some u) (h1:∀ u∈news,u.oneCell'=true)
 (h63:n<=maxLen) (hbytes:n*bytes<=140737488355328)
 (h:∀ b cap w',w'.ownsRow 0 e size (.slice (some ⟨b,0,none⟩) n cap) n news->Below w.heap.size w w'->(b=g\/b=w.heap.size)->wpList P ops Q rest (a.put o.dst (.slice (some ⟨b,0,none⟩) n cap)) w'):wpList P ops Q (o::rest) a w :=
 wpList_plain hgd fun _ hK=>by
  obtain⟨v',w',hr,h2,h3,b,cap,rfl,h4⟩:=xQ (P:=P) w t o.type e i z size bytes ht hi hz hsize hby hzs hsz g hown ta n c news hl hsrc h1 h63 hbytes;unfold Oper.wp execOp;simp only[ho,resolve,invoke,builtin,Sem.run_bind,Sem.run_pure,Result.andThen_ok,List.map_toArray,List.map_cons,List.map_nil,hs,hx,hr];exact hK _ _ (h b cap w' h2 h3 h4)
end
end
end Go.Proofs.YteebpnbdihcfmaaGreatDoor
namespace Go.Proofs.YteebpnbdihcfmaaGreatDoor
open Go.RowKit
open Go.Shelf Go.Sort
def Tryz.lays191_ren:Go.Shelf.Ren:=⟨fun|191=>93|189=>116|125=>123|257=>122|128=>133|129=>134|294=>124|295=>125|296=>126|297=>127|298=>128|299=>129|216=>130|300=>131|301=>132|328=>135|329=>136|330=>137|331=>138|332=>139|215=>140|343=>141|n=>n,fun|28=>50|0=>0|3=>3|46=>172|51=>181|53=>34|4=>4|183=>175|182=>174|131=>108|5=>5|9=>9|218=>183|222=>187|228=>189|229=>190|n=>n,fun|n=>n⟩
theorem Tryz.lays191:Go.Proofs.Lays.n191 Tryz.prog Tryz.lays191_ren:={
 mixed:=kr
 f125:=Tryz.func123.trans (congrArg some kr)
 f128:=Tryz.func133.trans (congrArg some kr)
 f129:=Tryz.func134.trans (congrArg some kr)
 f189:=Tryz.func116.trans (congrArg some kr)
 f191:=Tryz.func93.trans (congrArg some kr)
 f215:=Tryz.func140.trans (congrArg some kr)
 f216:=Tryz.func130.trans (congrArg some kr)
 f257:=Tryz.func122.trans (congrArg some kr)
 f294:=Tryz.func124.trans (congrArg some kr)
 f295:=Tryz.func125.trans (congrArg some kr)
 f296:=Tryz.func126.trans (congrArg some kr)
 f297:=Tryz.func127.trans (congrArg some kr)
 f298:=Tryz.func128.trans (congrArg some kr)
 f299:=Tryz.func129.trans (congrArg some kr)
 f300:=Tryz.func131.trans (congrArg some kr)
 f301:=Tryz.func132.trans (congrArg some kr)
 f328:=Tryz.func135.trans (congrArg some kr)
 f329:=Tryz.func136.trans (congrArg some kr)
 f330:=Tryz.func137.trans (congrArg some kr)
 f331:=Tryz.func138.trans (congrArg some kr)
 f332:=Tryz.func139.trans (congrArg some kr)
 f343:=Tryz.func141.trans (congrArg some kr)
 t0:=Tryz.underlying0
 a0:=Tryz.isAgg0
 z0:=Tryz.sizeOf0
 v0:=Tryz.zeroValue0
 t3:=Tryz.underlying3
 a3:=Tryz.isAgg3
 z3:=Tryz.sizeOf3
 v3:=Tryz.zeroValue3
 t4:=Tryz.underlying4
 a4:=Tryz.isAgg4
 z4:=Tryz.sizeOf4
 v4:=Tryz.zeroValue4
 t5:=Tryz.underlying5
 a5:=Tryz.isAgg5
 z5:=Tryz.sizeOf5
 v5:=Tryz.zeroValue5
 t9:=Tryz.underlying9
 a9:=Tryz.isAgg9
 z9:=Tryz.sizeOf9
 v9:=Tryz.zeroValue9
 t28:=Tryz.underlying50
 a28:=Tryz.isAgg50
 z28:=Tryz.sizeOf50
 v28:=Tryz.zeroValue50
 t46:=Tryz.underlying172
 a46:=Tryz.isAgg172
 z46:=Tryz.sizeOf172
 v46:=Tryz.zeroValue172
 t51:=Tryz.underlying181
 a51:=Tryz.isAgg181
 z51:=Tryz.sizeOf181
 v51:=Tryz.zeroValue181
 t53:=Tryz.underlying34
 a53:=Tryz.isAgg34
 z53:=Tryz.sizeOf34
 v53:=Tryz.zeroValue34
 t131:=Tryz.underlying108
 a131:=Tryz.isAgg108
 z131:=Tryz.sizeOf108
 v131:=Tryz.zeroValue108
 t182:=Tryz.underlying174
 a182:=Tryz.isAgg174
 z182:=Tryz.sizeOf174
 v182:=Tryz.zeroValue174
 t183:=Tryz.underlying175
 a183:=Tryz.isAgg175
 z183:=Tryz.sizeOf175
 v183:=Tryz.zeroValue175
 t218:=Tryz.underlying183
 a218:=Tryz.isAgg183
 z218:=Tryz.sizeOf183
 v218:=Tryz.zeroValue183
 t222:=Tryz.underlying187
 a222:=Tryz.isAgg187
 z222:=Tryz.sizeOf187
 v222:=Tryz.zeroValue187
 t228:=Tryz.underlying189
 a228:=Tryz.isAgg189
 z228:=Tryz.sizeOf189
 v228:=Tryz.zeroValue189
 t229:=Tryz.underlying190
 a229:=Tryz.isAgg190
 z229:=Tryz.sizeOf190
 v229:=Tryz.zeroValue190 }
def Tryz.lays125_ren:Go.Shelf.Ren:=⟨fun|125=>123|128=>133|129=>134|n=>n,fun|46=>172|3=>3|51=>181|53=>34|4=>4|5=>5|9=>9|n=>n,fun|n=>n⟩
theorem Tryz.lays125:Go.Proofs.Lays.n125 Tryz.prog Tryz.lays125_ren:={
 mixed:=kr
 f125:=Tryz.func123.trans (congrArg some kr)
 f128:=Tryz.func133.trans (congrArg some kr)
 f129:=Tryz.func134.trans (congrArg some kr)
 t3:=Tryz.underlying3
 a3:=Tryz.isAgg3
 z3:=Tryz.sizeOf3
 v3:=Tryz.zeroValue3
 t4:=Tryz.underlying4
 a4:=Tryz.isAgg4
 z4:=Tryz.sizeOf4
 v4:=Tryz.zeroValue4
 t5:=Tryz.underlying5
 a5:=Tryz.isAgg5
 z5:=Tryz.sizeOf5
 v5:=Tryz.zeroValue5
 t9:=Tryz.underlying9
 a9:=Tryz.isAgg9
 z9:=Tryz.sizeOf9
 v9:=Tryz.zeroValue9
 t46:=Tryz.underlying172
 a46:=Tryz.isAgg172
 z46:=Tryz.sizeOf172
 v46:=Tryz.zeroValue172
 t51:=Tryz.underlying181
 a51:=Tryz.isAgg181
 z51:=Tryz.sizeOf181
 v51:=Tryz.zeroValue181
 t53:=Tryz.underlying34
 a53:=Tryz.isAgg34
 z53:=Tryz.sizeOf34
 v53:=Tryz.zeroValue34 }
theorem aD7 (p:Option Addr) (cap:Nat) (w:World) :
 Calls Tryz.prog 124 #[.slice p 0 cap,.int .i64 0,.int .i64 0] w fun e w'=>e=.returned (.tuple #[])/\w'=w:=by
 go_enter Tryz.func124,Tryz.ntmps124;go_wp2;refine wp_loop_rounds 1 ?_;rw[rounds_succ];go_wp2
 go_end0
 exact⟨rfl,rfl⟩
theorem aFu (p:Option Addr) (cap:Nat) (w:World) :
 Calls Tryz.prog 122 #[.slice p 0 cap,.int .i64 0,.int .i64 0,.int .i64 0] w fun e w'=>e=.returned (.tuple #[])/\w'=w:=by
 go_enter Tryz.func122,Tryz.ntmps122;go_wp2;refine wp_loop_rounds 1 ?_;rw[rounds_succ];go_wp2_with (first|(go_at_call 124;refine(aD7 p cap _).mono ?_;rintro e w' ⟨rfl,rfl⟩))
 refine bodyPost_ret (results_none rfl _ _ _) rfl ?_;exact⟨rfl,rfl⟩
theorem aIz (p:Option Addr) (cap:Nat) (w:World) :
 Calls Tryz.prog 116 #[.slice p 0 cap] w fun e w'=>e=.returned (.tuple #[])/\w'=w:=by
 have hLen:∀ w,Calls Tryz.prog 123 #[.int .u64 0] w fun e w'=>e=.returned (.int .i64 0)/\w'=w:=fun w=>Any.bits_Len Tryz.lays125 0 w oz oz;go_enter Tryz.func116,Tryz.ntmps116;go_wp2_with (first
  | (go_at_call 123;refine(hLen _).mono ?_;rintro e w' ⟨rfl,rfl⟩)
  | (go_at_call 122;refine(aFu p cap _).mono ?_;rintro e w' ⟨rfl,rfl⟩))
 go_end0
 exact⟨rfl,rfl⟩
theorem aNg (p:Option Addr) (cap:Nat) (w:World) :
 Calls Tryz.prog 93 #[.slice p 0 cap] w fun e w'=>e=.returned (.tuple #[])/\w'=w:=by
 go_enter Tryz.func93,Tryz.ntmps93;go_wp2_with (first|(go_at_call 116;refine(aIz p cap _).mono ?_;rintro e w' ⟨rfl,rfl⟩))
 go_end0
 exact⟨rfl,rfl⟩
/-- sort.Ints of an own row -/
theorem aRk (v:Value) (l:List Int) (w:World) (hsz:l.length<4611686018427387904) (h:w.ownsRow 0 3 1 v l.length (aR l)) :
 Calls Tryz.prog 93 #[v] w fun e w'=>e=.returned (.tuple #[])/\w'.ownsRow 0 3 1 v l.length (aR (l.mergeSort fun x y=>decide (x<=y)))/\aG (fun k=>v.ownBlock=some k) w w':=by
 obtain⟨h1,h2⟩:=h;rcases h2 with⟨rfl,h0⟩|⟨g,cap,cur,rfl,hb,hh,q1,q2,q3,q4⟩
 ·have e:l=[]:=by simpa[aR]using h0
  subst e;refine(aNg none 0 w).mono ?_;rintro e w' ⟨rfl,rfl⟩;exact⟨rfl,by simpa[aR]using World.ownsRow_nil w' 0 3 1,aG.refl _ _⟩
 ·rw[Nat.mul_one]at q4;have hH:=holds_of_blockI (ss:=l) hh q4;refine(Any.sort_Ints Tryz.lays191 g 0 cap l w hH (Array.getElem?_eq_some_iff.1 hh).1 hsz).mono ?_;rintro e w' ⟨rfl,n,os,rfl⟩;have hl:(l.mergeSort fun x y=>decide (x<=y)).length=l.length:=List.length_mergeSort l;exact⟨rfl,ownsRow_sortedI hl (Nat.zero_le _) hh q1 q2 (by rw[q3]),jT (grownBy_sortedI _)⟩
end Go.Proofs.YteebpnbdihcfmaaGreatDoor
namespace Go.Proofs.YteebpnbdihcfmaaGreatDoor
open Go.RowKit
theorem aF.of_below {w w':World}{k B:Nat}{cs:List Value}(h:aF w k cs) (hb:Below B w w') (hk:k<B):aF w' k cs:=by
 have hl:=hb.block k hk;exact⟨Nat.lt_of_lt_of_le h.1 hb.size,fun i v hv=>by rw[World.cell?_of_block (w:=w) hl];exact h.2.1 i v hv,fun i=>by rw[World.frozen?_of_block (w:=w) hl];exact h.2.2 i⟩
theorem eK {S:Nat->Prop}{w w':World}(c:aG S w w') {e size g n cap:Nat}{xs:List Value}(h:w.ownsRow 0 e size (.slice (some ⟨g,0,none⟩) n cap) n xs) (hg:¬S g):w'.ownsRow 0 e size (.slice (some ⟨g,0,none⟩) n cap) n xs:=by
 obtain⟨h1,h2⟩:=h;refine⟨h1,?_⟩;rcases h2 with⟨h0,_⟩|⟨g',cap',cur,hv,hb,hh,rest⟩
 ·cases h0
 ·cases hv;exact .inr ⟨g,cap,cur,rfl,hb,by rw[c.block g (Array.getElem?_eq_some_iff.1 hh).1 hg];exact hh,rest⟩
theorem aNa {w:World}{k:Nat}{a b c d e:Value}(h:aF w k [a,b,c,d,e]) (x y z u v:Value) :
 aF (((((w.setCell ⟨k,0,none⟩ x).setCell ⟨k,1,none⟩ y).setCell ⟨k,2,none⟩ z).setCell ⟨k,3,none⟩ u).setCell ⟨k,4,none⟩ v) k [x,y,z,u,v] :=
 ((((h.set 0 x si).set 1 y si).set 2 z si).set 3 u si).set 4 v si
def pB (p:aB):List Value:=[.int .i64 p.lo,.int .i64 p.hi]
def aBb (x:dJ):List Value:=[.int .i64 x.op,.int .i64 x.a,.int .i64 x.b,.int .i64 x.c,.int .i64 x.n]
theorem aAi {α:Type}(f:α->List Value) (k:Nat) (hk:∀ a,(f a).length=k):∀ (l:List α) (j:Nat) (u:Value),(l.flatMap f)[j]? = some u->∃ i r,∃ hi:i<l.length,r<k/\j=i*k+r/\(f l[i])[r]? = some u
 | [],j,u,h=>by simp at h
 | a::l,j,u,h=>by
  rw[List.flatMap_cons]at h;by_cases hj:j<k
  ·rw[List.getElem?_append_left (by rw[hk];exact hj)]at h;exact⟨0,j,si,hj,si,h⟩
  ·rw[List.getElem?_append_right (by rw[hk];omega),hk]at h;obtain⟨i,r,hi,hr,e,hu⟩:=aAi f k hk l _ _ h;exact⟨i+1,r,by simp;omega,hr,by rw[Nat.add_mul];omega,by simpa using hu⟩
theorem tK {α:Type}(f:α->List Value) (k:Nat) (hk:∀ a,(f a).length=k):∀ (l:List α) (i r:Nat) (hi:i<l.length),r<k->(l.flatMap f)[i*k+r]? = (f l[i])[r]?
 | a::l,0,r,_,hr=>by
  rw[List.flatMap_cons,Nat.zero_mul,Nat.zero_add,List.getElem?_append_left (by rw[hk];exact hr)];rfl
 | a::l,i+1,r,hi,hr=>by
  rw[List.flatMap_cons,List.getElem?_append_right (by rw[hk,Nat.add_mul];omega),hk,show(i+1)*k+r-k=i*k+r by rw[Nat.add_mul];omega];have:=tK f k hk l i r (by simpa using hi) hr;simpa using this
theorem yR {α:Type}(f:α->List Value) (k:Nat) (hk:∀ a,(f a).length=k):∀ (l:List α),(l.flatMap f).length=l.length*k
 | []=>by simp
 | a::l=>by rw[List.flatMap_cons,List.length_append,hk,yR f k hk l,List.length_cons,Nat.add_mul];omega
theorem Tryz.info74:(Tryz.prog.info? 47).map (fun i=>(i.zero,i.size,i.bytes))=some (some (.agg #[.int .i64 0,.int .i64 0]),2,16):=kr
theorem Tryz.info47:(Tryz.prog.info? 55).map (fun i=>(i.zero,i.size,i.bytes))=some (some (.agg #[.int .i64 0,.int .i64 0,.int .i64 0,.int .i64 0,.int .i64 0]),5,40):=kr
theorem nC.src {B:Nat}{w w':World}{a:Option Addr}{n:Nat}{zs:List aB}(h:nC B w a n zs) (s:aQ B w w'):0<n->∃ b o,a=some ⟨b,o,none⟩/\∀ j u,(zs.flatMap pB)[j]? = some u->w'.cell? ⟨b,o+j,none⟩=some u:=by
 obtain⟨hl,_,b,o,hb,hc⟩:=h.same s;intro h0;refine⟨b,o,(hb h0).1,fun j u hu=>?_⟩;obtain⟨i,r,hi,hr,rfl,hu2⟩:=aAi pB 2 (fun _=>rfl) zs j u hu;obtain⟨c0,c1,_⟩:=hc i oz;have e:zs.getD i default=zs[i]:=nB zs i hi;rw[e]at c0 c1;rcases(show r=0\/r=1 by omega)with rfl|rfl
 ·simp only[pB,List.getElem?_cons_zero,Option.some.injEq]at hu2;rw[<-hu2,Nat.add_zero];exact c0
 ·simp only[pB,List.getElem?_cons_succ,List.getElem?_cons_zero,Option.some.injEq]at hu2;rw[<-hu2,<-Nat.add_assoc];exact c1
theorem sR.src {B:Nat}{w w':World}{a:Option Addr}{n:Nat}{zs:List dJ}(h:sR B w a n zs) (s:aQ B w w'):0<n->∃ b o,a=some ⟨b,o,none⟩/\∀ j u,(zs.flatMap aBb)[j]? = some u->w'.cell? ⟨b,o+j,none⟩=some u:=by
 obtain⟨hl,_,b,o,hb,hc⟩:=h.same s;intro h0;refine⟨b,o,(hb h0).1,fun j u hu=>?_⟩;obtain⟨i,r,hi,hr,rfl,hu2⟩:=aAi aBb 5 (fun _=>rfl) zs j u hu;obtain⟨⟨c0,c1,c2,c3,c4⟩,_⟩:=hc i oz;have e:zs.getD i default=zs[i]:=nB zs i hi;rw[e]at c0 c1 c2 c3 c4;rw[<-Nat.add_assoc];rcases(show r=0\/r=1\/r=2\/r=3\/r=4 by omega)with rfl|rfl|rfl|rfl|rfl
 all_goals
  simp only[aBb,List.getElem?_cons_succ,List.getElem?_cons_zero,Option.some.injEq]at hu2;rw[<-hu2];assumption
theorem oX {w:World}{e size k:Nat}(hk:k=w.heap.size):(w.alloc (.cells #[] e)).ownsRow 0 e size (.slice (some ⟨k,0,none⟩) 0 0) 0 []:=by
 subst hk;exact World.ownsRow_made (w:=w) #[] 0 (Nat.zero_le _) (Nat.zero_le _) si
def aUh (f:aC) (pb pcap cb ccap:Nat):Value:=.agg #[.string f.name,.slice (some ⟨pb,0,none⟩) f.params.length pcap,.int .i64 f.regs,.int .i64 f.words,.slice (some ⟨cb,0,none⟩) f.code.length ccap]
def aM4 (f:aC) (w:World) (e:Ending) (w':World):Prop:=∃ pb pcap cb ccap,e=.returned (aUh f pb pcap cb ccap)/\Below w.heap.size w w'/\w.heap.size<=pb/\w.heap.size<=cb/\pb≠cb /\
 w'.ownsRow 0 47 2 (.slice (some ⟨pb,0,none⟩) f.params.length pcap) f.params.length (f.params.flatMap pB)/\w'.ownsRow 0 55 5 (.slice (some ⟨cb,0,none⟩) f.code.length ccap) f.code.length (f.code.flatMap aBb)
/-- the end of CopyFunc -/
theorem aP5 (Q:Ending->World->Prop) (T:Array Value) (W:World) (k:Nat) (a b c d e:Value) (ho:aF W k [a,b,c,d,e]) (hT:T[2]? = some (.pointer (some ⟨k,0,none⟩)))
 (hq:Q (.returned (.agg #[a,b,c,d,e])) W):bodyPost Tryz.prog Tryz.f15 Q .ret { tmps:=T,defers:=[] } W:=by
 obtain⟨_,r0,r1,r2,r3,r4,_⟩:=aX ho;have hr:(results Tryz.f15 T).run Tryz.prog W=.ok (.agg #[a,b,c,d,e]) W:=by
  simp[results,Tryz.results15,go_sem,hT,r0,r1,r2,r3,r4]
 exact bodyPost_ret hr rfl hq
theorem aCs (B:Nat) (f:aC) (h:HF) (w:World) (hB:B<=w.heap.size) (ok:aZ B w h f) (l1:f.params.length*16<=140737488355328) (l2:f.code.length*40<=140737488355328) :
 Calls Tryz.prog 15 #[aI h f] w (aM4 f w):=by
 obtain⟨i0,hi,hz0,hz1,hz2⟩:=info_parts Tryz.info74;obtain⟨j0,gi,gz0,gz1,gz2⟩:=info_parts Tryz.info47;obtain⟨hnm,hs,hc,_,_⟩:=ok;have hsl:=hs.1;have hcl:=hc.1;obtain⟨pa,pl,pc,ca,cl,cc⟩:=h;dsimp only at *;subst hsl hcl;have HS:=qd hs;clear hs;have HC:=qd hc;clear hc;have hml:f.params.length<=maxLen:=by unfold maxLen;omega
 have hml2:f.code.length<=maxLen:=by unfold maxLen;omega
 unfold aI;dsimp only;go_enter Tryz.func15,Tryz.ntmps15;go_wp2_with (at_builtin;refine gO _ rfl (.tmp 3) (.tmp 5) 39 rfl 47 i0 _ 2 16 Tryz.underlying39 hi hz0 hz1 hz2 rfl dc (w.heap.size+1+1) rfl ?own pa f.params.length pc (f.params.flatMap pB) rfl ?c1 ?c2 ?c3 ?c4 ?c5 ?_)
 case own=>exact oX si
 case c1=>exact yR pB 2 (fun _=>rfl) _
 case c2=>exact HS.out.src aFv
 case c3=>intro u hu;obtain⟨p,_,hp⟩:=List.mem_flatMap.1 hu;simp[pB]at hp;rcases hp with rfl|rfl<;>rfl
 case c4=>exact hml
 case c5=>omega
 intro pb pcap w1 dG hb1 hpb;have hpb2:w.heap.size+2<=pb:=by rcases hpb with h|h<;>first|omega|(simp at h;omega)
 have hz1:w.heap.size+1+1<w1.heap.size:=by have:=hb1.size;simp at this;omega
 have hbw1:Below w.heap.size w w1:=bel;have hpl1:pb<w1.heap.size:=(dG.lt pb rfl).2;have eL:=((((aF.new w [.string f.name,.slice pa f.params.length pc,.int .i64 f.regs,.int .i64 f.words,.slice ca f.code.length cc] 42).alloc (.cells #[.string ⟨#[]⟩,.slice none 0 0,.int .i64 0,.int .i64 0,.slice none 0 0] 42)).alloc (.cells #[] 47)).of_below hb1 oz)
 have or1:=(((aF.new' (w.alloc (.cells #[.string f.name,.slice pa f.params.length pc,.int .i64 f.regs,.int .i64 f.words,.slice ca f.code.length cc] 42)) [.string ⟨#[]⟩,.slice none 0 0,.int .i64 0,.int .i64 0,.slice none 0 0] 42 (w.heap.size+1) si).alloc (.cells #[] 47)).of_below hb1 oz)
 have q1:=aX eL;have hq1:w.heap.size<w1.heap.size:=oz
 have OB1:=qd eL;clear eL;have OR1:=qd or1;clear or1;have P1:=qd dG;clear dG;go_wp2_with (at_builtin;refine gO _ rfl (.tmp 8) (.tmp 10) 40 rfl 55 j0 _ 5 40 Tryz.underlying40 gi gz0 gz1 gz2 rfl dc w1.heap.size rfl ?own ca f.code.length cc (f.code.flatMap aBb) rfl ?c1 ?c2 ?c3 ?c4 ?c5 ?_)
 case own=>exact oX si
 case c1=>exact yR aBb 5 (fun _=>rfl) _
 case c2=>exact HC.out.src aFv
 case c3=>intro u hu;obtain⟨p,_,hp⟩:=List.mem_flatMap.1 hu;simp[aBb]at hp;rcases hp with rfl|rfl|rfl|rfl|rfl<;>rfl
 case c4=>exact hml2
 case c5=>omega
 intro cb ccap w2 own2' hb2 hcb;have hcl2:cb<w2.heap.size:=(own2'.lt cb rfl).2;have hcb2:w1.heap.size<=cb:=by rcases hcb with h|h<;>first|omega|(simp at h;omega)
 have hz2:w1.heap.size<w2.heap.size:=by have:=hb2.size;simp at this;omega
 have P2:=qd (show w2.ownsRow 0 47 2 (.slice (some ⟨pb,0,none⟩) f.params.length pcap) f.params.length (f.params.flatMap pB)from
  eK (S:=fun k=>k=w.heap.size) (show aG (fun k=>k=w.heap.size) w1 w2 from
   (((aG.refl (fun k=>k=w.heap.size) w1).setCell (p:=⟨w.heap.size,1,none⟩) (.inl rfl) (.slice (some ⟨pb,0,none⟩) f.params.length pcap)).alloc (.cells #[] 55)).trans (aG.of (by simpa using hb2))) P1.out oz)
 have C2:=qd own2';clear own2';have ob2:=((OB1.out.set 1 (.slice (some ⟨pb,0,none⟩) f.params.length pcap) si).alloc (.cells #[] 55)).of_below hb2 oz;have or2:=((OR1.out.setOther (p:=⟨w.heap.size,1,none⟩) (.slice (some ⟨pb,0,none⟩) f.params.length pcap) si).alloc (.cells #[] 55)).of_below hb2 oz;have q2:=aX ob2;have qr2:=aX or2;have s2:=aV8 or2;have OB2:=qd ob2;clear ob2;have OR2:=qd or2;clear or2;go_wp2;refine aP5 _ _ _ (w.heap.size+1) _ _ _ _ _ (aNa (OR2.out.setOther (p:=⟨w.heap.size,4,none⟩) _ si) _ _ _ _ _) rfl ?_;generalize hW:World.setCell _ _ _=W;have kc:aG (fun k=>k=w.heap.size\/k=w.heap.size+1) w2 W:=by rw[<-hW];exact chq
 have hbw2:Below w.heap.size w w2:=bel;refine⟨pb,pcap,cb,ccap,rfl,hbw2.trans (kc.below w.heap.size oz (fun k hk e=>by omega)),oz,oz,oz,eK kc P2.out oz,eK kc C2.out oz⟩
end Go.Proofs.YteebpnbdihcfmaaGreatDoor
