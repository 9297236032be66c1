/- The plain forms of pac -/
import Derived.Test.YteebpnbdihcfmaaGreatDoorJ15
import Derived.Test.YteebpnbdihcfmaaGreatDoorJ11
set_option linter.unusedVariables false
set_option linter.unusedSimpArgs false
set_option maxRecDepth 100000
set_option maxHeartbeats 20000000
namespace Go.Proofs.YteebpnbdihcfmaaGreatDoor
open Go.RowKit
section
def rP:aB:=⟨1,0⟩
def tY (c:dJ) (lh:aB×aB) (r:List aB):aB×aB:=(cJ lh.1 (fI r c.a),cJ lh.2 (fI r c.b))
/-- an edge that enters a loop: what comes on it -/
def gB (m:bA) (f:aC) (inn:List (List aB)) (l:cE) (lh:aB×aB) (e:Nat×Int):aB×aB :=
 if e.2≠(l.head:Int)\/l.members.contains (e.1:Int)=true\/inn.getD e.1 []=[]then lh else
 match gP m f e.1 e.2 (inn.getD e.1 [])with
 | some out=>tY (f.code.getD l.head default) lh out
 | none=>lh
def jE (f:aC) (l:cE):aB×aB:=if l.head=0 then tY (f.code.getD l.head default) (rP,rP) (cL f)else(rP,rP)
def sL (m:bA) (f:aC) (inn:List (List aB)) (l:cE) (es:List (Nat×Int)):aB×aB:=es.foldl (gB m f inn l) (jE f l)
def wH (lh:aB×aB):Int:=if lh.1.lo<=lh.1.hi then kI lh.1 lh.2 else 0
noncomputable def kK (m:bA) (f:aC) (inn:List (List aB)) (l:cE):Int:=wH (sL m f inn l (aW f))
/-- the rounds of each loop, or what is wrong -/
noncomputable def gW (m:bA) (f:aC) (inn:List (List aB)):List Int×Int:=if(jI f).2.1=0 then((jI f).1.map (kK m f inn),0)else([],(jI f).2.1)
def dE (nm:ByteArray) (lo hi:Int):aC:=⟨nm,[],2,0,[⟨1,0,0,0,lo⟩,⟨1,1,0,0,hi⟩,⟨17,0,1,0,4⟩,⟨18,0,0,0,2⟩,⟨0,0,0,0,0⟩]⟩
def mM (nm:ByteArray) (lo hi:Int):bA:=⟨[],[dE nm lo hi]⟩
section
variable (nm : ByteArray) (lo hi : Int)
theorem zL:aY (dE nm lo hi) 0=[1]/\aY (dE nm lo hi) 1=[2]/\aY (dE nm lo hi) 2=[3,4]/\aY (dE nm lo hi) 3=[2]/\aY (dE nm lo hi) 4=[]:=⟨rfl,rfl,rfl,rfl,rfl⟩
theorem aTg:lA (dE nm lo hi) 0/\lA (dE nm lo hi) 1/\lA (dE nm lo hi) 2/\lA (dE nm lo hi) 3/\lA (dE nm lo hi) 4:=by
 obtain⟨n0,n1,n2,n3,n4⟩:=zL nm lo hi;have r0:lA (dE nm lo hi) 0:=.zero;have r1:lA (dE nm lo hi) 1:=.step 0 1 r0 (by grind);have r2:lA (dE nm lo hi) 2:=.step 1 2 r1 (by grind);exact⟨r0,r1,r2,.step 2 3 r2 (by grind),.step 2 4 r2 (by grind)⟩
theorem vM:aW (dE nm lo hi)=[(0,1),(1,2),(2,3),(2,4),(3,2)]:=by
 obtain⟨n0,n1,n2,n3,n4⟩:=zL nm lo hi;obtain⟨r0,r1,r2,r3,r4⟩:=aTg nm lo hi;have hl:(dE nm lo hi).code.length=5:=rfl;have key:∀ k,k<5->lA (dE nm lo hi) k->(dY (dE nm lo hi)).getD k false=true:=fun k hk h=>by
  have:=(mD (dE nm lo hi) k oz).2 h
  grind
 unfold aW;rw[hl,dT,dT,dT,dT,dT,key 0 (by omega) r0,key 1 (by omega) r1,key 2 (by omega) r2,key 3 (by omega) r3,key 4 (by omega) r4,n0,n1,n2];rfl
theorem aQd (u v:Nat):jL (dE nm lo hi) u v↔(u=0/\v=1)\/(u=1/\v=2)\/(u=2/\v=3)\/(u=2/\v=4)\/(u=3/\v=2):=by
 have h:=lY (dE nm lo hi) u v;rw[vM]at h;have:(dE nm lo hi).code.length=5:=rfl;constructor
 ·intro he;have hu:u<5:=by
   have:=lA.lt oz he.1
   grind
  grind
 ·grind
theorem aSu:kL (dE nm lo hi) 1 0=false/\kL (dE nm lo hi) 2 1=false/\kL (dE nm lo hi) 3 2=false/\kL (dE nm lo hi) 4 2=false/\kL (dE nm lo hi) 2 3=true:=by
 have hE:=aQd nm lo hi;have w1:∀ x,x≠1->Wx (jL (dE nm lo hi)) x 0 1:=fun x hx=>.step 0 1 .refl ((hE 0 1).2 oz) oz;have:∀ x,x≠1->x≠2->Wx (jL (dE nm lo hi)) x 0 2:=fun x hx hy=>.step 1 2 (w1 x hx) ((hE 1 2).2 oz) oz;unfold kL;refine⟨?_,?_,?_,?_,?_⟩
 ·simp only[decide_eq_false_iff_not,Classical.not_not];exact⟨oz,.refl⟩
 ·grind
 ·grind
 ·grind
 ·simp only[decide_eq_true_eq];have key:∀ y,Wx (jL (dE nm lo hi)) 2 0 y->y=0\/y=1:=fun y h=>by
   induction h with
   | refl=>exact .inl rfl
   | step u w _ he hx ih=>have:=(hE u w).1 he;omega
  grind
theorem zR (c u:Nat):GL (dE nm lo hi) c u=if c=0 then(if u=1 then[0]else if u=2 then[1,3]else if u=3 then[2]else if u=4 then[2]else[])else
 if c=1 then(if u=0 then[1]else if u=1 then[2]else if u=2 then[3,4]else[])else if u=2 then[3]else[]:=by
 obtain⟨d1,d2,d3,d4,d5⟩:=aSu nm lo hi;unfold GL nJ dV;rw[vM];by_cases h0:c=0
 ·grind
 ·grind
theorem aMb (v:Nat):eG (GL (dE nm lo hi)) v=false:=by
 apply oN;have key:∀ y,Cl (xS (GL (dE nm lo hi)) 1) (fun _=>false) (GL (dE nm lo hi) 1 v) y->(v:Int)<y:=fun y h=>by
  have step:∀ (u:Nat) (z:Int),z∈GL (dE nm lo hi) 1 u->(u:Int)<z:=fun u z hz=>by
   rw[zR]at hz;by_cases u0:u=0
   ·grind
   by_cases u1:u=1
   ·grind
   by_cases u2:u=2
   ·grind
   grind
  induction h with
  | start x h=>exact step v x h
  | step x y _ _ h3 ih=>have:=step x.toNat y h3;omega
 grind
theorem aR9:∀ v:Int,gS (GL (dE nm lo hi)) 2 v=(decide (v=2)||decide (v=3)):=by
 intro v;have key:Cl (xS (GL (dE nm lo hi)) 0) (fun x=>decide (x=((2:Nat):Int))) (GL (dE nm lo hi) 2 2) v↔v=2\/v=3:=by
  have g2:GL (dE nm lo hi) 2 2=[3]:=by rw[zR];rfl
  have g3:GL (dE nm lo hi) 0 3=[2]:=by rw[zR];rfl
  rw[g2];constructor
  ·intro h
   induction h with
   | start x h=>simp at h;exact .inr h
   | step x y _ hx hy ih =>
    rcases ih with rfl|rfl
    ·simp at hx
    ·unfold xS at hy
     grind
  ·have c3:Cl (xS (GL (dE nm lo hi)) 0) (fun x=>decide (x=((2:Nat):Int))) [3] 3:=.start 3 si;rintro(rfl|rfl)
   ·exact .step 3 2 c3 si (by unfold xS;rw[show(3:Int).toNat=3 from rfl,g3];simp)
   ·exact c3
 unfold gS;by_cases h2:v=2
 ·subst h2;simp
 ·grind
theorem aM0:jI (dE nm lo hi)=([⟨2,-1,[2,3],[3]⟩],0,0):=by
 have hl:(dE nm lo hi).code.length=5:=rfl;have hh:kH (GL (dE nm lo hi)) 5=[2]:=by
  unfold kH dQ;have e:(fun k:Nat=>decide (GL (dE nm lo hi) 2 ((k:Int)).toNat≠[]))=fun k=>decide (k=2):=by
   funext k;rw[ zR];by_cases h:k=2
   ·simp
   ·simp[h]
  rw[e];rfl
 have hm:dQ 5 (gS (GL (dE nm lo hi)) 2)=[2,3]:=by
  unfold dQ;have e:(fun k:Nat=>gS (GL (dE nm lo hi)) 2 (k:Int))=fun k=>(decide (k=2)||decide (k=3)):=by
   funext k;rw[aR9];congr 1
   ·simp;omega
   ·simp;omega
  rw[e];rfl
 have hp:bD (dE nm lo hi) 2=⟨2,-1,[2,3],[3]⟩:=by
  unfold bD;rw[hl,hm,zR];rfl
 have hL:cG (dE nm lo hi)=[⟨2,-1,[2,3],[3]⟩]:=by
  unfold cG
  grind
 unfold jI;rw[hl,eB 5 _ (fun i _=>aMb nm lo hi i),hL];rfl
/-- what the rounds keep: at the first instruction stands what stood there, at the second one nothing as long as the first one is marked, then just the one number -/
def aCo (lo:Int) (s:fF):Prop:=s.inn.length=5/\s.mrk.length=5/\s.inn.getD 0 []=[⟨0,0⟩,⟨0,0⟩]/\(s.inn.getD 1 []=[⟨lo,lo⟩,⟨0,0⟩]\/(s.inn.getD 1 []=[]/\s.mrk.getD 0 false=true))
theorem qN (thr:List Int) (s:fF) (tt:Nat) (next:List aB) (j:Nat) (h:j≠tt):(cM thr s tt next).inn.getD j []=s.inn.getD j []/\(cM thr s tt next).mrk.getD j false=s.mrk.getD j false/\(cM thr s tt next).inn.length=s.inn.length/\(cM thr s tt next).mrk.length=s.mrk.length:=by
 unfold cM;split
 ·grind
 ·grind
theorem aK9 (lo:Int):qI [⟨lo,lo⟩,⟨0,0⟩] [⟨lo,lo⟩,⟨0,0⟩]=false:=by
 have g:∀ x:Int,lE ⟨x,x⟩ ⟨x,x⟩=false:=fun x=>by
  unfold lE mC cJ;simp
 show(lE ⟨lo,lo⟩ ⟨lo,lo⟩||(lE ⟨0,0⟩ ⟨0,0⟩||false))=false;rw[g];rfl
theorem aNx (s:fF) (k:Nat) (hk:k<5) (h:aCo lo s):aCo lo (gF (mM nm lo hi) (dE nm lo hi) s k)/\(k=0->(gF (mM nm lo hi) (dE nm lo hi) s k).inn.getD 1 []=[⟨lo,lo⟩,⟨0,0⟩]):=by
 obtain⟨n0,n1,n2,n3,n4⟩:=zL nm lo hi;obtain⟨l1,l2,i0,i1⟩:=h;unfold gF;by_cases hm:s.mrk.getD k false=true
 ·rw[if_pos hm];by_cases hk0:k=0
  ·subst hk0;have goal:(iW (mM nm lo hi) (dE nm lo hi) 0 (s.inn.getD 0 []) { s with mrk:=s.mrk.set 0 false } 1).inn.getD 1 []=[⟨lo,lo⟩,⟨0,0⟩]/\(iW (mM nm lo hi) (dE nm lo hi) 0 (s.inn.getD 0 []) { s with mrk:=s.mrk.set 0 false } 1).inn.getD 0 []=[⟨0,0⟩,⟨0,0⟩]/\(iW (mM nm lo hi) (dE nm lo hi) 0 (s.inn.getD 0 []) { s with mrk:=s.mrk.set 0 false } 1).inn.length=5/\(iW (mM nm lo hi) (dE nm lo hi) 0 (s.inn.getD 0 []) { s with mrk:=s.mrk.set 0 false } 1).mrk.length=5:=by
    rw[i0];show(cM [] { s with mrk:=s.mrk.set 0 false } 1 [⟨lo,lo⟩,⟨0,0⟩]).inn.getD 1 []=_/\(cM [] { s with mrk:=s.mrk.set 0 false } 1 [⟨lo,lo⟩,⟨0,0⟩]).inn.getD 0 []=_/\(cM [] { s with mrk:=s.mrk.set 0 false } 1 [⟨lo,lo⟩,⟨0,0⟩]).inn.length=5/\(cM [] { s with mrk:=s.mrk.set 0 false } 1 [⟨lo,lo⟩,⟨0,0⟩]).mrk.length=5;obtain⟨m1,m2,m3,m4⟩:=qN [] { s with mrk:=s.mrk.set 0 false } 1 [⟨lo,lo⟩,⟨0,0⟩] 0 oz;refine⟨?_,by rw[m1];exact i0,by rw[m3];exact l1,by rw[m4];simpa using l2⟩;unfold cM;rcases i1 with i1|⟨i1,_⟩
    ·rw[i1,aK9];simpa using i1
    ·grind
   rw[n0];exact⟨⟨goal.2.2.1,goal.2.2.2,goal.2.1,.inl goal.1⟩,fun _=>goal.1⟩
  ·refine⟨?_,fun e=>absurd e hk0⟩;have key:∀ (ts:List Int) (q:fF),(∀ t∈ts,t.toNat≠0/\t.toNat≠1)->aCo lo q->aCo lo (ts.foldl (iW (mM nm lo hi) (dE nm lo hi) k (s.inn.getD k [])) q):=fun ts=>by
    induction ts with
    | nil=>intro q _ h;exact h
    | cons t ts ih =>
     intro q ht hq;refine ih _ (fun t' h'=>ht t' (List.mem_cons_of_mem _ h')) ?_;unfold iW;split
     ·obtain⟨q1,q2,q3,q4⟩:=hq;obtain⟨t0,t1⟩:=ht t si;obtain⟨a1,a2,a3,a4⟩:=qN (mM nm lo hi).thr q t.toNat _ 0 (Ne.symm t0);obtain⟨b1,b2,_,_⟩:=qN (mM nm lo hi).thr q t.toNat _ 1 (Ne.symm t1);exact⟨by rw[a3];exact q1,by rw[a4];exact q2,by rw[a1];exact q3,by rw[b1,a2];exact q4⟩
     ·exact hq
   refine key _ _ ?_ ⟨l1,by simpa using l2,i0,?_⟩
   ·grind
   ·grind
 ·rw[if_neg hm];refine⟨⟨l1,l2,i0,i1⟩,fun e=>?_⟩;rcases i1 with i1|⟨_,i2⟩
  ·exact i1
  ·grind
theorem aN7 (s:fF) (h:aCo lo s):aCo lo (oE (mM nm lo hi) (dE nm lo hi) s):=by
 have key:∀ (ks:List Nat) (q:fF),(∀ k∈ks,k<5)->aCo lo q->aCo lo (ks.foldl (gF (mM nm lo hi) (dE nm lo hi)) q):=fun ks=>by
  induction ks with
  | nil=>intro q _ h;exact h
  | cons t ts ih=>intro q ht hq;exact ih _ (fun t' h'=>ht t' (List.mem_cons_of_mem _ h')) (aNx nm lo hi q t (ht t si) hq).1
 exact key _ s (fun k hk=>by simpa[dE]using hk) h
theorem aPj (s t:fF) (hr:fO (mM nm lo hi) (dE nm lo hi) s t) (h:aCo lo s):t.inn.getD 1 []=[⟨lo,lo⟩,⟨0,0⟩]:=by
 induction hr with
 | stop s hs =>
  obtain⟨l1,l2,i0,i1⟩:=h;rcases i1 with i1|⟨_,i2⟩
  ·exact i1
  ·grind
 | pass s t _ _ ih=>exact ih (aN7 nm lo hi s h)
/-- a loop that counts from one number to another one has as many rounds as these are apart -/
theorem aKl (t:fF) (hr:fO (mM nm lo hi) (dE nm lo hi) (fL (dE nm lo hi)) t):gW (mM nm lo hi) (dE nm lo hi) t.inn=([kI ⟨lo,lo⟩ ⟨hi,hi⟩],0):=by
 have h1:=aPj nm lo hi _ t hr ⟨rfl,rfl,rfl,.inr ⟨rfl,rfl⟩⟩;unfold gW;rw[aM0];have e:sL (mM nm lo hi) (dE nm lo hi) t.inn ⟨2,-1,[2,3],[3]⟩ (aW (dE nm lo hi))=(⟨lo,lo⟩,⟨hi,hi⟩):=by
  unfold sL;rw[vM,List.foldl_cons,List.foldl_cons];unfold gB;rw[h1];rfl
 unfold kK;unfold wH
 grind
end
end
end Go.Proofs.YteebpnbdihcfmaaGreatDoor
