/- Package bounds; R16 -/
import Derived.Test.YteebpnbdihcfmaaGreatDoorJ10
set_option linter.unusedVariables false
set_option linter.unusedSimpArgs false
set_option maxRecDepth 100000
set_option maxHeartbeats 20000000
namespace Go.Proofs.YteebpnbdihcfmaaGreatDoor
open Go.RowKit
section
section
variable {m : bA} {f : aC} {n regs : Nat}
theorem vF (hn:n=f.code.length) (hr:0<regs) (H:∀ (a:Nat) (inn:List aB) (t:Int) (out:List aB),a<n->gU regs inn->t∈aY f a->gP m f a t inn=some out->gU regs out)
 {a:Nat} (ha:a<n) {inn:List aB} (hi:gU regs inn):∀ (l:List Int) (s:fF),(∀ t∈l,t∈aY f a)->rC n regs s->rC n regs (l.foldl (iW m f a inn) s)/\jZ n regs (l.foldl (iW m f a inn) s)<=jZ n regs s
 | [],s,_,hs=>⟨hs,Nat.le_refl _⟩
 | t::l,s,hl,hs=>by
  have ht:=hl t si;have hb:=gQ f a t ht;have h1:rC n regs (iW m f a inn s t)/\jZ n regs (iW m f a inn s t)<=jZ n regs s:=by
   unfold iW;cases hw:gP m f a t inn with
   | none=>exact⟨hs,Nat.le_refl _⟩
   | some out =>
    have ho:=H a inn t out ha hi ht hw;exact⟨vE hs oz ho,aI3 hr hs oz ho⟩
  have h2:=vF hn hr H ha hi l _ (fun t ht=>hl t (by simp[ht])) h1.1;exact⟨h2.1,Nat.le_trans h2.2 h1.2⟩
theorem aLg (hn:n=f.code.length) (hr:0<regs) (H:∀ (a:Nat) (inn:List aB) (t:Int) (out:List aB),a<n->gU regs inn->t∈aY f a->gP m f a t inn=some out->gU regs out)
 {a:Nat} (ha:a<n) {s:fF} (hs:rC n regs s) (hne:s.mrk.getD a false=true->s.inn.getD a []≠[]):rC n regs (gF m f s a)/\jZ n regs (gF m f s a)<=jZ n regs s/\(s.mrk.getD a false=true->jZ n regs (gF m f s a)<jZ n regs s):=by
 unfold gF;by_cases hm:s.mrk.getD a false=true
 ·rw[if_pos hm];have hi:gU regs (s.inn.getD a []):=(hs.inn a ha).resolve_left (hne hm);have h0:rC n regs { s with mrk:=s.mrk.set a false }:=⟨hs.li,hs.lc,by simp[hs.lm],hs.lj,hs.inn,hs.chg⟩
  have hp:jZ n regs { s with mrk:=s.mrk.set a false }<jZ n regs s:=by
   unfold jZ;dsimp only;have h2:=kC (f:=fun v=>if(s.mrk.set a false).getD v false then 1 else 0) (g:=fun v=>if s.mrk.getD v false then 1 else 0) n ha (fun k hk=>by rw[bP _ _ _ _ _ (by rw[hs.lm];exact ha),if_neg hk]);rw[bP _ _ _ _ _ (by rw[hs.lm];exact ha),if_pos rfl,hm]at h2;simp only[if_true]at h2;have e:(if false=true then 1 else 0:Nat)=0:=rfl;rw[e]at h2;omega
  have h3:=vF hn hr H ha hi (aY f a) _ (fun t ht=>ht) h0;exact⟨h3.1,oz,fun _=>by omega⟩
 ·rw[if_neg hm];exact⟨hs,Nat.le_refl _,fun h=>absurd h hm⟩
end
end
section
theorem uP (p:Nat->Prop) (h:∃ k,p k):∃ k,p k/\∀ j,p j->k<=j:=by
 obtain⟨k,hk⟩:=h
 induction k using Nat.strongRecOn with
 | ind k ih =>
  by_cases h2:∃ j,j<k/\p j
  ·obtain⟨j,hj,hp⟩:=h2;exact ih j hj hp
  ·exact⟨k,hk,fun j hj=>Classical.byContradiction fun h3=>h2 ⟨j,oz,hj⟩⟩
open Classical in
noncomputable def aOl (p:Nat->Prop):Nat:=if h:∃ k,p k then Classical.choose (uP p h)else 0
theorem aSg {p:Nat->Prop}{k:Nat}(h:p k):aOl p<=k:=by
 unfold aOl;rw[dif_pos ⟨k,h⟩];exact(Classical.choose_spec (uP p ⟨k,h⟩)).2 k h
theorem aSf {p:Nat->Prop}(h:∃ k,p k):p (aOl p):=by
 unfold aOl;rw[dif_pos h];exact(Classical.choose_spec (uP p h)).1
def MOk (n:Nat) (s:fF):Prop:=∀ v,v<n->s.mrk.getD v false=true->s.inn.getD v []≠[]
section
variable {m : bA} {f : aC} {n regs : Nat}
theorem lH {α:Type}(l:List α) (i j:Nat) (a d:α):(l.set i a).getD j d=if j=i/\i<l.length then a else l.getD j d:=by
 simp only[List.getD_eq_getElem?_getD];by_cases e:j=i
 ·subst e;by_cases h:j<l.length
  ·rw[if_pos ⟨rfl,h⟩,List.getElem?_set_self h];rfl
  ·rw[if_neg (fun q=>h q.2),List.set_eq_of_length_le (by omega)]
 ·rw[if_neg (fun q=>e q.1),List.getElem?_set_ne (by omega)]
theorem aHg {thr:List Int}{s:fF}{tt:Nat}{next:List aB}{v:Nat}(h:s.mrk.getD v false=true):(cM thr s tt next).mrk.getD v false=true:=by
 have key:(s.mrk.set tt true).getD v false=true:=by
  rw[lH];split
  ·rfl
  ·exact h
 unfold cM;split
 ·exact key
 ·split
  ·exact key
  ·exact h
theorem zK {thr:List Int}{s:fF}{tt:Nat}{next:List aB}(hs:rC n regs s) (hm:MOk n s) (hr:0<regs) (hn:next.length=regs):MOk n (cM thr s tt next):=by
 intro v hv h;have hli:=hs.li;have hlm:=hs.lm;have nne:next≠[]:=fun e=>by rw[e]at hn;simp at hn;omega
 unfold cM at h ⊢;by_cases h0:s.inn.getD tt []=[]
 ·rw[if_pos h0]at h ⊢;dsimp only at h ⊢;rw[lH]at h ⊢;by_cases e:v=tt/\tt<s.inn.length
  ·rw[if_pos e];exact nne
  ·rw[if_neg e];rw[if_neg (by rw[hlm,<-hli];exact e)]at h;exact hm v hv h
 ·rw[if_neg h0]at h ⊢;by_cases hg:qI (s.inn.getD tt []) next=true
  ·rw[if_pos hg]at h ⊢;dsimp only at h ⊢;rw[lH]at h ⊢;by_cases e:v=tt/\tt<s.inn.length
   ·rw[if_pos e];intro e2;have:(fX thr (nI s tt) (s.inn.getD tt []) next).length=0:=by rw[e2];rfl
    unfold fX at this;rw[List.length_map,List.length_range]at this;exact h0 (List.eq_nil_of_length_eq_zero this)
   ·rw[if_neg e];rw[if_neg (by rw[hlm,<-hli];exact e)]at h;exact hm v hv h
  ·rw[if_neg hg]at h ⊢;exact hm v hv h
theorem aD8 (hn:n=f.code.length) (hr:0<regs) (H:∀ (a:Nat) (inn:List aB) (t:Int) (out:List aB),a<n->gU regs inn->t∈aY f a->gP m f a t inn=some out->gU regs out)
 {a:Nat} (ha:a<n) {inn:List aB} (hi:gU regs inn):∀ (l:List Int) (s:fF),(∀ t∈l,t∈aY f a)->rC n regs s->MOk n s->MOk n (l.foldl (iW m f a inn) s)/\∀ v,s.mrk.getD v false=true->(l.foldl (iW m f a inn) s).mrk.getD v false=true
 | [],s,_,_,hm=>⟨hm,fun _ h=>h⟩
 | t::l,s,hl,hs,hm=>by
  have ht:=hl t si;have hb:=gQ f a t ht;have h1:rC n regs (iW m f a inn s t)/\MOk n (iW m f a inn s t)/\∀ v,s.mrk.getD v false=true->(iW m f a inn s t).mrk.getD v false=true:=by
   unfold iW;cases hw:gP m f a t inn with
   | none=>exact⟨hs,hm,fun _ h=>h⟩
   | some out =>
    have ho:=H a inn t out ha hi ht hw;exact⟨vE hs oz ho,zK hs hm hr ho.1,fun _ h=>aHg h⟩
  have h2:=aD8 hn hr H ha hi l _ (fun t ht=>hl t (by simp[ht])) h1.1 h1.2.1;exact⟨h2.1,fun v hv=>h2.2 v (h1.2.2 v hv)⟩
theorem aOo (hn:n=f.code.length) (hr:0<regs) (H:∀ (a:Nat) (inn:List aB) (t:Int) (out:List aB),a<n->gU regs inn->t∈aY f a->gP m f a t inn=some out->gU regs out)
 {a:Nat} (ha:a<n) {s:fF} (hs:rC n regs s) (hm:MOk n s):MOk n (gF m f s a)/\∀ v,v≠a->s.mrk.getD v false=true->(gF m f s a).mrk.getD v false=true:=by
 unfold gF;by_cases h:s.mrk.getD a false=true
 ·rw[if_pos h];have hi:gU regs (s.inn.getD a []):=(hs.inn a ha).resolve_left (hm a ha h);have h0:rC n regs { s with mrk:=s.mrk.set a false }:=⟨hs.li,hs.lc,by simp[hs.lm],hs.lj,hs.inn,hs.chg⟩
  have hm0:MOk n { s with mrk:=s.mrk.set a false }:=fun v hv hq=>by
   dsimp only at hq ⊢;rw[lH]at hq;split at hq
   ·cases hq
   ·exact hm v hv hq
  have h3:=aD8 hn hr H ha hi (aY f a) _ (fun t ht=>ht) h0 hm0;refine⟨h3.1,fun v hv hq=>h3.2 v ?_⟩;dsimp only;rw[lH,if_neg (fun e=>hv e.1)];exact hq
 ·rw[if_neg h];exact⟨hm,fun _ _ hq=>hq⟩
/-- a part of a pass -/
theorem vT (hn:n=f.code.length) (hr:0<regs) (H:∀ (a:Nat) (inn:List aB) (t:Int) (out:List aB),a<n->gU regs inn->t∈aY f a->gP m f a t inn=some out->gU regs out) :
 ∀ (l:List Nat) (s:fF),(∀ a∈l,a<n)->rC n regs s->MOk n s->rC n regs (l.foldl (gF m f) s)/\MOk n (l.foldl (gF m f) s)/\jZ n regs (l.foldl (gF m f) s)<=jZ n regs s/\∀ a∈l,s.mrk.getD a false=true->jZ n regs (l.foldl (gF m f) s)<jZ n regs s
 | [],s,_,hs,hm=>⟨hs,hm,Nat.le_refl _,fun a ha=>by simp at ha⟩
 | a::l,s,hl,hs,hm=>by
  have ha:=hl a si;obtain⟨k1,k2,k3⟩:=aLg (m:=m) (f:=f) hn hr H ha hs (hm a ha);obtain⟨m1,m2⟩:=aOo (m:=m) (f:=f) hn hr H ha hs hm;obtain⟨p1,p2,p3,p4⟩:=vT hn hr H l _ (fun b hb=>hl b (by simp[hb])) k1 m1;rw[List.foldl_cons];refine⟨p1,p2,Nat.le_trans p3 k2,fun b hb hq=>?_⟩;by_cases e:b=a
  ·subst e;exact Nat.lt_of_le_of_lt p3 (k3 hq)
  ·have hb2:b∈l:=by simpa[e]using hb
   exact Nat.lt_of_lt_of_le (p4 b hb2 (m2 b e hq)) k2
theorem aFz (hn:n=f.code.length) (hr:0<regs) (H:∀ (a:Nat) (inn:List aB) (t:Int) (out:List aB),a<n->gU regs inn->t∈aY f a->gP m f a t inn=some out->gU regs out)
 {s:fF} (hs:rC n regs s) (hm:MOk n s) (hc:s.mrk.contains true=true):rC n regs (oE m f s)/\MOk n (oE m f s)/\jZ n regs (oE m f s)<jZ n regs s:=by
 obtain⟨p1,p2,p3,p4⟩:=vT hn hr H (List.range n) s (fun a ha=>List.mem_range.1 ha) hs hm;unfold oE;rw[<-hn];refine⟨p1,p2,?_⟩;rw[List.contains_iff_mem]at hc;obtain⟨a,ha⟩:=List.getElem?_of_mem hc;have hlt:a<s.mrk.length:=(List.getElem?_eq_some_iff.1 ha).1;have:=hs.lm;exact p4 a (List.mem_range.2 oz) (by rw[List.getD_eq_getElem?_getD,ha];rfl)
end
end
def kF (m:bA) (f:aC) (s:fF) (i:Nat):fF:=(List.range i).foldl (gF m f) s
def iZ (m:bA) (f:aC) (s:fF) (i:Nat):Bool:=(List.range i).any fun j=>(kF m f s j).mrk.getD j false
theorem vV (m:bA) (f:aC) (s:fF) (i:Nat):kF m f s (i+1)=gF m f (kF m f s i) i:=by unfold kF;rw[List.range_succ,List.foldl_append];rfl
theorem nD (m:bA) (f:aC) (s:fF) (i:Nat):iZ m f s (i+1)=(iZ m f s i||(kF m f s i).mrk.getD i false):=by unfold iZ;rw[List.range_succ,List.any_append];simp
theorem rF {m:bA}{f:aC}{s:fF}:∀ {i:Nat},iZ m f s i=false->kF m f s i=s/\∀ j,j<i->s.mrk.getD j false=false
 | 0,_=>⟨rfl,fun j hj=>absurd hj oz⟩
 | i+1,h=>by
  rw[nD,Bool.or_eq_false_iff]at h;obtain⟨h1,h2⟩:=rF h.1;rw[h1]at h;refine⟨?_,fun j hj=>?_⟩
  ·rw[vV,h1];unfold gF;rw[h.2];rfl
  ·by_cases e:j=i
   ·subst e;exact h.2
   ·exact h2 j oz
theorem zV {m:bA}{f:aC}{s:fF}:∀ {i:Nat},iZ m f s i=true->∃ j,j<i/\s.mrk.getD j false=true
 | 0,h=>by simp[iZ]at h
 | i+1,h=>by
  by_cases h1:iZ m f s i=true
  ·obtain⟨j,hj,h2⟩:=zV h1;exact⟨j,oz,h2⟩
  ·have h1:iZ m f s i=false:=by simpa using h1
   rw[nD,h1,(rF h1).1]at h;exact⟨i,oz,by simpa using h⟩
theorem aTf {m:bA}{f:aC}{s:fF}(hl:s.mrk.length=f.code.length):iZ m f s f.code.length=s.mrk.contains true:=by
 cases h:iZ m f s f.code.length
 ·symm;rw[Bool.eq_false_iff];intro hc;rw[List.contains_iff_mem]at hc;obtain⟨i,hi,e⟩:=List.getElem_of_mem hc;have:=(rF h).2 i oz;rw[List.getD_eq_getElem?_getD,List.getElem?_eq_getElem hi,e]at this;cases this
 ·symm;obtain⟨j,hj,e⟩:=zV h;rw[List.contains_iff_mem];rw[List.getD_eq_getElem?_getD,List.getElem?_eq_getElem (by omega)]at e;have e':s.mrk[j]'(oz)=true:=e;rw[<-e'];exact List.getElem_mem _
end Go.Proofs.YteebpnbdihcfmaaGreatDoor
