/- The plain law of dom; Package flow; What dom; The memory that dom; The graph of package l; The plain law of a sea; The plain law of loops; dom; A region that draws it; R9; Regions that draw thei -/
import Derived.Test.YteebpnbdihcfmaaGreatDoorJ05
import Derived.Test.YteebpnbdihcfmaaGreatDoorJ06
set_option linter.unusedVariables false
set_option linter.unusedSimpArgs false
set_option maxRecDepth 100000
set_option maxHeartbeats 20000000
namespace Go.Proofs.YteebpnbdihcfmaaGreatDoor
open Go.RowKit
section
theorem aUi {p:Prop}(h:p:=by
 rcases hg6 with h|h
 ·exact .inl h
 ·simp at h;exact .inr oz):p:=h
/-- a graph whose vertices are ranked -/
structure Grf (E:Nat->Nat->Prop) (R:Nat->Prop) (rk:Nat->Nat):Prop where
 r0:R 0
 z:rk 0=0
 e:∀ u v,E u v->R u/\R v
 inj:∀ u v,R u->R v->rk u=rk v->u=v
 pred:∀ v,R v->v≠0->∃ u,E u v/\rk u<rk v
/-- what stands above a vertex -/
inductive Ch (nr:Nat->Int):Nat->Nat->Prop
 | self (v:Nat):Ch nr v v
 | up (v u x:Nat):v≠0->nr v=(u:Int)->Ch nr u x->Ch nr v x
/-- a way on which x is not met behind the beginning -/
inductive Wx (E:Nat->Nat->Prop) (x:Nat) (a:Nat):Nat->Prop
 | refl:Wx E x a a
 | step (u w:Nat):Wx E x a u->E u w->w≠x->Wx E x a w
theorem Wx.trans {E:Nat->Nat->Prop}{x a b c:Nat}(h1:Wx E x a b) (h2:Wx E x b c):Wx E x a c:=by
 induction h2 with
 | refl=>exact h1
 | step u w _ he hx ih=>exact .step u w ih he hx
structure kM (E:Nat->Nat->Prop) (R:Nat->Prop) (rk:Nat->Nat) (nr:Nat->Int) (pos:Nat):Prop where
 z:nr 0=0
 tr:∀ v u:Nat,v≠0->nr v=(u:Int)->R v/\R u/\0<=nr u/\rk u<rk v
 dr:∀ v u,0<=nr v->R u->rk u<rk v->0<=nr u
 dn:∀ v,R v->rk v<pos->0<=nr v
 i1:∀ v x,0<=nr v->¬Ch nr v x->x≠0/\Wx E x 0 v
 i2:∀ w a x,0<=nr w->Ch nr w a->Ch nr a x->x≠a->Wx E x a w
 i4:∀ v y x:Nat,v≠0->nr v=(y:Int)->(∀ u,E u v->0<=nr u->Ch nr u x)->Ch nr y x
 i5:∀ v y u x:Nat,v≠0->nr v=(y:Int)->E u v->rk u<rk v->Ch nr y x->(rk v<pos\/pos<=rk x)->Ch nr u x
theorem Ch.trans {nr:Nat->Int}{a b c:Nat}(h1:Ch nr a b) (h2:Ch nr b c):Ch nr a c:=by
 induction h1 with
 | self=>exact h2
 | up v u x h0 he _ ih=>exact .up v u c h0 he (ih h2)
theorem Ch.inv {nr:Nat->Int}{v x:Nat}(h:Ch nr v x):v=x\/∃ u:Nat,v≠0/\nr v=(u:Int)/\Ch nr u x:=by
 cases h with
 | self=>exact .inl rfl
 | up _ u _ h0 he h2=>exact .inr ⟨u,h0,he,h2⟩
section
variable {E : Nat -> Nat -> Prop} {R : Nat -> Prop} {rk : Nat -> Nat} {nr : Nat -> Int} {pos : Nat}
theorem kM.chrk (h:kM E R rk nr pos) {v x:Nat}(hc:Ch nr v x):x=v\/rk x<rk v:=by
 induction hc with
 | self=>exact .inl rfl
 | up v u x h0 he _ ih =>
  have:=(h.tr v u h0 he).2.2.2;rcases ih with rfl|k
  ·grind
  ·grind
theorem kM.chD (h:kM E R rk nr pos) {v x:Nat}(hc:Ch nr v x) (hv:0<=nr v):0<=nr x:=by
 induction hc with
 | self=>exact hv
 | up v u x h0 he _ ih=>exact ih (h.tr v u h0 he).2.2.1
theorem kM.dR (h:kM E R rk nr pos) (g:Grf E R rk) {v:Nat}(hv:0<=nr v):R v:=by
 by_cases h0:v=0
 ·subst h0;exact g.r0
 ·exact(h.tr v (nr v).toNat h0 oz).1
def upd (nr:Nat->Int) (b:Nat) (d:Int):Nat->Int:=fun v=>if v=b then d else nr v
theorem iH (b:Nat) (d:Int):upd nr b d b=d:=by simp[upd]
theorem kJ {b v:Nat}(d:Int) (h:v≠b):upd nr b d v=nr v:=by simp[upd,h]
/-- a chain without b stays -/
theorem Ch.keep {b:Nat}{d:Int}{v x:Nat}(hb:¬Ch nr v b):Ch (upd nr b d) v x↔Ch nr v x:=by
 constructor
 ·intro h
  induction h with
  | self=>exact .self _
  | up v u x h0 he _ ih =>
   have hvb:v≠b:=fun e=>hb (e▸.self _);rw[kJ d hvb]at he;exact .up v u x h0 he (ih fun k=>hb (.up v u b h0 he k))
 ·intro h
  induction h with
  | self=>exact .self _
  | up v u x h0 he _ ih =>
   have hvb:v≠b:=fun e=>hb (e▸.self _);exact .up v u x h0 (by rw[kJ d hvb];exact he) (ih fun k=>hb (.up v u b h0 he k))
/-- whether b stands above does not change -/
theorem Ch.at (b:Nat) (d:Int) (v:Nat):Ch (upd nr b d) v b↔Ch nr v b:=by
 constructor
 ·intro h;obtain⟨nr',hn⟩:∃ n,n=upd nr b d:=⟨_,rfl⟩
  rw[<-hn]at h
  induction h with
  | self=>exact .self _
  | up v u x h0 he _ ih =>
   by_cases hvb:v=x
   ·subst hvb;exact .self _
   ·rw[hn,kJ d hvb]at he;exact .up v u x h0 he (ih hn)
 ·intro h
  induction h with
  | self=>exact .self _
  | up v u x h0 he _ ih =>
   by_cases hvb:v=x
   ·subst hvb;exact .self _
   ·exact .up v u x h0 (by rw[kJ d hvb];exact he) ih
theorem Ch.tot {v a x:Nat}(h1:Ch nr v a) (h2:Ch nr v x):Ch nr a x\/Ch nr x a:=by
 induction h1 with
 | self=>exact .inl h2
 | up v u a h0 he h3 ih =>
  rcases h2.inv with rfl|⟨u',_,he',h4⟩
  ·exact .inr (.up v u a h0 he h3)
  ·grind
theorem kM.anti (h:kM E R rk nr pos) {a b:Nat}(h1:Ch nr a b) (h2:Ch nr b a):a=b:=by
 have:=h.chrk h1;have:=h.chrk h2;omega
theorem kM.root0 (h:kM E R rk nr pos) {x:Nat}(h1:Ch nr 0 x):x=0:=by
 rcases h1.inv with e|⟨_,k,_⟩
 ·exact e.symm
 ·grind
/-- what a step at b rests on -/
structure vN (E:Nat->Nat->Prop) (R:Nat->Prop) (rk:Nat->Nat) (nr:Nat->Int) (pos b d:Nat):Prop where
 inv:kM E R rk nr pos
 g:Grf E R rk
 rb:R b
 pb:rk b=pos
 b0:b≠0
 dd:0<=nr d
 m:∀ x,Ch nr d x↔∀ u,E u b->0<=nr u->Ch nr u x
variable {b d : Nat}
theorem vN.pre (s:vN E R rk nr pos b d):∃ u,E u b/\rk u<rk b/\0<=nr u/\Ch nr u d:=by
 obtain⟨u,he,hr⟩:=s.g.pred b s.rb s.b0;have hd:=s.inv.dn u (s.g.e u b he).1 (by have:=s.pb;omega);exact⟨u,he,hr,hd,(s.m d).1 (.self d) u he hd⟩
theorem vN.rkd (s:vN E R rk nr pos b d):rk d<rk b:=by
 obtain⟨u,_,hr,_,hc⟩:=s.pre;rcases s.inv.chrk hc with rfl|k
 ·exact hr
 ·omega
theorem vN.below (s:vN E R rk nr pos b d) {v:Nat}(hv:rk v<rk b):¬Ch nr v b:=by
 intro k;rcases s.inv.chrk k with rfl|k<;>omega
theorem vN.nd (s:vN E R rk nr pos b d) {x:Nat}:Ch (upd nr b d) d x↔Ch nr d x:=Ch.keep (s.below s.rkd)
theorem vN.mv (s:vN E R rk nr pos b d) {y:Nat}(hy:nr b=(y:Int)) {x:Nat}(hx:Ch nr d x):Ch nr y x :=
 s.inv.i4 b y x s.b0 hy ((s.m x).1 hx)
theorem aO8 {p:Prop}(h:p:=by
 rcases h with⟨h1,h2⟩|h
 ·rw[s.inv.anti h1 h2];exact .self _
 ·exact .up v d x s.b0 (by rw[iH]) (s.nd.2 h)):p:=h
theorem vN.split (s:vN E R rk nr pos b d) {v x:Nat}(hv:Ch nr v b):Ch (upd nr b d) v x↔(Ch nr v x/\Ch nr x b)\/Ch nr d x:=by
 constructor
 ·intro h;obtain⟨nr',hn⟩:∃ n,n=upd nr b d:=⟨_,rfl⟩
  rw[<-hn]at h
  induction h with
  | self=>exact .inl ⟨.self _,hv⟩
  | up v u x h0 he h3 ih =>
   by_cases e:v=b
   ·subst e;rw[hn,iH]at he;have:u=d:=oz
    subst this;rw[hn]at h3;exact .inr (s.nd.1 h3)
   ·rw[hn,kJ _ e]at he;rcases hv.inv with k|⟨u',_,he',h4⟩
    ·grind
    ·have:u=u':=oz
     subst this;rcases ih h4 with k|k
     ·exact .inl ⟨.up v u x h0 he k.1,k.2⟩
     ·exact .inr k
 ·intro h;obtain⟨b',hb⟩:∃ n,n=b:=⟨_,rfl⟩
  rw[<-hb]at hv
  induction hv with
  | self v =>
   subst hb;exact aO8
  | up v u b' h0 he h3 ih =>
   subst hb;by_cases e:v=b'
   ·subst e;exact aO8
   ·rcases h with⟨h1,h2⟩|h
    ·rcases h1.inv with rfl|⟨u',_,he',h4⟩
     ·exact .self _
     ·have:u=u':=oz
      subst this;exact .up v u x h0 (by rw[kJ _ e];exact he) (ih (.inl ⟨h4,h2⟩) rfl)
    ·exact .up v u x h0 (by rw[kJ _ e];exact he) (ih (.inr h) rfl)
theorem vN.sub (s:vN E R rk nr pos b d) (hb:0<=nr b) {v x:Nat}(h:Ch (upd nr b d) v x):Ch nr v x:=by
 by_cases hv:Ch nr v b
 ·rcases(s.split hv).1 h with k|k
  ·exact k.1
  ·exact hv.trans (.up b (nr b).toNat x s.b0 oz (s.mv oz k))
 ·exact(Ch.keep hv).1 h
theorem vN.fresh (s:vN E R rk nr pos b d) (hb:¬0<=nr b) {v:Nat}(hv:v≠b):¬Ch nr v b:=by
 intro k;rcases k.inv with k|⟨u,h0,he,h2⟩
 ·exact hv k
 ·exact hb (s.inv.chD h2 (s.inv.tr v u h0 he).2.2.1)
theorem vN.oldD (s:vN E R rk nr pos b d) {v:Nat}(h:0<=upd nr b d v):v=b\/0<=nr v:=by
 by_cases e:v=b
 ·exact .inl e
 ·rw[kJ _ e]at h;exact .inr h
theorem vN.newD (s:vN E R rk nr pos b d) {v:Nat}(h:0<=nr v):0<=upd nr b d v:=by
 by_cases e:v=b
 ·subst e;rw[iH];omega
 ·rw[kJ _ e];exact h
theorem vN.away (s:vN E R rk nr pos b d) {x:Nat}(h1:¬Ch nr d x) (h2:x≠b):x≠0/\Wx E x 0 b:=by
 rw[s.m x]at h1;obtain⟨u,h1⟩:=Classical.not_forall.1 h1;obtain⟨he,h1⟩:=Classical.not_forall.1 h1;obtain⟨hd,h1⟩:=Classical.not_forall.1 h1;have:=s.inv.i1 u x hd h1;exact⟨this.1,.step u b this.2 he (Ne.symm h2)⟩
theorem vN.next (s:vN E R rk nr pos b d):kM E R rk (upd nr b d) (pos+1):=by
 have h:=s.inv;have hp:=s.pb;refine⟨?_,?_,?_,?_,?_,?_,?_,?_⟩
 ·rw[kJ _ (Ne.symm s.b0)];exact h.z
 ·intro v u h0 he;by_cases e:v=b
  ·subst e;rw[iH]at he;have:u=d:=oz
   subst this;exact⟨s.rb,h.dR s.g s.dd,s.newD s.dd,s.rkd⟩
  ·rw[kJ _ e]at he;have:=h.tr v u h0 he;exact⟨this.1,this.2.1,s.newD this.2.2.1,this.2.2.2⟩
 ·intro v u hv hu hr;rcases s.oldD hv with rfl|hv
  ·exact s.newD (h.dn u hu oz)
  ·exact s.newD (h.dr v u hv hu hr)
 ·intro v hv hr;by_cases e:rk v=pos
  ·have:v=b:=s.g.inj v b hv s.rb oz;subst this;rw[iH];omega
  ·exact s.newD (h.dn v hv oz)
 ·intro v x hv hx;by_cases e:v=b
  ·subst e;exact s.away (fun k=>hx (.up v d x s.b0 (by rw[iH]) (s.nd.2 k))) (fun e=>hx (e▸.self _))
  ·have hv:0<=nr v:=by rcases s.oldD hv with k|k;exact absurd k e;exact k
   by_cases hc:Ch nr v x
   ·by_cases hb:Ch nr v b
    ·rw[s.split hb]at hx;have h1:=fun k=>hx (.inr k);have h2:¬Ch nr x b:=by grind
     have h3:x≠b:=fun k=>h2 (k▸.self _);have h4:Ch nr b x:=by rcases Ch.tot hb hc with k|k;exact k;exact absurd k h2
     have h5:=s.away h1 h3;exact⟨h5.1,h5.2.trans (h.i2 v b x hv hb h4 h3)⟩
    ·exact absurd ((Ch.keep hb).2 hc) hx
   ·exact h.i1 v x hv hc
 ·intro w a x hw hwa hax hne;by_cases hb:0<=nr b
  ·have:0<=nr w:=by rcases s.oldD hw with rfl|k;exact hb;exact k
   exact h.i2 w a x this (s.sub hb hwa) (s.sub hb hax) hne
  ·by_cases e:w=b
   ·subst e;rcases hwa.inv with rfl|⟨u,h0,he,h2⟩
    ·exact .refl
    ·rw[iH]at he;have:u=d:=oz
     subst this;have hda:=s.nd.1 h2;have hra:rk a<rk w:=by
      have:=s.rkd;rcases h.chrk hda with rfl|k<;>omega
     have hax':=(Ch.keep (s.below hra)).1 hax;obtain⟨u0,hu,_,hd0,hc0⟩:=s.pre;have hx:=h.chD hax' (h.chD hda s.dd);exact .step u0 w (h.i2 u0 a x hd0 (hc0.trans hda) hax' hne) hu (fun e=>hb (e▸hx))
   ·have hb':=s.fresh hb e;have h1:=(Ch.keep hb').1 hwa;have h2:=(Ch.keep (fun k=>hb' (h1.trans k))).1 hax;have:0<=nr w:=by rcases s.oldD hw with k|k;exact absurd k e;exact k
    exact h.i2 w a x this h1 h2 hne
 ·intro v y x h0 he hx;by_cases e:v=b
  ·subst e;rw[iH]at he;have:y=d:=oz
   subst this;rw[s.nd];refine Classical.byContradiction fun hno=>hno ((s.m x).2 fun u hu hd=>?_);have:=hx u hu (s.newD hd);by_cases hc:Ch nr u v
   ·rcases(s.split hc).1 this with k|k
    ·exact k.1
    ·grind
   ·exact(Ch.keep hc).1 this
  ·rw[kJ _ e]at he;have hv:0<=nr v:=oz
   have hold:Ch nr y x:=h.i4 v y x h0 he fun u hu hd=>by
    have h1:=hx u hu (s.newD hd);by_cases hb:0<=nr b
    ·exact s.sub hb h1
    ·exact(Ch.keep (s.fresh hb fun e=>hb (e▸hd))).1 h1
   by_cases hyb:Ch nr y b
   ·rw[s.split hyb];rcases Ch.tot hyb hold with k|k
    ·by_cases hxb:x=b
     ·grind
     ·obtain⟨u0,hu,hr⟩:=s.g.pred v (h.dR s.g hv) h0;have h1:=h.i5 v y u0 b h0 he hu hr hyb (.inr oz);have h2:=hx u0 hu (s.newD (h.dr v u0 hv (s.g.e _ _ hu).1 hr));rcases(s.split h1).1 h2 with k2|k2
      ·grind
      ·exact .inr k2
    ·grind
   ·exact(Ch.keep hyb).2 hold
 ·intro v y u x h0 he hu hr hx hc;by_cases e:v=b
  ·subst e;rw[iH]at he;have:y=d:=oz
   subst this;have h1:=(s.m x).1 (s.nd.1 hx) u hu (h.dn u (s.g.e _ _ hu).1 oz);exact(Ch.keep (s.below hr)).2 h1
  ·rw[kJ _ e]at he;have ht:=h.tr v y h0 he;have:rk v≠pos:=fun k=>e (s.g.inj v b ht.1 s.rb oz);by_cases hlt:rk v<pos
   ·have h1:=(Ch.keep (s.below (show rk y<rk b by omega))).1 hx;exact(Ch.keep (s.below (show rk u<rk b by omega))).2 (h.i5 v y u x h0 he hu hr h1 (.inl hlt))
   ·have hxr:pos+1<=rk x:=oz
    have h1:Ch nr y x:=by
     by_cases hyb:Ch nr y b
     ·rcases(s.split hyb).1 hx with k|k
      ·exact k.1
      ·have:=s.rkd;rcases h.chrk k with rfl|k<;>omega
     ·exact(Ch.keep hyb).1 hx
    have h2:=h.i5 v y u x h0 he hu hr h1 (.inr oz);by_cases hub:Ch nr u b
    ·rw[s.split hub];rcases Ch.tot hub h2 with k|k
     ·rcases h.chrk k with rfl|k<;>omega
     ·grind
    ·exact(Ch.keep hub).2 h2
/-- a step that changes what stood there lowers the rank -/
theorem vN.lower (s:vN E R rk nr pos b d) {y:Nat}(hy:nr b=(y:Int)) (hne:y≠d):rk d<rk y:=by
 rcases s.inv.chrk (s.mv hy (.self d))with k|k
 ·grind
 ·exact k
theorem kM.start (g:Grf E R rk):kM E R rk (upd (fun _ => -1) 0 0) 1:=by
 have hz:∀ v,0<=upd (fun _ => -1) 0 0 v->v=0:=by
  intro v hv;by_cases e:v=0
  ·exact e
  ·rw[kJ _ e]at hv;omega
 have hc:∀ {x},Ch (upd (fun _ => -1) 0 0) 0 x->x=0:=by
  intro x h;rcases h.inv with e|⟨_,k,_⟩
  ·exact e.symm
  ·grind
 refine⟨iH 0 0,?_,?_,?_,?_,?_,?_,?_⟩
 ·grind
 ·intro v u hv _ hr;rw[hz v hv,g.z]at hr;omega
 ·intro v hv hr;have:v=0:=g.inj v 0 hv g.r0 (by rw[g.z];omega);subst this;rw[iH];omega
 ·intro v x hv hx;have:=hz v hv;subst this;exact⟨fun e=>hx (e▸.self _),.refl⟩
 ·grind
 ·grind
 ·grind
theorem kM.again (h:kM E R rk nr pos) (hp:∀ v,R v->rk v<pos):kM E R rk nr 1 :=
 ⟨h.z,h.tr,h.dr,fun v hv _=>h.dn v hv (hp v hv),h.i1,h.i2,h.i4,fun v y u x h0 he hu hr hx _=>h.i5 v y u x h0 he hu hr hx (.inl (hp v (h.tr v y h0 he).1))⟩
/-- where no step changes anything, what stands above dominates -/
theorem kM.dom (h:kM E R rk nr pos) (g:Grf E R rk) (hp:∀ v,R v->rk v<pos) (hq:∀ v,R v->v≠0->∀ u x,E u v->Ch nr (nr v).toNat x->Ch nr u x) {v x:Nat}(hv:R v):Ch nr v x↔¬(x≠0/\Wx E x 0 v):=by
 constructor
 ·rintro hc ⟨hx0,hw⟩;have key:∀ v,Wx E x 0 v->Ch nr v x->False:=by
   intro v hw
   induction hw with
   | refl=>intro hc;exact hx0 (h.root0 hc)
   | step u w _ he hne ih =>
    intro hc;rcases hc.inv with k|⟨y,h0,hy,h2⟩
    ·exact hne k
    ·exact ih (hq w (g.e _ _ he).2 h0 u x he (by grind))
  grind
 ·intro hn;exact Classical.byContradiction fun hc=>hn (h.i1 v x (h.dn v hv (hp v hv)) hc)
theorem kM.meetL (h:kM E R rk nr pos) (g:Grf E R rk) {a b:Nat}(ha:0<=nr a) (hr:rk b<rk a):∃ y:Nat,nr a=(y:Int)/\0<=nr y/\rk y<rk a/\∀ x,(Ch nr y x/\Ch nr b x)↔(Ch nr a x/\Ch nr b x):=by
 have a0:a≠0:=fun e=>by rw[e,g.z]at hr;omega
 have ht:=h.tr a (nr a).toNat a0 oz;refine⟨(nr a).toNat,oz,ht.2.2.1,ht.2.2.2,fun x=>⟨fun k=>⟨.up a _ x a0 oz k.1,k.2⟩,fun k=>?_⟩⟩;rcases k.1.inv with rfl|⟨u,_,he,h2⟩
 ·rcases h.chrk k.2 with e|e
  ·grind
  ·omega
 ·grind
theorem kM.meetR (h:kM E R rk nr pos) (g:Grf E R rk) {a b:Nat}(ha:0<=nr a) (hb:0<=nr b) (hne:a≠b) (hr:¬rk b<rk a):∃ y:Nat,nr b=(y:Int)/\0<=nr y/\rk y<rk b/\∀ x,(Ch nr a x/\Ch nr y x)↔(Ch nr a x/\Ch nr b x):=by
 have:rk a≠rk b:=fun e=>hne (g.inj a b (h.dR g ha) (h.dR g hb) e);obtain⟨y,h2,h3,h4,h5⟩:=h.meetL g hb (b:=a) oz;exact⟨y,h2,h3,h4,fun x=>by rw[and_comm,h5 x,and_comm]⟩
/-- the meet of those that have come -/
def jA (nr:Nat->Int) (us:List Int) (d:Int):Prop :=
 (d = -1/\∀ x∈us,nr x.toNat<0)\/∃ dn:Nat,d=dn/\0<=nr dn/\∀ x,Ch nr dn x↔∀ u∈us,0<=nr u.toNat->Ch nr u.toNat x
theorem jA.nil:jA nr [] (-1):=.inl ⟨rfl,fun x hx=>by simp at hx⟩
theorem jA.pass {us:List Int}{d:Int}{u:Nat}(h:jA nr us d) (hu:nr u<0):jA nr (us++[(u:Int)]) d:=by
 rcases h with⟨h1,h2⟩|⟨dn,h1,h2,h3⟩
 ·refine .inl ⟨h1,fun x hx=>?_⟩;rcases List.mem_append.1 hx with k|k
  ·exact h2 x k
  ·grind
 ·refine .inr ⟨dn,h1,h2,fun x=>(h3 x).trans ⟨fun k v hv hd=>?_,fun k v hv hd=>k v (by simp[hv]) hd⟩⟩;rcases List.mem_append.1 hv with j|j
  ·exact k v j hd
  ·grind
theorem jA.first {us:List Int}{d:Int}{u:Nat}(h:jA nr us d) (hd:d<0) (hu:0<=nr u):jA nr (us++[(u:Int)]) u:=by
 rcases h with⟨h1,h2⟩|⟨dn,h1,h2,h3⟩
 ·refine .inr ⟨u,rfl,hu,fun x=>⟨fun k v hv hd=>?_,fun k=>?_⟩⟩
  ·grind
  ·have:=k u si (by grind)
   grind
 ·omega
theorem jA.meet {us:List Int}{d u a:Nat}(h:jA nr us d) (hu:0<=nr u) (ha:0<=nr a) (hm:∀ x,(Ch nr a x/\Ch nr a x)↔(Ch nr d x/\Ch nr u x)):jA nr (us++[(u:Int)]) a:=by
 rcases h with⟨h1,h2⟩|⟨dn,h1,h2,h3⟩
 ·omega
 ·have e:d=dn:=oz
  subst e;refine .inr ⟨a,rfl,ha,fun x=>?_⟩;constructor
  ·grind
  ·intro k;have:=k u si (by grind)
   grind
end
end
/-- the edges that go from the first k instructions -/
noncomputable def eU (f:aC) (k:Nat):List (Nat×Int):=(List.range k).flatMap fun u=>if(dY f).getD u false then(aY f u).map (fun v=>(u,v))else[]
noncomputable def aW (f:aC):List (Nat×Int):=eU f f.code.length
def aRb (x:Nat×Int):Array Value:=#[.int .i64 x.1,.int .i64 x.2]
theorem dT (f:aC) (k:Nat):eU f (k+1)=eU f k++(if(dY f).getD k false then(aY f k).map (fun v=>(k,v))else[]):=by
 unfold eU;rw[List.range_succ];simp
theorem wK (f:aC) (k:Nat) (hk:k<=f.code.length):eU f k <+: aW f:=by
 unfold aW;obtain⟨m,hm⟩:∃ m,f.code.length=k+m:=⟨f.code.length-k,oz⟩
 rw[hm];clear hm hk
 induction m with
 | zero=>exact List.prefix_refl _
 | succ m ih=>exact ih.trans (by rw[<-Nat.add_assoc,dT];exact List.prefix_append _ _)
theorem aMq (f:aC) (k j:Nat) (hk:k<f.code.length) (hr:(dY f).getD k false=true) (v:Int) (hj:(aY f k)[j]? = some v):(eU f k++((aY f k).take j).map (fun v=>(k,v)))++[(k,v)] <+: aW f:=by
 refine List.IsPrefix.trans ?_ (wK f (k+1) hk);rw[dT,List.append_assoc,List.prefix_append_right_inj];have:((aY f k).take j).map (fun v=>(k,v))++[(k,v)]=((aY f k).take (j+1)).map (fun v=>(k,v)):=by
  rw[List.take_add_one,hj];simp
 grind
/-- the caller's blocks, as the iterator must know of them -/
structure aO0 (own:World->Nat->Prop) (J:List (Nat×Int)->World->Prop) (B0:Nat):Prop where
 lt:∀ pre W k,J pre W->own W k->k<W.heap.size
 st:∀ pre W W' k,J pre W->Below W.heap.size W W'->own W' k->own W k
 base:∀ pre W k,J pre W->own W k->B0<=k
def KpE (own:World->Nat->Prop) (W W':World):Prop:=aG (own W) W W'/\∀ k,own W' k->own W k\/W.heap.size<=k
theorem aOd {p:Prop}(h:p:=by
 rw[List.getD_eq_getElem?_getD,List.getElem?_eq_getElem (by rw[fY];exact hlt)];rfl):p:=h
theorem aK4 (n:Nat) (own:World->Nat->Prop) (J:List (Nat×Int)->World->Prop) (B B0 bx:Nat) (hh:HF) (f:aC) (l:Nat) (W:World)
 (hn0:0<f.code.length) (hn:f.code.length<=1024) (hBB:B<=B0) (hbx:∀ pre W,J pre W->¬own W bx) (hBW:B0<=W.heap.size) (hf:aZ B W hh f)
 (hbox:aF W bx [.string f.name,.slice hh.pa hh.pl hh.pc,.int .i64 f.regs,.int .i64 f.words,.slice hh.ca hh.cl hh.cc])
 (hO:aO0 own J B0) (hJB:∀ pre W W',J pre W->Below W.heap.size W W'->J pre W')
 (hY:∀ pre x W1,J pre W1->pre++[x] <+: aW f->YieldAt Fence.wide (n-1) Tryz.prog l (aRb x) W1 fun e W'=>e=.returned (.bool true)/\J (pre++[x]) W'/\KpE own W1 W')
 (h0:J [] W):CallsIn Fence.wide n Tryz.prog 56 #[.func (.yield l) #[] #[],.pointer (some ⟨bx,0,none⟩)] W fun e W'=>(∃ v,e=.returned v)/\∃ xs,xs=aW f/\J xs W':=by
 have b5:=aX hbox;have HX:=qd hbox;clear hbox;have HRc:=qd (aBf B hh f W oz hf hn0 hn);have HF:=qd hf;clear hf;have HJ:=qd h0;clear h0;unfold aI at HRc;refine callsIn_of_wp Tryz.func56 rfl trivial ?_ rfl;simp only[Tryz.ntmps56,List.size_toArray,List.length_cons,List.length_nil,Nat.reduceAdd,Nat.reduceSub,Array.replicate_succ,Array.replicate_zero,List.push_toArray,List.append_toArray,List.nil_append,List.cons_append];gi_wp2_with (refine⟨trivial,(fun h=>absurd h dc),?_⟩;gi_at_call 57;refine(callsIn_wide.2 HRc.out).mono ?_;rintro e w1 ⟨rv,rfl,hb1,hr1,hf1⟩;obtain⟨rb,rc,rfl,hrc,hrm,hrl⟩:=bB hr1 (by rw[fY];exact hn0);rw[fY]at hr1 ⊢)
 have hz1:=hb1.size;have hnr:¬own w1 rb:=fun h=>by
  have h1:=hO.st _ _ _ _ HJ.out hb1 h;have h2:=hO.lt _ _ _ HJ.out h1;have h3:=hf1 rb rfl;omega
 have HJ1:=qd (hJB _ _ _ HJ.out hb1);have HX1:=qd (HX.out.below hb1);have HF1:=qd (HF.out.same (aQ.of hb1 oz));have HR1:=qd hr1;clear hr1;have hn':f.code.length<=9223372036854775807:=oz
 clear hf1 HJ HX HF HRc b5;gi_loopw [10] (fun i wr=>∃ k:Nat,k<=f.code.length/\i=.int .i64 k/\Hid (J (eU f k) wr)/\¬own wr rb/\Hid (aF wr bx [.string f.name,.slice hh.pa hh.pl hh.pc,.int .i64 f.regs,.int .i64 f.words,.slice hh.ca hh.cl hh.cc])/\Hid (aZ B wr hh f)/\Hid (wr.ownsRow 0 4 1 (.slice (some ⟨rb,0,none⟩) f.code.length rc) f.code.length (bQ (dY f)))/\B0<=wr.heap.size)
  (fun i _=>f.code.length-(intOf i).toNat)
 case atStart=>exact⟨0,Nat.zero_le _,rfl,HJ1,hnr,HX1,HF1,HR1,oz⟩
 case round =>
  clear HJ1 HX1 HF1 HR1 hnr hz1 hb1 hrl;obtain⟨k,hk,rfl,hJ,hnr,hX,hF,hR,hB0⟩:=hrel;have b5:=aX hX.out;have hrl:=bJ hR.out;by_cases hlt:k<f.code.length
  ·have d2:(k:Int)<(f.code.length:Int):=oz
   have hwk:IntKind.i64.wrap ((k:Int)+1)=(k:Int)+1:=IntWalk.i64_in _ oz;have hgr:(dY f)[k]? = some ((dY f).getD k false):=aOd
   have c0:=aH hR.out (kW hgr);have HS:=qd (dT f k);have HP:=qd (fun hr j v hj=>aMq f k j hlt hr v hj);clear hgr;generalize (dY f).getD k false=m at *;cases m
   ·gi_wp2
    go_roundw
    case rel=>exact⟨k+1,oz,si,qd (by rw[HS.out];simpa using hJ.out),hnr,hX,hF,hR,hB0⟩
    case measure=>go_light;exact ml
   ·have HN:=qd (qO B hh f k wr oz hF.out hlt);unfold aI at HN;gi_wp2_with (refine⟨trivial,(fun h=>absurd h dc),?_⟩;gi_at_call 46;refine(callsIn_wide.2 HN.out).mono ?_;rintro e w2 ⟨nv,rfl,hb2,hr2,hf2,hn2⟩;obtain⟨va,vc,rfl⟩:∃ va vc,nv=.slice va (aY f k).length vc:=(by rcases bU hr2 with⟨rfl,h0,_⟩|⟨g,c,rfl,_,_,_⟩;exact⟨none,0,by rw[h0]⟩;exact⟨_,_,rfl⟩))
    have hz2:=hb2.size;have hnr2:¬own w2 rb:=fun h=>hnr (hO.st _ _ _ _ hJ.out hb2 h);have hng2:∀ g,va=some ⟨g,0,none⟩->¬own w2 g:=fun g e h=>by
     have h1:=hO.lt _ _ _ hJ.out (hO.st _ _ _ _ hJ.out hb2 h);have h2:=hf2 g (by rw[e];rfl);omega
    have HJ2:=qd (hJB _ _ _ hJ.out hb2);have HX2:=qd (hX.out.below hb2);have HF2:=qd (hF.out.same (aQ.of hb2 oz));have HR2:=qd (aA hb2 hR.out);have HN2:=qd hr2;clear hr2;have hnl:=iS f k;clear hf2 hn2 hJ hX hF hR HN b5 c0 hnr hrl;generalize aY f k=nl at *;have hnl':nl.length<=9223372036854775807:=oz
    gi_loopw [21] (fun i wx=>∃ j:Nat,j<=nl.length/\i=.int .i64 j/\Hid (J (eU f k++(nl.take j).map (fun v=>(k,v))) wx)/\¬own wx rb/\(∀ g,va=some ⟨g,0,none⟩->¬own wx g)/\Hid (aF wx bx [.string f.name,.slice hh.pa hh.pl hh.pc,.int .i64 f.regs,.int .i64 f.words,.slice hh.ca hh.cl hh.cc])/\Hid (aZ B wx hh f)/\Hid (wx.ownsRow 0 4 1 (.slice (some ⟨rb,0,none⟩) f.code.length rc) f.code.length (bQ (dY f)))/\Hid (wx.ownsRow 0 3 1 (.slice va nl.length vc) nl.length (aR nl))/\B0<=wx.heap.size)
     (fun i _=>nl.length-(intOf i).toNat)
    case atStart=>exact⟨0,Nat.zero_le _,rfl,qd (by simpa using HJ2.out),hnr2,hng2,HX2,HF2,HR2,HN2,oz⟩
    case round =>
     clear HJ2 HX2 HF2 HR2 HN2 hnr2 hng2 hz2 hb2;rename_i wq;obtain⟨j,hj,rfl,hJ,hnr,hng,hX,hF,hR,hN,hB1⟩:=hrel;have b5:=aX hX.out;by_cases hjt:j<nl.length
     ·have d3:(j:Int)<(nl.length:Int):=oz
      have hwj:IntKind.i64.wrap ((j:Int)+1)=(j:Int)+1:=IntWalk.i64_in _ oz;obtain⟨g,gc,hgv,-,-,hgl⟩:=bB hN.out oz;cases hgv;have hgj:nl[j]? = some (nl[j]'hjt):=List.getElem?_eq_getElem hjt;have n0:=aH hN.out (aV hgj);obtain⟨fn,tmps,assign,body,hy,hRd⟩:=hY _ (k,nl[j]'hjt) wr hJ.out (HP.out si j _ hgj);unfold aRb at hy;dsimp only at hy;have hng':=hng g rfl;have hTk:nl.take (j+1)=nl.take j++[nl[j]'hjt]:=by rw[List.take_add_one,hgj];rfl
      have HTK:=qd hTk;clear hTk hgj;generalize nl[j]'hjt=v at *;have HRd:=qd hRd;clear hRd;gi_wp2;refine⟨fun h=>absurd h dc,HRd.out.mono ?_⟩;rintro e W3 ⟨rfl,hJ3,hc3,hk3⟩;have hz3:=hc3.size;have s1:¬own W3 rb:=fun h=>by rcases hk3 _ h with h|h;exact hnr h;have:=bJ hR.out;omega
      have s2:¬own W3 g:=fun h=>by rcases hk3 _ h with h|h;exact hng' h;omega
      have s3:¬own wr bx:=hbx _ _ hJ.out;have X3:=hc3.own hX.out s3;have F3:=hF.out.same (hc3.same (show B<=wr.heap.size by omega) (fun q hq h=>by have:=hO.base _ _ _ hJ.out h;omega));have R3:=aN hc3 hR.out (fun q hq h=>by have e:rb=q:=eL hq;subst e;exact hnr h);have N3:=aN hc3 hN.out (fun q hq h=>by have e:g=q:=eL hq;subst e;exact hng' h);have x5:=aX X3;gi_wp2
      go_roundw
      case rel=>exact⟨j+1,oz,si,qd (by rw[HTK.out,List.map_append,<-List.append_assoc];exact hJ3),s1,(fun g' e=>by cases e;exact s2),qd X3,qd F3,qd R3,qd N3,oz⟩
      case measure=>go_light;exact ml
     ·have hjj:j=nl.length:=oz
      subst hjj;have d3:¬(nl.length:Int)<(nl.length:Int):=oz
      gi_wp2
      go_roundw
      case rel=>exact⟨k+1,oz,si,qd (by have h:=hJ.out;rw[List.take_length]at h;rw[HS.out];simpa using h),hnr,hX,hF,hR,hB1⟩
      case measure=>go_light;exact ml
  ·have hkk:k=f.code.length:=oz
   subst hkk;have d2:¬(f.code.length:Int)<(f.code.length:Int):=oz
   gi_wp2
   go_end0
   first|exact⟨⟨_,rfl⟩,_,rfl,hJ.out⟩|exact⟨⟨_,rfl⟩,hJ.out⟩|exact hJ.out
/-- what Edges keeps of its argument -/
def wR (w:World) (hh:HF) (f:aC):World:=w.alloc (.cells #[.string f.name,.slice hh.pa hh.pl hh.pc,.int .i64 f.regs,.int .i64 f.words,.slice hh.ca hh.cl hh.cc] 42)
theorem uX (hh:HF) (f:aC) (w:World):Calls Tryz.prog 22 #[aI hh f] w fun e w'=>e=.returned (.func (.func 56) #[] #[.pointer (some ⟨w.heap.size,0,none⟩)])/\w'=wR w hh f:=by
 have hmf:=@mkF Tryz.prog;unfold aI wR;go_enter Tryz.func22,Tryz.ntmps22;go_wp2;go_ret;exact⟨rfl,rfl⟩
theorem pO {g:Operand}{ps:Array Tmp}{assign body:Code}{Q:Exit->Act->World->Prop}{a:Act}{w:World}(own:World->Nat->Prop) (I:List (Nat×Int)->World->Prop) (B B0 bx:Nat) (hh:HF) (f:aC)
 (hg:a.eval g=.func (.func 56) #[] #[.pointer (some ⟨bx,0,none⟩)]) (hps:ps.size=2)
 (hn0:0<f.code.length) (hn:f.code.length<=1024) (hBB:B<=B0) (hBw:B0<=w.heap.size) (hf:aZ B w hh f)
 (hbox:aF w bx [.string f.name,.slice hh.pa hh.pl hh.pc,.int .i64 f.regs,.int .i64 f.words,.slice hh.ca hh.cl hh.cc])
 (hO:aO0 own I B0) (hbx:∀ pre W,I pre W->¬own W bx)
 (hIB:∀ pre W W',I pre W->Below W.heap.size W W'->I pre W') (hIT:∀ pre W W',I pre W->iF w.heap.size W W'->I pre W') (hOT:∀ pre W W' k,I pre W->iF w.heap.size W W'->(own W' k↔own W k)) (h0:I [] w)
 (hround:∃ a₁:(Nat×Int)->Act,(∀ (l:Nat) (x:Nat×Int) (W:World) (K:Act->World->Prop),K (a₁ x) W ->
   assign.wpIn (Fence.wide.inRound l) 0 Tryz.prog (Exit.then K (fun _ _ _=>False)) { tmps:=(ps.zip (aRb x)).foldl (fun t (p,v)=>t.setIfInBounds p v) a.tmps,defers:=[] } W) /\
   (∀ (l:Nat) (pre:List (Nat×Int)) (x:Nat×Int) (W:World),I pre W->pre++[x] <+: aW f->w.heap.size+1<W.heap.size ->
   body.wpIn (Fence.wide.inRound l) 0 Tryz.prog (aI0 fun W'=>(∀ k,w.heap.size<=k->k<w.heap.size+2->W'.heap[k]? = W.heap[k]?)/\KpE own W W'/\I (pre++[x]) W') (a₁ x) W))
 (hdone:∀ W:World,I (aW f) W->W.heap[w.heap.size]? = some (.deferred (some []))->Q .normal { a with defers:={ target:=.collected w.heap.size,args:=#[] }::a.defers } W) :
 (Code.rangeFunc g ps assign body).wp Tryz.prog Q a w:=by
 obtain⟨a₁,hassign,hbody⟩:=hround;refine(wpIn_wide (n:=2)).1 ?_;refine aCe 56 #[.pointer (some ⟨bx,0,none⟩)] hg (fun _ _=>rfl) aRb (fun x=>by rw[hps];rfl) I hIB hIT h0 (fun xs=>xs=aW f) (fun pre x=>pre++[x] <+: aW f) (fun pre x W W'=>KpE own W W'/\I (pre++[x]) W') ?_ ?_ a₁ hassign ?_ ?_
 ·rintro pre x W Wb W3 W' hi tb ⟨⟨hc,hk⟩,hi3⟩ te hkk hoo;have e1:∀ k,own Wb k↔own W k:=fun k=>hOT _ _ _ k hi tb;have e2:∀ k,own W' k↔own W3 k:=fun k=>hOT _ _ _ k hi3 te;have s1:=tb.size;have s2:=te.size;have s3:=hc.size;refine⟨⟨⟨te.os.trans (hc.os.trans tb.os),te.tape.trans (hc.tape.trans tb.tape),te.output.trans (hc.output.trans tb.output),oz,?_⟩,?_⟩,hIT _ _ _ hi3 te⟩
  ·intro k hk1 hk2;by_cases e:k=w.heap.size+1
   ·exact hkk k oz oz
   ·rw[(hoo k e).2,hc.block k (by omega) (fun h=>hk2 ((e1 k).1 h)),(hoo k e).1]
  ·intro k h;rcases hk k ((e2 k).1 h)with h|h
   ·exact .inl ((e1 k).1 h)
   ·exact .inr oz
 ·intro l W J hJI hJB hbel hY hJ0;refine aK4 (2-1) own J B B0 bx hh f l W hn0 hn hBB (fun pre W h=>hbx pre W (hJI _ _ h)) (by have:=hbel.size;omega) (hf.same (aQ.of hbel oz)) (hbox.below hbel) ⟨fun pre W k h=>hO.lt pre W k (hJI _ _ h),fun pre W W' k h=>hO.st pre W W' k (hJI _ _ h),fun pre W k h=>hO.base pre W k (hJI _ _ h)⟩ hJB ?_ hJ0;intro pre x W1 h1 h2;obtain⟨fn,tmps,assign,body,hy,hr⟩:=hY pre x W1 h1 h2;exact⟨fn,tmps,assign,body,hy,hr.mono fun e W' h=>⟨h.1,h.2.1,h.2.2.1⟩⟩
 ·intro l pre x W h1 h2 h3;refine wpIn_mono (hbody l pre x W h1 h2 h3) ?_;rintro e a3 W3 hp;cases e with
  | normal=>exact⟨hp.1,⟨hp.2.1,hp.2.2⟩,hp.2.2⟩
  | ret=>exact hp
  | exit id=>exact hp
  | goto t=>exact hp
  | panic ch=>exact hp
  | outgrown=>exact hp
 ·intro xs W hS hi hd;subst hS;exact hdone W hi hd
section
/-- an edge between instructions that can be reached -/
def jL (f:aC) (u v:Nat):Prop:=lA f u/\(v:Int)∈aY f u
theorem lY (f:aC) (u v:Nat):(u,(v:Int))∈aW f↔u<f.code.length/\jL f u v:=by
 unfold aW eU jL;rw[List.mem_flatMap];constructor
 ·rintro⟨k,hk,hm⟩;rw[List.mem_range]at hk;by_cases hr:(dY f).getD k false=true
  ·rw[if_pos hr]at hm;obtain⟨x,hx,he⟩:=List.mem_map.1 hm;injection he with e1 e2;subst e1;subst e2;have:(dY f)[k]? = some true:=by
    grind
   exact⟨hk,(mD f k hk).1 this,hx⟩
  ·grind
 ·rintro⟨hk,hr,hm⟩;have:=(mD f u hk).2 hr
  grind
theorem kT (f:aC) (x:Nat×Int) (h:x∈aW f):∃ v:Nat,x.2=v/\v<f.code.length/\x.1<f.code.length:=by
 unfold aW eU at h;rw[List.mem_flatMap]at h;obtain⟨k,hk,hm⟩:=h;rw[List.mem_range]at hk;split at hm
 ·obtain⟨y,hy,rfl⟩:=List.mem_map.1 hm;have:=gQ f k y hy;exact⟨y.toNat,by dsimp only;omega,oz,hk⟩
 ·simp at hm
/-- those that lead to v, of some edges -/
def dV (pre:List (Nat×Int)) (v:Nat):List Int:=(pre.filter (fun x=>x.2==(v:Int))).map (fun x=>(x.1:Int))
theorem aAt (pre:List (Nat×Int)) (u v:Nat) (k:Nat):dV (pre++[(u,(v:Int))]) k=if k=v then dV pre k++[(u:Int)]else dV pre k:=by
 unfold dV;by_cases h:k=v
 ·subst h;simp
 ·grind
theorem vS (f:aC) (v:Nat) (x:Int):x∈dV (aW f) v↔∃ u:Nat,x=u/\u<f.code.length/\jL f u v:=by
 unfold dV;simp only[List.mem_map,List.mem_filter,beq_iff_eq];constructor
 ·rintro⟨⟨u,y⟩,⟨h1,h2⟩,rfl⟩;subst h2;exact⟨u,rfl,(lY f u v).1 h1⟩
 ·rintro⟨u,rfl,h⟩;exact⟨(u,(v:Int)),⟨(lY f u v).2 h,rfl⟩,rfl⟩
theorem aFi (f:aC) (k:Nat):(eU f k).length<=2*k:=by
 induction k with
 | zero=>simp[eU]
 | succ k ih =>
  rw[dT];have:=iS f k;split
  ·grind
  ·simp;omega
theorem jV (f:aC):(aW f).length<=2*f.code.length:=aFi f _
theorem uY (pre:List (Nat×Int)) (v:Nat):(dV pre v).length<=pre.length:=by
 unfold dV;rw[List.length_map];exact List.length_filter_le _ _
/-- nearest dominators as they stand in a list -/
def fG (L:List Int):Nat->Int:=fun v=>L.getD v (-1)
theorem aGc (L:List Int) (b:Nat) (d:Int) (h:b<L.length):fG (L.set b d)=upd (fG L) b d:=by
 funext v;unfold fG upd;by_cases e:v=b
 ·grind
 ·grind
theorem lZ (L:List Int) (v:Nat) (h:v<L.length):L[v]? = some (fG L v):=by
 unfold fG;rw[List.getD_eq_getElem?_getD,List.getElem?_eq_getElem h];rfl
theorem aMj (L:List Int) (b:Nat) (h:b<L.length):upd (fG L) b (fG L b)=fG L:=by
 funext v;unfold upd;split
 ·grind
 ·rfl
/-- ranks, as far as they are told -/
def fB (n:Nat) (l:List Nat) (k:Nat):List Int:=(List.range n).map fun v=>if v∈l.take k then(l.idxOf v:Int)else 0
theorem aGy (n:Nat) (l:List Nat) (k:Nat):(fB n l k).length=n:=by simp[fB]
theorem aEh (n:Nat) (l:List Nat):fB n l 0=List.replicate n 0:=by
 apply List.ext_getElem
 ·simp[fB]
 ·simp[fB]
theorem aOk (l:List Nat) (hn:l.Nodup) (k:Nat) (hk:k<l.length):l.idxOf l[k]=k:=by grind
theorem aF0 (n:Nat) (l:List Nat) (hn:l.Nodup) (k:Nat) (hk:k<l.length) (hl:l[k]<n):(fB n l k).set l[k] (k:Int)=fB n l (k+1):=by
 apply List.ext_getElem
 ·simp[fB]
 ·intro i h1 h2;have:(fB n l (k+1))[i]=if i∈l.take (k+1)then(l.idxOf i:Int)else 0:=by simp[fB]
  have:(fB n l k)[i]'(by grind)=if i∈l.take k then(l.idxOf i:Int)else 0:=by simp[fB]
  have:l.take (k+1)=l.take k++[l[k]]:=by rw[List.take_add_one,List.getElem?_eq_getElem hk];rfl
  by_cases h:l[k]=i
  ·grind
  ·grind
theorem wY (n:Nat) (l:List Nat) (v:Nat) (hv:v∈l) (hn:v<n):(fB n l l.length)[v]? = some (l.idxOf v:Int):=by
 simp[fB,hn,hv]
theorem zF {f:aC}{l:List Nat}(h:jN f l) (h0:0<f.code.length):Grf (jL f) (lA f) l.idxOf:=by
 refine⟨.zero,?_,fun u v hE=>⟨hE.1,.step u v hE.1 hE.2⟩,fun u v hu hv e=>?_,fun v hv hz=>?_⟩
 ·have:=h.head;cases l with
  | nil=>simp at this
  | cons a t=>simp at this;subst this;simp
 ·have h1:=List.idxOf_lt_length_of_mem ((h.mem u).2 hu);have h2:=List.idxOf_lt_length_of_mem ((h.mem v).2 hv);rw[<-List.getElem_idxOf h1,<-List.getElem_idxOf h2];congr 1
 ·obtain⟨p,q,e⟩:=List.append_of_mem ((h.mem v).2 hv);obtain⟨u,hu,hp⟩:=h.pred p v q e hz;have hnd:=h.nodup;have hvp:v∉p:=fun k=>by
   grind
  have:l.idxOf v=p.length:=by rw[e,List.idxOf_append,if_neg hvp];simp
  have:l.idxOf u<p.length:=by rw[e,List.idxOf_append,if_pos hp];exact List.idxOf_lt_length_of_mem hp
  exact⟨u,⟨(h.mem u).1 (by grind),hu⟩,oz⟩
/-- what is left to be lowered -/
def msr (n:Nat) (rk:Nat->Nat) (L:List Int):Nat:=(L.map fun x=>if x<0 then n else rk x.toNat).sum
theorem aTj (g:Int->Nat) (L:List Int) (b:Nat) (d:Int) (h:b<L.length) (hd:g d<g (L.getD b (-1))):((L.set b d).map g).sum<(L.map g).sum:=by
 induction L generalizing b with
 | nil=>simp at h
 | cons x L ih =>
  cases b with
  | zero=>simp at hd ⊢;omega
  | succ b =>
   grind
theorem aTd {n:Nat}{rk:Nat->Nat}{L:List Int}{b d:Nat}(hb:b<L.length) (hd:rk d<n) (h:fG L b<0\/∃ y:Nat,fG L b=y/\rk d<rk y):msr n rk (L.set b (d:Int))<msr n rk L:=by
 refine aTj _ L b d hb ?_;unfold fG at h;rcases h with h|⟨y,h,hr⟩
 ·grind
 ·grind
theorem aB3:∀ (n:Nat) (l:List Nat),l.Nodup->(∀ x∈l,x<n)->l.length<=n:=by
 intro n
 induction n with
 | zero=>intro l _ h;cases l with
  | nil=>simp
  | cons a t=>exact absurd (h a si) oz
 | succ n ih =>
  intro l hn h;have h1:=ih (l.erase n) (hn.erase n) (fun x hx=>by
   have h2:=(hn.mem_erase_iff).1 hx;have:=h x h2.2;omega)
  grind
theorem aH3 {f:aC}{l:List Nat}(h:jN f l) (h0:0<f.code.length):l.length<=f.code.length :=
 aB3 _ _ h.nodup (fun v hv=>lA.lt h0 ((h.mem v).1 hv))
/-- what stands in a sweep behind i of those that are gone over -/
structure Swp (f:aC) (l:List Nat) (m i:Nat) (c:Bool) (L:List Int):Prop where
 len:L.length=f.code.length
 inv:kM (jL f) (lA f) l.idxOf (fG L) (i+1)
 ms:c=true->msr f.code.length l.idxOf L<m
 me:c=false->msr f.code.length l.idxOf L=m
 qt:c=false->∀ v,lA f v->v≠0->l.idxOf v<i+1->∀ u x,jL f u v->0<=fG L u->Ch (fG L) (fG L v).toNat x->Ch (fG L) u x
section
variable {f : aC} {l : List Nat} {m i : Nat} {c : Bool} {L : List Int}
theorem Swp.start (ho:jN f l) (h0:0<f.code.length) (hl:L.length=f.code.length) (h:kM (jL f) (lA f) l.idxOf (fG L) 1):Swp f l (msr f.code.length l.idxOf L) 0 false L :=
 ⟨hl,h,si,fun _=>rfl,fun _ v hv hz hr=>by
  have g:=zF ho h0;have:v=0:=g.inj v 0 hv .zero (by rw[g.z];omega);exact absurd this hz⟩
/-- the vertex that is gone over -/
theorem tI (ho:jN f l) (h0:0<f.code.length) (hi:i+1<l.length):lA f l[i+1]/\l.idxOf l[i+1]=i+1/\l[i+1]≠0/\l[i+1]<f.code.length:=by
 have h1:=(ho.mem _).1 (List.getElem_mem hi);have h2:=aOk l ho.nodup (i+1) hi;refine⟨h1,h2,fun e=>?_,lA.lt h0 h1⟩;have g:=zF ho h0;rw[e,g.z]at h2;omega
theorem Swp.stp (s:Swp f l m i c L) (ho:jN f l) (h0:0<f.code.length) (hi:i+1<l.length) {d:Int}(hd:jA (fG L) (dV (aW f) l[i+1]) d) :
 ∃ dn:Nat,d=dn/\vN (jL f) (lA f) l.idxOf (fG L) (i+1) l[i+1] dn:=by
 have g:=zF ho h0;obtain⟨h1,h2,h3,h4⟩:=tI ho h0 hi;have hmem:∀ u,jL f u l[i+1]↔(u:Int)∈dV (aW f) l[i+1]:=by
  intro u;rw[vS];constructor
  ·intro he;exact⟨u,rfl,lA.lt h0 he.1,he⟩
  ·grind
 rcases hd with⟨_,hno⟩|⟨dn,e,hdn,hm⟩
 ·obtain⟨u,he,hr⟩:=g.pred _ h1 h3;have:=s.inv.dn u he.1 oz;have:=hno u ((hmem u).1 he);rw[Int.toNat_natCast]at this;omega
 ·refine⟨dn,e,s.inv,g,h1,h2,h3,hdn,fun x=>(hm x).trans ⟨fun k u he hu=>?_,fun k u hu hd=>?_⟩⟩
  ·have:=k u ((hmem u).1 he) (by  exact hu)
   simp_all
  ·obtain⟨u',e2,_,he⟩:=(vS f _ u).1 hu
   simp_all
theorem Swp.same (s:Swp f l m i c L) (ho:jN f l) (h0:0<f.code.length) (hi:i+1<l.length) {d:Int}(hd:jA (fG L) (dV (aW f) l[i+1]) d) (he:fG L l[i+1]=d):Swp f l m (i+1) c L:=by
 obtain⟨dn,rfl,st⟩:=s.stp ho h0 hi hd;obtain⟨h1,h2,h3,h4⟩:=tI ho h0 hi;have hn:=st.next;rw[<-he,aMj L _ (by rw[s.len];exact h4)]at hn;refine⟨s.len,hn,s.ms,s.me,fun hc v hv hz hr u x hE hu hx=>?_⟩;by_cases e:l.idxOf v=i+1
 ·have:v=l[i+1]:=st.g.inj v _ hv h1 oz;subst this;rw[he]at hx;exact(st.m x).1 hx u hE hu
 ·exact s.qt hc v hv hz oz u x hE hu hx
theorem Swp.chg (s:Swp f l m i c L) (ho:jN f l) (h0:0<f.code.length) (hi:i+1<l.length) {d:Int}(hd:jA (fG L) (dV (aW f) l[i+1]) d) (he:fG L l[i+1]≠d):Swp f l m (i+1) true (L.set l[i+1] d):=by
 obtain⟨dn,rfl,st⟩:=s.stp ho h0 hi hd;obtain⟨h1,h2,h3,h4⟩:=tI ho h0 hi;have hb:l[i+1]<L.length:=by rw[s.len];exact h4
 have hn:=st.next;rw[<-aGc L _ _ hb]at hn;refine⟨by rw[List.length_set];exact s.len,hn,fun _=>?_,si,si⟩;have hlt:msr f.code.length l.idxOf (L.set l[i+1] (dn:Int))<msr f.code.length l.idxOf L:=by
  refine aTd hb ?_ ?_
  ·have:=st.rkd;have:=aH3 ho h0;omega
  ·by_cases hneg:fG L l[i+1]<0
   ·grind
   ·refine .inr ⟨(fG L l[i+1]).toNat,oz,st.lower (y:=(fG L l[i+1]).toNat) oz oz⟩
 cases c with
 | false=>rw[<-s.me rfl];exact hlt
 | true=>have:=s.ms rfl;omega
/-- what dom.Tree tells -/
structure vZ (f:aC) (near:List Int) (nr:Nat->Int) (rk:Nat->Nat):Prop where
 len:near.length=f.code.length
 z:near[0]? = some (-1)
 at_:∀ v,0<v->v<f.code.length->near[v]? = some (nr v)
 nz:nr 0=0
 up:∀ v u:Nat,v≠0->nr v=(u:Int)->lA f v/\lA f u/\rk u<rk v
 dn:∀ v,lA f v->0<=nr v
 dom:∀ v x,lA f v->(Ch nr v x↔¬(x≠0/\Wx (jL f) x 0 v))
theorem Swp.fin (s:Swp f l m i false L) (ho:jN f l) (h0:0<f.code.length) (hi:¬i+1<l.length):vZ f (L.set 0 (-1)) (fG L) l.idxOf:=by
 have g:=zF ho h0;have hp:∀ v,lA f v->l.idxOf v<i+1:=fun v hv=>by
  have:=List.idxOf_lt_length_of_mem ((ho.mem v).2 hv);omega
 refine⟨by rw[List.length_set];exact s.len,by rw[List.getElem?_set_self (by rw[s.len];exact h0)],fun v hv hl=>?_,s.inv.z,fun v u hv he=>?_,fun v hv=>s.inv.dn v hv (hp v hv),fun v x hv=>?_⟩
 ·rw[List.getElem?_set_ne (by omega)];exact lZ L v (by rw[s.len];exact hl)
 ·have:=s.inv.tr v u hv he
  grind
 ·exact s.inv.dom g hp (fun v hv hz u x hE hx=>s.qt rfl v hv hz (hp v hv) u x hE (s.inv.dn u hE.1 (hp u hE.1)) hx) hv
theorem Swp.more (s:Swp f l m i true L) (ho:jN f l) (hi:¬i+1<l.length):kM (jL f) (lA f) l.idxOf (fG L) 1/\msr f.code.length l.idxOf L<m :=
 ⟨s.inv.again fun v hv=>by have:=List.idxOf_lt_length_of_mem ((ho.mem v).2 hv);omega,s.ms rfl⟩
theorem aI4 (n:Nat) (h:0<n):fG ((List.replicate n (-1)).set 0 0)=upd (fun _ => -1) 0 0:=by
 rw[aGc _ _ _ (by grind)];unfold fG
 grind
end
end
section
theorem tP (l:List Int) (i:Nat) (d:Int):(aR l).set i (.int .i64 d)=aR (l.set i d):=by simp[aR]
theorem aQ6 (n:Nat):madeCells #[.int .i64 0] n=(aR (List.replicate n 0)).toArray:=by
 apply Array.ext
 ·simp[madeCells,aR]
 ·intro i h1 h2;simp[madeCells,aR,Nat.mod_one]
theorem aF3 (n:Nat):madeCells #[.slice none 0 0] n=(List.replicate n (Value.slice none 0 0)).toArray:=by
 apply Array.ext
 ·simp[madeCells]
 ·intro i h1 h2;simp[madeCells,Nat.mod_one]
theorem Tryz.infoS:(Tryz.prog.info? 50).map (fun i=>(i.zero,i.size,i.bytes))=some (some (.slice none 0 0),1,24):=kr
/-- an own row of own rows of numbers -/
structure cK (W:World) (lo fb n:Nat) (G:Nat->List Int) (S:List Value):Prop where
 row:W.ownsRow 0 50 1 (.slice (some ⟨fb,0,none⟩) n n) n S
 len:S.length=n
 each:∀ v s,S[v]? = some s->W.ownsRow 0 3 1 s (G v).length (aR (G v))
 low:∀ (v:Nat) s k,S[v]? = some s->s.ownBlock=some k->lo<=k
 lf:fb<lo
 dis:∀ (u v:Nat) s t k,S[u]? = some s->S[v]? = some t->s.ownBlock=some k->t.ownBlock=some k->u=v
/-- the blocks of such rows -/
def sT (fb n:Nat) (W:World) (k:Nat):Prop:=k=fb\/∃ v l c,v<n/\W.cell? ⟨fb,v,none⟩=some (.slice (some ⟨k,0,none⟩) l c)
section
variable {W : World} {lo fb n : Nat} {G : Nat -> List Int} {S : List Value}
theorem cK.at (h:cK W lo fb n G S) {v:Nat}(hv:v<n):∃ s,S[v]? = some s:=⟨S[v]'(by rw[h.len];exact hv),List.getElem?_eq_getElem _⟩
theorem cK.cell (h:cK W lo fb n G S) {v:Nat}{s:Value}(hs:S[v]? = some s):W.cell? ⟨fb,v,none⟩=some s:=aH h.row hs
theorem cK.form (h:cK W lo fb n G S) {v:Nat}{s:Value}(hs:S[v]? = some s):∃ a c,s=.slice a (G v).length c:=by
 rcases bU (h.each v _ hs)with⟨h1,h2,_⟩|⟨g,c,h1,_⟩
 ·grind
 ·grind
theorem cK.ofOwn (h:cK W lo fb n G S) {k:Nat}(hk:sT fb n W k):k=fb\/∃ (v:Nat) (s:Value),S[v]? = some s/\s.ownBlock=some k:=by
 rcases hk with hk|⟨v,l,c,hv,hk⟩
 ·exact .inl hk
 ·obtain⟨s,e⟩:=h.at hv;have:=h.cell e;rw[hk]at this;injection this with this;subst this;exact .inr ⟨v,_,e,rfl⟩
theorem cK.toOwn (h:cK W lo fb n G S) {k v:Nat}{s:Value}(hs:S[v]? = some s) (hk:s.ownBlock=some k):sT fb n W k:=by
 have hv:v<n:=by have:=(List.getElem?_eq_some_iff.1 hs).1;rw[h.len]at this;exact this
 rcases bU (h.each v s hs)with⟨h1,h2,_⟩|⟨g,c,h1,_⟩
 ·rw[h1]at hk;cases hk
 ·rw[h1]at hk;injection hk with hk;subst hk;exact .inr ⟨v,_,c,hv,by rw[h.cell hs,h1]⟩
theorem cK.ownLt (h:cK W lo fb n G S) {k:Nat}(hk:sT fb n W k):k<W.heap.size:=by
 rcases h.ofOwn hk with rfl|⟨v,s,hs,hk⟩
 ·exact bJ h.row
 ·exact cA (h.each v s hs) hk
theorem cK.ownGe (h:cK W lo fb n G S) {k:Nat}(hk:sT fb n W k):k=fb\/lo<=k:=by
 rcases h.ofOwn hk with rfl|⟨v,s,hs,hk⟩
 ·simp
 ·exact .inr (h.low v s k hs hk)
/-- as long as the blocks stay -/
theorem cK.chg {T:Nat->Prop}{W':World}(h:cK W lo fb n G S) (hc:aG T W W') (hT:∀ k,sT fb n W k->¬T k):cK W' lo fb n G S :=
 ⟨aN hc h.row (fun k hk=>hT k (.inl (by simpa[Value.ownBlock,eq_comm]using hk))),h.len,fun v s hs=>aN hc (h.each v s hs) (fun k hk=>hT k (h.toOwn hs hk)),h.low,h.lf,h.dis⟩
theorem cK.below {W':World}(h:cK W lo fb n G S) (hc:Below W.heap.size W W'):cK W' lo fb n G S:=h.chg (T:=fun _=>False) (aG.of hc) (fun _ _ h=>h)
theorem cK.chgLow {T:Nat->Prop}{W':World}(h:cK W lo fb n G S) (hc:aG T W W') (hT:∀ k,T k->k<lo) (hf:¬T fb):cK W' lo fb n G S :=
 h.chg hc (fun k hk ht=>by
  rcases h.ownGe hk with rfl|h2
  ·exact hf ht
  ·have:=hT k ht;omega)
/-- a number more in one of the rows -/
theorem cK.push {W':World}{v:Nat}{s s':Value}{x:Int}(h:cK W lo fb n G S) (hs:S[v]? = some s) (hc:aG (fun k=>s.ownBlock=some k) W W')
 (hr:W'.ownsRow 0 3 1 s' ((G v).length+1) (aR (G v)++aR [x])) (hb:∀ k,s'.ownBlock=some k->s.ownBlock=some k\/W.heap.size<=k) (hlo:lo<=W.heap.size) :
 cK (W'.setCell ⟨fb,v,none⟩ s') lo fb n (fun k=>if k=v then G v++[x]else G k) (S.set v s')/\KpE (sT fb n) W (W'.setCell ⟨fb,v,none⟩ s'):=by
 have hself:(S.set v s')[v]? = some s':=by grind
 have hoth:∀ u,u≠v->(S.set v s')[u]? = S[u]? := by grind
 have hfs:¬s.ownBlock=some fb:=fun e=>by have:=h.low v s fb hs e;have:=h.lf;omega
 have hfr:=bJ h.row;have hrow:=aN hc h.row (fun k hk=>by have:fb=k:=eL hk;subst this;exact hfs);have hst:aG (· = fb) W' (W'.setCell ⟨fb,v,none⟩ s'):=aG.setCell (S:=(· = fb)) (aG.refl _ _) (p:=⟨fb,v,none⟩) (Or.inl rfl) _;have hb':∀ k,s'.ownBlock=some k->k≠fb:=fun k hk e=>by
  subst e;rcases hb _ hk with h1|h1
  ·exact hfs h1
  ·omega
 have hlow:∀ (u:Nat) (t:Value) k,(S.set v s')[u]? = some t->t.ownBlock=some k->lo<=k:=by
  intro u t k hu hk;by_cases e:u=v
  ·subst e;rw[hself]at hu;cases hu;rcases hb k hk with h1|h1
   ·exact h.low u s k hs h1
   ·omega
  ·rw[hoth u e]at hu;exact h.low u t k hu hk
 have hdis1:∀ (u:Nat) (t:Value) k,u≠v->S[u]? = some t->t.ownBlock=some k->¬s.ownBlock=some k:=fun u t k hu ht hk e=>hu (h.dis u v t s k ht hs hk e);have hF:cK (W'.setCell ⟨fb,v,none⟩ s') lo fb n (fun k=>if k=v then G v++[x]else G k) (S.set v s'):=by
  refine⟨cH hrow v s',by rw[List.length_set];exact h.len,?_,hlow,h.lf,?_⟩
  ·intro u t hu;by_cases e:u=v
   ·subst e;rw[hself]at hu;cases hu;rw[if_pos rfl,List.length_append,bK];exact aN hst hr (fun k hk e=>hb' k hk e)
   ·rw[hoth u e]at hu;rw[if_neg e];exact aN hst (aN hc (h.each u t hu) (fun k hk=>hdis1 u t k e hu hk)) (fun k hk e2=>by have:=h.low u t k hu hk;have:=h.lf;omega)
  ·intro u1 u2 t1 t2 k h1 h2 k1 k2;by_cases e1:u1=v
   ·by_cases e2:u2=v
    ·omega
    ·subst e1;rw[hself]at h1;cases h1;rw[hoth u2 e2]at h2;rcases hb k k1 with h3|h3
     ·grind
     ·have:=cA (h.each u2 t2 h2) k2;omega
   ·rw[hoth u1 e1]at h1;by_cases e2:u2=v
    ·subst e2;rw[hself]at h2;cases h2;rcases hb k k2 with h3|h3
     ·grind
     ·have:=cA (h.each u1 t1 h1) k1;omega
    ·rw[hoth u2 e2]at h2;exact h.dis u1 u2 t1 t2 k h1 h2 k1 k2
 refine⟨hF,?_,?_⟩
 ·refine aG.trans2 (hc.mono fun k _ hk=>h.toOwn hs hk) hst ?_;intro k _ e;exact .inl e
 ·intro k hk;rcases hF.ofOwn hk with rfl|⟨u,t,hu,hk⟩
  ·exact .inl (.inl rfl)
  ·by_cases e:u=v
   ·subst e;rw[hself]at hu;cases hu;rcases hb k hk with h1|h1
    ·exact .inl (h.toOwn hs h1)
    ·grind
   ·rw[hoth u e]at hu;exact .inl (h.toOwn hu hk)
end
theorem gE {b:Nat}{W W':World}(c:iF b W W') {e size n:Nat}{v:Value}{xs:List Value}(h:W.ownsRow 0 e size v n xs):W'.ownsRow 0 e size v n xs:=by
 obtain⟨h1,h2⟩:=h;refine⟨h1,?_⟩;rcases h2 with h2|⟨g,cap,cur,rfl,hb,hh,rest⟩
 ·exact .inl h2
 ·exact .inr ⟨g,cap,cur,rfl,hb,by rw[c.cellsAt hh];exact hh,rest⟩
theorem aF.turn {b:Nat}{W W':World}(c:iF b W W') {k:Nat}{cs:List Value}(o:aF W k cs) (hk:k<b):aF W' k cs :=
 (aG.mk (S:=fun q=>b<=q) c.os c.tape c.output (Nat.le_of_eq c.size.symm) (fun q _ hq=>c.block q (.inl oz))).own o oz
theorem cK.turn {b:Nat}{W W':World}{lo fb n:Nat}{G:Nat->List Int}{S:List Value}(c:iF b W W') (h:cK W lo fb n G S):cK W' lo fb n G S :=
 ⟨gE c h.row,h.len,fun v s hs=>gE c (h.each v s hs),h.low,h.lf,h.dis⟩
theorem sT.iff {fb n k:Nat}{W W':World}(h:W'.heap[fb]? = W.heap[fb]?):sT fb n W' k↔sT fb n W k:=by
 unfold sT;have e:∀ v,W'.cell? ⟨fb,v,none⟩=W.cell? ⟨fb,v,none⟩:=fun v=>World.cell?_of_block h;simp only[e]
/-- what dom.Tree holds -/
structure mO (n:Nat) (w W:World) (fb lb lc:Nat) (K L l:List Int) (G:Nat->List Int) (S:List Value):Prop where
 bel:Below w.heap.size w W
 sz:fb+3<=W.heap.size
 fr:cK W (fb+5) fb n G S
 rank:W.ownsRow 0 3 1 (.slice (some ⟨w.heap.size+1,0,none⟩) n n) n (aR K)
 near:W.ownsRow 0 3 1 (.slice (some ⟨w.heap.size+1+1,0,none⟩) n n) n (aR L)
 lrow:W.ownsRow 0 3 1 (.slice (some ⟨lb,0,none⟩) l.length lc) l.length (aR l)
 box:aF W (fb+1) [.slice (some ⟨fb,0,none⟩) n n]
 l1:w.heap.size+3<=lb
 l2:lb<fb
section
variable {n : Nat} {w W W' : World} {fb lb lc : Nat} {K L l : List Int} {G : Nat -> List Int} {S : List Value}
theorem mO.below (h:mO n w W fb lb lc K L l G S) (hb:Below W.heap.size W W'):mO n w W' fb lb lc K L l G S :=
 ⟨h.bel.trans (hb.mono h.bel.size),Nat.le_trans h.sz hb.size,h.fr.below hb,aA hb h.rank,aA hb h.near,aA hb h.lrow,h.box.below hb,h.l1,h.l2⟩
theorem mO.turn (h:mO n w W fb lb lc K L l G S) (c:iF (fb+3) W W'):mO n w W' fb lb lc K L l G S :=
 ⟨h.bel.trans (c.below.mono (by have:=h.l1;have:=h.l2;omega)),by rw[c.size];exact h.sz,h.fr.turn c,gE c h.rank,gE c h.near,gE c h.lrow,h.box.turn c oz,h.l1,h.l2⟩
theorem mO.push (h:mO n w W fb lb lc K L l G S) (hsz:fb+5<=W.heap.size) {v:Nat}{s s':Value}{x:Int}(hs:S[v]? = some s) (hc:aG (fun k=>s.ownBlock=some k) W W')
 (hr:W'.ownsRow 0 3 1 s' ((G v).length+1) (aR (G v)++aR [x])) (hb:∀ k,s'.ownBlock=some k->s.ownBlock=some k\/W.heap.size<=k) :
 mO n w (W'.setCell ⟨fb,v,none⟩ s') fb lb lc K L l (fun k=>if k=v then G v++[x]else G k) (S.set v s')/\KpE (sT fb n) W (W'.setCell ⟨fb,v,none⟩ s'):=by
 obtain⟨h1,h2⟩:=h.fr.push hs hc hr hb hsz;have hn:∀ k,k<fb+5->k≠fb->¬sT fb n W k:=fun k hk hne ho=>by
  rcases h.fr.ownGe ho with e|e
  ·exact hne e
  ·omega
 have l1:=h.l1;have l2:=h.l2;refine⟨⟨h.bel.trans (h2.1.below _ h.bel.size (fun k hk=>hn k oz oz)),Nat.le_trans h.sz h2.1.size,h1,?_,?_,?_,h2.1.own h.box (hn _ oz oz),h.l1,h.l2⟩,h2⟩
 ·exact aN h2.1 h.rank (fun k hk=>hn k (by have:w.heap.size+1=k:=eL hk;omega) (by have:w.heap.size+1=k:=eL hk;omega))
 ·exact aN h2.1 h.near (fun k hk=>hn k (by have:w.heap.size+1+1=k:=eL hk;omega) (by have:w.heap.size+1+1=k:=eL hk;omega))
 ·exact aN h2.1 h.lrow (fun k hk=>hn k (by have:lb=k:=eL hk;omega) (by have:lb=k:=eL hk;omega))
theorem mO.setNear (h:mO n w W fb lb lc K L l G S) (v:Nat) (d:Int):mO n w (W.setCell ⟨w.heap.size+1+1,v,none⟩ (.int .i64 d)) fb lb lc K (L.set v d) l G S:=by
 have hst:aG (· = w.heap.size+1+1) W (W.setCell ⟨w.heap.size+1+1,v,none⟩ (.int .i64 d)):=aG.setCell (S:=(· = w.heap.size+1+1)) (aG.refl _ _) (p:=⟨w.heap.size+1+1,v,none⟩) (Or.inl rfl) _;have l1:=h.l1;have l2:=h.l2;have hN:=cH h.near v (.int .i64 d);rw[tP]at hN;exact⟨h.bel.trans (hst.below _ h.bel.size (fun k hk e=>by omega)),Nat.le_trans h.sz hst.size,h.fr.chgLow hst (fun k e=>by omega) oz,
  aN hst h.rank (fun k hk e=>by have:w.heap.size+1=k:=eL hk;omega),hN,
  aN hst h.lrow (fun k hk e=>by have:lb=k:=eL hk;omega),hst.own h.box oz,h.l1,h.l2⟩
theorem mO.drew (h:mO n w W fb lb lc K L l G S):mO n w W.drew fb lb lc K L l G S:=h.below ((Below.refl _ _).drew)
end
end
section
def kN:Value:=.slice none 0 0
def jJ (s:Nat->Option Value):Int->Option Value:=fun i=>if 0<=i then s i.toNat else none
theorem fC (s:Nat->Option Value) (v:Nat):jJ s (v:Int)=s v:=by simp[jJ]
structure bG (W:World) (lo b0 n:Nat) (G:Nat->Nat->List Int) (S:Nat->Nat->Option Value):Prop where
 map:∀ c,c<3->bY W (b0+c) n (jJ (S c))
 each:∀ c v s,c<3->S c v=some s->W.ownsRow 0 3 1 s (G c v).length (aR (G c v))
 ent:∀ c v,c<3->((S c v).isSome=true↔G c v≠[])
 low:∀ c v s k,c<3->S c v=some s->s.ownBlock=some k->lo<=k
 lb:b0+3<=lo
 dis:∀ c v s d u t k,c<3->d<3->S c v=some s->S d u=some t->s.ownBlock=some k->t.ownBlock=some k->c=d/\v=u
 big:∀ c v,c<3->¬v<1024->S c v=none
/-- the blocks of the graph -/
def pI (b0:Nat) (W:World) (k:Nat):Prop:=(b0<=k/\k<b0+3)\/∃ c v n M l cp,c<3/\v<1024/\bY W (b0+c) n M/\M (v:Nat)=some (.slice (some ⟨k,0,none⟩) l cp)
theorem dI {v:Nat}(h:v<1024):inI (v:Int):=by unfold inI;omega
section
variable {W W' : World} {lo b0 n : Nat} {G : Nat -> Nat -> List Int} {S : Nat -> Nat -> Option Value}
/-- the row at a key, nil where there is none -/
theorem bG.row (h:bG W lo b0 n G S) {c v:Nat}(hc:c<3):W.ownsRow 0 3 1 ((S c v).getD kN) (G c v).length (aR (G c v)):=by
 cases hs:S c v with
 | none =>
  have:G c v=[]:=by
   cases hg:G c v with
   | nil=>rfl
   | cons a t =>
    have:=(h.ent c v hc).2 (by grind)
    grind
  rw[this];exact World.ownsRow_nil _ _ _ _
 | some s=>exact h.each c v s hc hs
theorem bG.ownBlock (h:bG W lo b0 n G S) {c v k:Nat}(hc:c<3) (hk:((S c v).getD kN).ownBlock=some k):∃ s,S c v=some s/\s.ownBlock=some k:=by
 cases hs:S c v with
 | none=>rw[hs]at hk;cases hk
 | some s=>rw[hs]at hk;exact⟨s,rfl,hk⟩
theorem bG.ofOwn (h:bG W lo b0 n G S) {k:Nat}(hk:pI b0 W k):(b0<=k/\k<b0+3)\/∃ c v s,c<3/\S c v=some s/\s.ownBlock=some k:=by
 rcases hk with hk|⟨c,v,n',M,l,cp,hc,hv,hm,hM⟩
 ·exact .inl hk
 ·refine .inr ⟨c,v,.slice (some ⟨k,0,none⟩) l cp,hc,?_,rfl⟩;have:=hm.uniq (h.map c hc) (dI hv);rw[ fC]at this
  grind
theorem bG.toOwn (h:bG W lo b0 n G S) {c v k:Nat}{s:Value}(hc:c<3) (hs:S c v=some s) (hk:s.ownBlock=some k):pI b0 W k:=by
 have hv:v<1024:=by
  refine Classical.byContradiction fun hv=>?_;rw[h.big c v hc hv]at hs;cases hs
 rcases bU (h.each c v s hc hs)with⟨h1,_,_⟩|⟨g,cp,h1,_⟩
 ·rw[h1]at hk;cases hk
 ·rw[h1]at hk;have e:=Option.some.inj hk;subst e;exact .inr ⟨c,v,n,_,_,cp,hc,hv,h.map c hc,by rw[fC,hs,h1]⟩
theorem bG.ownLt (h:bG W lo b0 n G S) {k:Nat}(hk:pI b0 W k):k<W.heap.size:=by
 rcases h.ofOwn hk with⟨h1,h2⟩|⟨c,v,s,hc,hs,hk⟩
 ·have:=(h.map (k-b0) oz).lt;omega
 ·exact cA (h.each c v s hc hs) hk
theorem bG.ownGe (h:bG W lo b0 n G S) {k:Nat}(hk:pI b0 W k):(b0<=k/\k<b0+3)\/lo<=k:=by
 rcases h.ofOwn hk with h1|⟨c,v,s,hc,hs,hk⟩
 ·exact .inl h1
 ·exact .inr (h.low c v s k hc hs hk)
theorem pI.iff {k:Nat}(h:∀ c,c<3->W'.heap[b0+c]? = W.heap[b0+c]?):pI b0 W' k↔pI b0 W k:=by
 constructor
 ·rintro(h1|⟨c,v,n,M,l,cp,hc,hv,hm,hM⟩)
  ·exact .inl h1
  ·exact .inr ⟨c,v,n,M,l,cp,hc,hv,hm.keep (h c hc).symm,hM⟩
 ·rintro(h1|⟨c,v,n,M,l,cp,hc,hv,hm,hM⟩)
  ·exact .inl h1
  ·exact .inr ⟨c,v,n,M,l,cp,hc,hv,hm.keep (h c hc),hM⟩
theorem bG.chg {T:Nat->Prop}(h:bG W lo b0 n G S) (hc:aG T W W') (hT:∀ k,pI b0 W k->¬T k):bG W' lo b0 n G S :=
 ⟨fun c hcc=>(h.map c hcc).chg hc (hT _ (.inl ⟨oz,oz⟩)),fun c v s hcc hs=>aN hc (h.each c v s hcc hs) (fun k hk=>hT k (h.toOwn hcc hs hk)),h.ent,h.low,h.lb,h.dis,h.big⟩
theorem bG.below (h:bG W lo b0 n G S) (hc:Below W.heap.size W W'):bG W' lo b0 n G S:=h.chg (T:=fun _=>False) (aG.of hc) (fun _ _ h=>h)
theorem bG.chgLow {T:Nat->Prop}(h:bG W lo b0 n G S) (hc:aG T W W') (hT:∀ k,T k->k<lo/\¬(b0<=k/\k<b0+3)):bG W' lo b0 n G S :=
 h.chg hc (fun k hk ht=>by
  have:=hT k ht;rcases h.ownGe hk with h1|h2
  ·grind
  ·omega)
theorem bG.turn {b:Nat}(c:iF b W W') (h:bG W lo b0 n G S) (hb:b0+3<=b):bG W' lo b0 n G S :=
 ⟨fun d hd=>(h.map d hd).keep (c.block _ (.inl oz)),fun d v s hd hs=>gE c (h.each d v s hd hs),h.ent,h.low,h.lb,h.dis,h.big⟩
def kD (G:Nat->Nat->List Int) (c v:Nat) (x:Int):Nat->Nat->List Int:=fun d u=>if d=c/\u=v then G c v++[x]else G d u
def aDw (S:Nat->Nat->Option Value) (c v:Nat) (s:Value):Nat->Nat->Option Value:=fun d u=>if d=c/\u=v then some s else S d u
theorem kX (S:Nat->Nat->Option Value) (c v:Nat) (s:Value):aDw S c v s c v=some s:=by simp[aDw]
theorem kZ {S:Nat->Nat->Option Value}{c v d u:Nat}{s:Value}(h:¬(d=c/\u=v)):aDw S c v s d u=S d u:=by simp only[aDw,if_neg h]
theorem lB {G:Nat->Nat->List Int}{c v d u:Nat}{x:Int}(h:¬(d=c/\u=v)):kD G c v x d u=G d u:=by simp only[kD,if_neg h]
theorem vO (G:Nat->Nat->List Int) (c v:Nat) (x:Int):kD G c v x c v=G c v++[x]:=by simp[kD]
/-- a number more in one of the rows -/
theorem bG.push {W1 W2:World}{c v:Nat}{s':Value}{x:Int}(h:bG W lo b0 n G S) (hcc:c<3) (hv:v<1024) (hc:aG (fun k=>((S c v).getD kN).ownBlock=some k) W W1)
 (hr:W1.ownsRow 0 3 1 s' ((G c v).length+1) (aR (G c v)++aR [x])) (hb:∀ k,s'.ownBlock=some k->((S c v).getD kN).ownBlock=some k\/W.heap.size<=k) (hlo:lo<=W.heap.size)
 (hm:bY W2 (b0+c) (n+1) (tV (jJ (S c)) (v:Int) s')) (hc2:aG (· = b0+c) W1 W2) :
 bG W2 lo b0 (n+1) (kD G c v x) (aDw S c v s')/\KpE (pI b0) W W2:=by
 have hlb:=h.lb;have hlow0:∀ k,((S c v).getD kN).ownBlock=some k->lo<=k:=fun k hk=>by
  obtain⟨s,hs,hk⟩:=h.ownBlock hcc hk;exact h.low c v s k hcc hs hk
 have hlow:∀ d u t k,d<3->aDw S c v s' d u=some t->t.ownBlock=some k->lo<=k:=by
  intro d u t k hd ht hk;by_cases e:d=c/\u=v
  ·obtain⟨rfl,rfl⟩:=e;rw[kX]at ht;cases ht;rcases hb k hk with h1|h1
   ·grind
   ·omega
  ·rw[kZ e]at ht;exact h.low d u t k hd ht hk
 have hdis1:∀ d u t k,d<3->¬(d=c/\u=v)->S d u=some t->t.ownBlock=some k->¬((S c v).getD kN).ownBlock=some k:=fun d u t k hd hne ht hk e=>by
  obtain⟨s,hs,e⟩:=h.ownBlock hcc e;exact hne (h.dis d u t c v s k hd hcc ht hs hk e)
 have hrow:∀ d u t,d<3->¬(d=c/\u=v)->S d u=some t->W2.ownsRow 0 3 1 t (G d u).length (aR (G d u)):=fun d u t hd hne ht =>
  aN hc2 (aN hc (h.each d u t hd ht) (fun k hk=>hdis1 d u t k hd hne ht hk)) (fun k hk e=>by have:=h.low d u t k hd ht hk;omega)
 have hF:bG W2 lo b0 (n+1) (kD G c v x) (aDw S c v s'):=by
  refine⟨?_,?_,?_,hlow,h.lb,?_,?_⟩
  ·intro d hd;by_cases e:d=c
   ·subst e;have e2:jJ (aDw S d v s' d)=tV (jJ (S d)) (v:Int) s':=by
     funext i;unfold jJ tV;by_cases hi:0<=i
     ·rw[if_pos hi];by_cases e3:i=(v:Int)
      ·subst e3;rw[if_pos rfl,Int.toNat_natCast,kX]
      ·rw[if_neg e3];dsimp only;rw[if_pos hi,kZ (by omega)]
     ·grind
    grind
   ·have e2:jJ (aDw S c v s' d)=jJ (S d):=by
     funext i;unfold jJ;rw[kZ (by omega)]
    rw[e2];exact((((h.map d hd).chg hc (fun hk=>by have:=hlow0 _ hk;omega)).chg hc2 oz).mono (Nat.le_succ n))
  ·intro d u t hd ht;by_cases e:d=c/\u=v
   ·obtain⟨rfl,rfl⟩:=e;rw[kX]at ht;cases ht;rw[vO,List.length_append,bK];exact aN hc2 hr (fun k hk e=>by
     rcases hb k hk with h1|h1
     ·grind
     ·omega)
   ·rw[kZ e]at ht;rw[lB e]
    grind
  ·intro d u hd;by_cases e:d=c/\u=v
   ·obtain⟨rfl,rfl⟩:=e;rw[kX,vO];simp
   ·rw[kZ e,lB e];exact h.ent d u hd
  ·intro d1 u1 t1 d2 u2 t2 k hd1 hd2 h1 h2 k1 k2;by_cases e1:d1=c/\u1=v
   ·by_cases e2:d2=c/\u2=v
    ·omega
    ·obtain⟨rfl,rfl⟩:=e1;rw[kX]at h1;cases h1;rw[kZ e2]at h2;rcases hb k k1 with h3|h3
     ·grind
     ·have:=cA (h.each d2 u2 t2 hd2 h2) k2;omega
   ·rw[kZ e1]at h1;by_cases e2:d2=c/\u2=v
    ·obtain⟨rfl,rfl⟩:=e2;rw[kX]at h2;cases h2;rcases hb k k2 with h3|h3
     ·grind
     ·have:=cA (h.each d1 u1 t1 hd1 h1) k1;omega
    ·rw[kZ e2]at h2;exact h.dis d1 u1 t1 d2 u2 t2 k hd1 hd2 h1 h2 k1 k2
  ·intro d u hd hu;rw[kZ (by omega)];exact h.big d u hd hu
 refine⟨hF,?_,?_⟩
 ·refine aG.trans2 (hc.mono fun k _ hk=>?_) hc2 ?_
  ·obtain⟨s,hs,hk⟩:=h.ownBlock hcc hk;exact h.toOwn hcc hs hk
  ·intro k _ e;exact .inl ⟨oz,oz⟩
 ·intro k hk;rcases hF.ofOwn hk with h1|⟨d,u,t,hd,ht,hk⟩
  ·exact .inl (.inl h1)
  ·by_cases e:d=c/\u=v
   ·obtain⟨rfl,rfl⟩:=e;rw[kX]at ht;cases ht;rcases hb k hk with h1|h1
    ·obtain⟨s,hs,hk⟩:=h.ownBlock hcc h1;exact .inl (h.toOwn hcc hs hk)
    ·exact .inr h1
   ·rw[kZ e]at ht;exact .inl (h.toOwn hd ht hk)
end
theorem pE (w:World):(zeroValue 50).run Tryz.prog w=.ok kN w:=kr
theorem Tryz.mapS:Tryz.prog.underlying 104=some (.map 3 50):=kr
end
section
/-- what is come to from some, by ways that do not go on from those of a set -/
inductive Cl (nx:Int->List Int) (b0:Int->Bool) (t0:List Int):Int->Prop
 | start (x:Int):x∈t0->Cl nx b0 t0 x
 | step (x y:Int):Cl nx b0 t0 x->b0 x=false->y∈nx x->Cl nx b0 t0 y
structure mE (nx:Int->List Int) (b0:Int->Bool) (t0:List Int) (been:Int->Bool) (todo:List Int):Prop where
 tr:∀ x∈todo,Cl nx b0 t0 x
 br:∀ x,been x=true->b0 x=true\/Cl nx b0 t0 x
 b0b:∀ x,b0 x=true->been x=true
 t0t:∀ x∈t0,x∈todo\/been x=true
 cl:∀ x,been x=true->b0 x=false->∀ y∈nx x,y∈todo\/been y=true
section
variable {nx : Int -> List Int} {b0 : Int -> Bool} {t0 : List Int} {been : Int -> Bool} {t : List Int} {a : Int}
theorem mE.start:mE nx b0 t0 b0 t0:=⟨fun x hx=>.start x hx,fun x hx=>.inl hx,fun x hx=>hx,fun x hx=>.inl hx,fun x h1 h2=>by rw[h1]at h2;cases h2⟩
theorem mE.drop (h:mE nx b0 t0 been (t++[a])) (ha:been a=true):mE nx b0 t0 been t:=by
 have key:∀ y,y∈t++[a]\/been y=true->y∈t\/been y=true:=by
  intro y hy;rcases hy with hy|hy
  ·rcases List.mem_append.1 hy with k|k
   ·exact .inl k
   ·simp at k;subst k;exact .inr ha
  ·exact .inr hy
 exact⟨fun x hx=>h.tr x (by simp[hx]),h.br,h.b0b,fun x hx=>key x (h.t0t x hx),fun x h1 h2 y hy=>key y (h.cl x h1 h2 y hy)⟩
def gJ (been:Int->Bool) (a:Int):Int->Bool:=fun x=>decide (x=a)||been x
theorem uN (been:Int->Bool) (a:Int):gJ been a a=true:=by simp[gJ]
theorem aDg {been:Int->Bool}{a x:Int}(h:been x=true):gJ been a x=true:=by simp[gJ,h]
theorem aE1 {been:Int->Bool}{a x:Int}(h:gJ been a x=true):x=a\/been x=true:=by simpa[gJ]using h
theorem mE.mark (h:mE nx b0 t0 been (t++[a])) (ha:been a=false):mE nx b0 t0 (gJ been a) (t++nx a):=by
 have hca:=h.tr a si;have hb0:b0 a=false:=by
  cases hb:b0 a with
  | false=>rfl
  | true=>rw[h.b0b a hb]at ha;cases ha
 have key:∀ y,y∈t++[a]\/been y=true->y∈t++nx a\/gJ been a y=true:=by
  intro y hy;rcases hy with hy|hy
  ·rcases List.mem_append.1 hy with k|k
   ·exact .inl (by simp[k])
   ·simp at k;subst k;exact .inr (uN _ _)
  ·exact .inr (aDg hy)
 refine⟨fun x hx=>?_,fun x hx=>?_,fun x hx=>aDg (h.b0b x hx),fun x hx=>key x (h.t0t x hx),fun x h1 h2 y hy=>?_⟩
 ·rcases List.mem_append.1 hx with k|k
  ·exact h.tr x (by simp[k])
  ·exact .step a x hca hb0 k
 ·rcases aE1 hx with rfl|k
  ·exact .inr hca
  ·exact h.br x k
 ·rcases aE1 h1 with rfl|k
  ·exact .inl (by simp[hy])
  ·exact key y (h.cl x k h2 y hy)
theorem mE.done (h:mE nx b0 t0 been []) (x:Int):been x=true↔b0 x=true\/Cl nx b0 t0 x:=by
 refine⟨h.br x,fun k=>?_⟩;rcases k with k|k
 ·exact h.b0b x k
 ·induction k with
  | start x hx =>
   rcases h.t0t x hx with j|j
   ·simp at j
   ·exact j
  | step x y hx h0 hy ih =>
   rcases h.cl x ih h0 y hy with j|j
   ·simp at j
   ·exact j
/-- rounds still to come -/
def iU (been:Int->Bool) (todo:List Int):Nat:=8192*((List.range 1024).filter fun k:Nat => !been k).length+todo.length
theorem aAf:iU been t<iU been (t++[a]):=by unfold iU;simp
theorem aJm {been:Int->Bool}{k:Nat}(hk:been k=false):∀ l:List Nat,k∈l->(l.filter fun x:Nat => !gJ been k x).length<(l.filter fun x:Nat => !been x).length:=by
 have mono:∀ l:List Nat,(l.filter fun x:Nat => !gJ been k x).length<=(l.filter fun x:Nat => !been x).length:=by
  intro l
  induction l with
  | nil=>simp
  | cons x l ih =>
   simp only[List.filter_cons];cases hx:been (x:Int)
   ·cases gJ been (k:Int) (x:Int)<;>simp<;>omega
   ·rw[aDg hx];simpa using ih
 intro l
 induction l with
 | nil=>intro h;simp at h
 | cons x l ih =>
  intro h;simp only[List.filter_cons];by_cases e:x=k
  ·subst e;rw[uN,hk];have:=mono l;simp;omega
  ·have hm:k∈l:=by
    rcases List.mem_cons.1 h with h|h
    ·exact absurd h.symm e
    ·exact h
   have:=ih hm;have e2:gJ been (k:Int) (x:Int)=been (x:Int):=by simp[gJ];omega
   rw[e2];cases been (x:Int)<;>simp<;>omega
theorem yP {k:Nat}(hk:k<1024) (hb:been k=false) (hn:(nx k).length<=4096):iU (gJ been k) (t++nx k)<iU been (t++[(k:Int)]):=by
 have:=aJm hb (List.range 1024) (List.mem_range.2 hk);unfold iU;simp only[List.length_append,List.length_cons,List.length_nil];omega
theorem qV:t.length<=iU been t:=by unfold iU;omega
theorem aE4 (h:t.length<=8192):iU been t<=8192*1024+8192:=by
 have:=List.length_filter_le (fun k:Nat => !been k) (List.range 1024);rw[List.length_range]at this;unfold iU;omega
end
end
section
def lS (A:Nat->List Int) (rem:Nat->Bool) (v:Nat):Nat:=iE 1024 fun u=>if rem u then 0 else(A u).count (v:Int)
def nS (rem:Nat->Bool) (u:Nat):Nat->Bool:=fun k=>decide (k=u)||rem k
theorem vW (rem:Nat->Bool) (u:Nat):nS rem u u=true:=by simp[nS]
theorem aD1 {rem:Nat->Bool}{u k:Nat}(h:k≠u):nS rem u k=rem k:=by simp[nS,h]
theorem aSb {rem:Nat->Bool}{u k:Nat}(h:rem k=true):nS rem u k=true:=by simp[nS,h]
theorem aNy {rem:Nat->Bool}{u k:Nat}(h:nS rem u k=true):k=u\/rem k=true:=by simpa[nS]using h
theorem aFx {A:Nat->List Int}{rem:Nat->Bool}{u:Nat}(hu:u<1024) (hr:rem u=false) (v:Nat):lS A rem v=lS A (nS rem u) v+(A u).count (v:Int):=by
 unfold lS;have:=kC (f:=fun k=>if rem k then 0 else(A k).count (v:Int)) (g:=fun k=>if nS rem u k then 0 else(A k).count (v:Int)) 1024 hu (fun k hk=>by simp only[aD1 hk]);simp only[vW]at this
 grind
def lK (n:Nat) (Rp:Nat->Bool) (rem:Nat->Bool):Nat:=iE n fun v=>if Rp v && !rem v then 1 else 0
theorem aLi {n:Nat}{Rp rem:Nat->Bool}{u:Nat}(hu:u<n) (h1:Rp u=true) (h2:rem u=false):lK n Rp rem=lK n Rp (nS rem u)+1:=by
 unfold lK;have:=kC (f:=fun v=>if Rp v && !rem v then 1 else 0) (g:=fun v=>if Rp v && !nS rem u v then 1 else 0) n hu (fun k hk=>by simp only[aD1 hk]);simp only[vW]at this
 grind
/-- what stands while the edges of one that was taken away are gone through: rest: those still to come -/
structure pQ (A:Nat->List Int) (n:Nat) (Rp:Nat->Bool) (c:Nat->Nat) (rem:Nat->Bool) (todo:List Int) (rest:List Int):Prop where
 cn:∀ v,c v=lS A rem v+rest.count (v:Int)
 t:∀ x∈todo,∃ v:Nat,x=v/\v<n/\Rp v=true/\rem v=false/\c v=0
 nd:todo.Nodup
 r:∀ v,rem v=true->v<n/\Acc (fun u x:Nat=>(x:Int)∈A u/\u<1024) v/\c v=0
 k:∀ v,v<n->Rp v=true->c v=0->(v:Int)∈todo\/rem v=true
section
variable {A : Nat -> List Int} {n : Nat} {Rp : Nat -> Bool} {c : Nat -> Nat} {rem : Nat -> Bool} {todo rest : List Int}
theorem pQ.acc (h:pQ A n Rp c rem todo rest) {v:Nat}(hv:c v=0):Acc (fun u x:Nat=>(x:Int)∈A u/\u<1024) v:=by
 refine⟨v,fun u ⟨h1,h2⟩=>?_⟩;cases hr:rem u with
 | true=>exact(h.r u hr).2.1
 | false =>
  have h3:=h.cn v;have h4:lS A rem v=0:=oz
  have h5:=uQ 1024 h4 u h2
  grind
theorem pQ.pop {t:List Int}{u:Nat}(h:pQ A n Rp c rem (t++[(u:Int)]) []) (hn:n<=1024):pQ A n Rp c (nS rem u) t (A u)/\u<n/\Rp u=true/\rem u=false/\lK n Rp rem=lK n Rp (nS rem u)+1:=by
 obtain⟨v,hv,hvn,h1,h2,h3⟩:=h.t (u:Int) si;have e:u=v:=oz
 subst e;refine⟨⟨fun v=>?_,fun x hx=>?_,?_,fun v hv=>?_,fun v h4 h5 h6=>?_⟩,hvn,h1,h2,aLi hvn h1 h2⟩
 ·have:=h.cn v;rw[aFx (by omega) h2]at this
  grind
 ·obtain⟨v,e,h4,h5,h6,h7⟩:=h.t x (by simp[hx]);subst e;refine⟨v,rfl,h4,h5,?_,h7⟩;rw[aD1]
  ·exact h6
  ·intro e;have:=h.nd
   grind
 ·have:=h.nd
  grind
 ·rcases aNy hv with rfl|hv
  ·exact⟨hvn,h.acc h3,h3⟩
  ·exact h.r v hv
 ·rcases h.k v h4 h5 h6 with h7|h7
  ·rcases List.mem_append.1 h7 with h8|h8
   ·exact .inl h8
   ·have h9:(v:Int)=u:=by simpa using h8
    have:v=u:=oz
    subst this;exact .inr (vW _ _)
  ·exact .inr (aSb h7)
def aD4 (c:Nat->Nat) (x:Nat):Nat->Nat:=fun k=>if k=x then c x-1 else c k
def aKc (c:Nat->Nat) (x:Nat) (todo:List Int):List Int:=if c x-1=0 then todo++[(x:Int)]else todo
theorem pQ.step {x:Nat}(h:pQ A n Rp c rem todo ((x:Int)::rest)) (hx:x<n) (hr:Rp x=true):pQ A n Rp (aD4 c x) rem (aKc c x todo) rest/\0<c x:=by
 have h0:c x=lS A rem x+(rest.count (x:Int)+1):=by
  have:=h.cn x
  grind
 have hne:∀ {v:Nat},v≠x->((x:Int)::rest).count (v:Int)=rest.count (v:Int):=by grind
 have hd:∀ {v:Nat},v≠x->aD4 c x v=c v:=fun {v} hv=>by simp[aD4,hv]
 have hs:aD4 c x x=c x-1:=by simp[aD4]
 refine⟨⟨fun v=>?_,fun y hy=>?_,?_,fun v hv=>?_,fun v h4 h5 h6=>?_⟩,oz⟩
 ·by_cases e:v=x
  ·simp_all
  ·rw[hd e,h.cn v,hne e]
 ·have hold:∀ y∈todo,∃ v:Nat,y=v/\v<n/\Rp v=true/\rem v=false/\aD4 c x v=0:=fun y hy=>by
   obtain⟨v,e,h4,h5,h6,h7⟩:=h.t y hy;by_cases e2:v=x
   ·grind
   ·grind
  unfold aKc at hy;split at hy
  ·rename_i hc;rcases List.mem_append.1 hy with hy|hy
   ·simp_all
   ·have:y=(x:Int):=by simpa using hy
    subst this;refine⟨x,rfl,hx,hr,?_,by rw[hs];exact hc⟩;cases e:rem x with
    | false=>rfl
    | true=>have:=(h.r x e).2.2;omega
  ·simp_all
 ·unfold aKc;split
  ·rw[List.nodup_append];refine⟨h.nd,si,fun a ha b hb e=>?_⟩;have:b=(x:Int):=by grind
   obtain⟨v,e,_,_,_,h7⟩:=h.t _ ha;have:x=v:=oz
   grind
  ·exact h.nd
 ·have:=h.r v hv
  grind
 ·by_cases e:v=x
  ·subst e;rw[hs]at h6;unfold aKc;rw[if_pos h6];simp
  ·rw[hd e]at h6;rcases h.k v h4 h5 h6 with h7|h7
   ·left;unfold aKc;split
    ·simp[h7]
    ·exact h7
   ·exact .inr h7
end
theorem Cl.front {nx:Int->List Int}{b0:Int->Bool}{t0 t1:List Int}{y z:Int}(h1:y∈t1) (hy:b0 y=false) (h:Cl nx b0 (nx y) z) (h0:t0=nx y):Cl nx b0 t1 z:=by
 induction h with
 | start x hx=>exact .step y x (.start y h1) hy hx
 | step x w _ hb hw ih=>exact .step x w ih hb hw
/-- one behind which there is no endless way back does not come round -/
theorem aKs {A:Nat->List Int}(hA:∀ u x,x∈A u->u<1024/\∃ k:Nat,x=k/\k<1024) {v:Nat}(h:Acc (fun u x:Nat=>(x:Int)∈A u/\u<1024) v):¬Cl (fun i=>A i.toNat) (fun _=>false) (A v) v:=by
 induction h with
 | intro v _ ih =>
  intro hc;have hnat:∀ {x:Int},Cl (fun i=>A i.toNat) (fun _=>false) (A v) x->∃ k:Nat,x=k:=fun {x} hx=>by
   cases hx with
   | start _ hx=>obtain⟨_,k,e,_⟩:=hA _ _ hx;exact⟨k,e⟩
   | step y _ h1 h2 h3=>obtain⟨_,k,e,_⟩:=hA _ _ h3;exact⟨k,e⟩
  cases hc with
  | start _ hx=>exact ih v ⟨hx,(hA _ _ hx).1⟩ (.start _ hx)
  | step x _ h1 h2 h3 =>
   obtain⟨u,rfl⟩:=hnat h1;refine ih u ⟨h3,(hA _ _ h3).1⟩ ?_;refine Cl.front (t0:=A v) h3 rfl ?_ ?_
   ·simp_all
   ·rfl
end
section
attribute [local go_sem] Oper.semAt_some
theorem aL8 {f:aC}{l:List Nat}(h:jN f l) (h0:0<f.code.length):l.length<=f.code.length :=
 aB3 _ _ h.nodup (fun v hv=>lA.lt h0 ((h.mem v).1 hv))
theorem aOv (n k:Nat) (hk:k<n):(List.replicate k (-1:Int)++List.replicate (n-k) 0)[k]? = some 0:=by
 rw[List.getElem?_append_right (by simp),List.length_replicate,Nat.sub_self,List.getElem?_replicate,if_pos (by omega)]
theorem aM3 (n k:Nat) (hk:k<n):(List.replicate k (-1:Int)++List.replicate (n-k) 0).set k (-1)=List.replicate (k+1) (-1)++List.replicate (n-(k+1)) 0:=by
 rw[List.set_append_right _ _ (by simp)];obtain⟨m,hm⟩:∃ m,n-k=m+1:=⟨n-k-1,oz⟩
 rw[hm,show n-(k+1)=m by omega,List.length_replicate,Nat.sub_self,List.replicate_succ,List.set_cons_zero,List.replicate_succ' (n:=k),List.append_assoc];rfl
theorem aTy {p:Prop}(h:p:=by
 have d2:¬(i:Int)<(l.length:Int)-1:=oz
 cases c
 ·have f0:=hT.out.near.frozenAt 0;have c0:=aH hT.out.near (aV (lZ L 0 (by rw[HS.out.len];exact hn0)));go_wp2
  try rw[Exit.noGoto_ret]
  go_wp2;have hTn:=hT.out.setNear 0 (-1);have hD3:(wr.setCell ⟨w.heap.size+1+1,0,none⟩ (.int .i64 (-1))).heap[fb+3]? = some (.deferred (some [])):=by
   rw[<-hD.out];exact(aG.setCell (S:=(· = w.heap.size+1+1)) (aG.refl _ _) (p:=⟨w.heap.size+1+1,0,none⟩) (Or.inl rfl) _).block _ (Array.getElem?_eq_some_iff.1 hD.out).1 oz
  have hTt:=hTn.turn (iF.put (b:=fb+3) _ (fb+3) _ (.deferred none) lr hD3 rfl);have hok:=HS.out.fin HO.out hn0 hlt;refine⟨si,.inl ⟨_,_,rfl,run_takeDeferred hD3,?_⟩⟩;refine⟨_,results_tmp rfl _ _ _,_,_,_,hok,_,rfl,hTt.bel,?_,?_,?_⟩
  ·rw[hok.len];exact hTt.near
  ·intro k hk;have e:w.heap.size+1+1=k:=eL hk
   omega
  ·intro e;have:=hok.len;rw[e]at this;change 0=f.code.length at this;omega
 ·obtain⟨hN2,hm2⟩:=HS.out.more HO.out hlt;have HN2:=qd hN2;clear hN2;have hL2:=HS.out.len;go_wp2
  go_roundg (msr f.code.length l.idxOf L)
  case measure=>exact hm2
  case rel=>exact⟨L,rfl,hL2,HN2,hT,hD⟩):p:=h
theorem aIj {p:Prop}(h:p:=by
 have e:g6=k:=eL hk
 subst e;exact aUi):p:=h
theorem gD {p:Prop}(h:p:=by
 intro w' hSw;(try dsimp only at hSw);go_simp;(try with_reducible rfl)):p:=h
theorem aHo {p:Prop}(h:p:=by
 intro l' x W K hK;have HK:=qd hK;clear hK;unfold aRb;gi_wp2;exact HK.out):p:=h
theorem aPo {p:Prop}(h:p:=by
 rw[List.getElem?_replicate]at hs;split at hs
 ·cases hs;cases hk
 ·cases hs):p:=h
theorem aRf (B:Nat) (hh:HF) (f:aC) (w:World) (hB:B<=w.heap.size) (hf:aZ B w hh f) (hn0:0<f.code.length) (hn:f.code.length<=1024):Calls Tryz.prog 91 #[aI hh f] w fun e w'=>∃ near nr rk,vZ f near nr rk/\aAx w near e w':=by
 have hm1:=run_make_row' (P:=Tryz.prog) 50 3 (.int .i64 0) 8 Tryz.underlying50 Tryz.infoI rfl .i64 .i64 f.code.length oz oz;have hm2:=run_make_row' (P:=Tryz.prog) 59 50 (.slice none 0 0) 24 Tryz.underlying59 Tryz.infoS rfl .i64 .i64 f.code.length oz oz;rw[aQ6]at hm1;rw[aF3]at hm2;have HF:=qd hf;have HOrd:=qd (fun w hB hf=>aKh B hh f w hB hf hn0 hn);have HEd:=qd (fun w=>uX hh f w);have HG:=qd (fun l hl=>zF (f:=f) (l:=l) hl hn0);obtain⟨pa,pl,pc,ca,cl,cc⟩:=hh;obtain⟨h1,h2,⟨hcl,hcm,hcx⟩,h4,h5⟩:=hf;dsimp only at *;subst hcl;clear h2 hcm hcx h1 h4 h5;have i1:¬(f.code.length:Int)=0:=oz
 have i2:¬(1024:Int)<(f.code.length:Int):=oz
 have i3:((f.code.length:Int)==0)=false:=oI
 have i4:decide ((1024:Int)<(f.code.length:Int))=false:=by rw[decide_eq_false_iff_not];omega
 unfold aI at *;dsimp only at *;have hln:f.code.length<=9223372036854775807:=oz
 have OC0:∀ W:World,(W.alloc (.cells (aR (List.replicate f.code.length 0)).toArray 3)).ownsRow 0 3 1 (.slice (some ⟨W.heap.size,0,none⟩) f.code.length f.code.length) f.code.length (aR (List.replicate f.code.length 0)):=fun W=>by
  have:=World.ownsRow_lit W (base:=0) (e:=3) (size:=1) (aR (List.replicate f.code.length 0)).toArray f.code.length (Nat.zero_le _) bH (by simp[aR]);simpa using this
 have OS0:∀ W:World,(W.alloc (.cells (List.replicate f.code.length (Value.slice none 0 0)).toArray 50)).ownsRow 0 50 1 (.slice (some ⟨W.heap.size,0,none⟩) f.code.length f.code.length) f.code.length (List.replicate f.code.length (Value.slice none 0 0)):=fun W=>by
  have:=World.ownsRow_lit W (base:=0) (e:=50) (size:=1) (List.replicate f.code.length (Value.slice none 0 0)).toArray f.code.length (Nat.zero_le _) bH si;simpa using this
 refine(callsIn_wide (n:=3)).1 ?_;refine callsIn_of_wp_marks Tryz.func91 rfl trivial ?_ rfl;refine wpIn_wide.2 ?_;simp only[Tryz.ntmps91,List.size_toArray,List.length_cons,List.length_nil,Nat.reduceAdd,Nat.reduceSub,Array.replicate_succ,Array.replicate_zero,List.push_toArray,List.append_toArray,List.nil_append,List.cons_append];go_wp2;go_step3;go_wp2;generalize hW0:World.alloc _ _=W0;have hb0:Below w.heap.size w W0:=by rw[<-hW0];exact bel
 have OB:aF W0 w.heap.size [.string f.name,.slice pa pl pc,.int .i64 f.regs,.int .i64 f.words,.slice ca f.code.length cc]:=xC
 have OR:W0.ownsRow 0 3 1 (.slice (some ⟨w.heap.size+1,0,none⟩) f.code.length f.code.length) f.code.length (aR (List.replicate f.code.length 0)):=by
  rw[<-hW0];have:=(OC0 (w.alloc (.cells #[.string f.name,.slice pa pl pc,.int .i64 f.regs,.int .i64 f.words,.slice ca f.code.length cc] 42))).alloc (.cells (aR (List.replicate f.code.length 0)).toArray 3);simpa using this
 have ON:W0.ownsRow 0 3 1 (.slice (some ⟨w.heap.size+1+1,0,none⟩) f.code.length f.code.length) f.code.length (aR (List.replicate f.code.length 0)):=by
  rw[<-hW0];have:=OC0 ((w.alloc (.cells #[.string f.name,.slice pa pl pc,.int .i64 f.regs,.int .i64 f.words,.slice ca f.code.length cc] 42)).alloc (.cells (aR (List.replicate f.code.length 0)).toArray 3));simpa using this
 have hz0:W0.heap.size=w.heap.size+3:=by rw[<-hW0];simp
 clear hW0 hm1 OC0;have HB:=qd OB;have HR:=qd OR;have hb0':=qd hb0;have hz0':=qd hz0;clear OB OR;go_loopw [38] (fun i wr=>∃ k:Nat,k<=f.code.length/\i=.int .i64 k/\wr.heap.size=w.heap.size+3/\Hid (aG (· = w.heap.size+1+1) W0 wr)/\Hid (wr.ownsRow 0 3 1 (.slice (some ⟨w.heap.size+1+1,0,none⟩) f.code.length f.code.length) f.code.length (aR (List.replicate k (-1)++List.replicate (f.code.length-k) 0)))) (fun i _=>f.code.length-(intOf i).toNat)
 case atStart=>exact⟨0,Nat.zero_le _,rfl,hz0,qd (aG.refl _ _),qd (by simpa using ON)⟩
 case round =>
  clear hb0 ON hz0;obtain⟨k,hk,rfl,hz,hC,hN⟩:=hrel;by_cases hlt:k<f.code.length
  ·have d2:(k:Int)<(f.code.length:Int):=oz
   have hwk:IntKind.i64.wrap ((k:Int)+1)=(k:Int)+1:=IntWalk.i64_in _ oz;have f0:=hN.out.frozenAt k;have c0:=aH hN.out (aV (aOv _ _ hlt));have hst:aG (· = w.heap.size+1+1) wr (wr.setCell ⟨w.heap.size+1+1,k,none⟩ (.int .i64 (-1))):=aG.setCell (S:=(· = w.heap.size+1+1)) (aG.refl _ _) (p:=⟨w.heap.size+1+1,k,none⟩) (Or.inl rfl) _;have R2:=cH hN.out k (.int .i64 (-1));rw[tP,aM3 _ _ hlt]at R2;have HC2:=qd (hC.out.trans hst);have HR2:=qd R2;clear R2 hst;go_wp2
   go_roundw
   case rel=>exact⟨k+1,oz,si,by simpa using hz,HC2,HR2⟩
   case measure=>go_light;exact ml
  ·have hkk:k=f.code.length:=oz
   subst hkk;have d2:¬(f.code.length:Int)<(f.code.length:Int):=oz
   have N1:=hN.out;rw[Nat.sub_self,List.replicate_zero,List.append_nil]at N1;have B1:=hC.out.own HB.out oz;have R1:=aN hC.out HR.out (fun q hq h=>by have:w.heap.size+1=q:=eL hq;omega);have hb1:Below w.heap.size w wr:=hb0'.out.trans (hC.out.below _ (by rw[hz0'.out];omega) (fun k hk e=>by omega));have HF1:=qd (HF.out.same (aQ.of hb1 hB));have HN1:=qd N1;have HB1:=qd B1;have HR1:=qd R1;clear N1 B1 R1 hN hC HB HR hb0' hz0' HF;have b5:=aX HB1.out;go_wp2_with (first|(go_at_call 115;refine(HOrd.out _ oz HF1.out).mono ?_;rintro e w2 ⟨l,hl,ov,rfl,hb2,hr2,hf2,hn2⟩;obtain⟨lb,lc,rfl,hlc1,hlc2,hlb⟩:=bB hr2 (by have:=hl.head;cases l with|nil=>simp at this|cons a t=>simp[qK]))|fail)
   have hz2:=hb2.size;have hlb2:=hf2 lb rfl;have hlt2:(qK l).length=l.length:=by simp[qK]
   have hln2:l.length<=f.code.length:=aL8 hl hn0;rw[hlt2]at hr2 ⊢;have HF2:=qd (HF1.out.same (aQ.of hb2 oz));have HB2:=qd (HB1.out.below hb2);have HR2:=qd (aA hb2 HR1.out);have HN2:=qd (aA hb2 HN1.out);have HL2:=qd hr2;have HO:=qd hl;have hb2':Below w.heap.size w w2:=bel;clear HF1 HB1 HR1 HN1 hr2 hl hn2 hf2 b5 HOrd hlt2;go_wp2;go_loopw [49] (fun i wx=>∃ k:Nat,k<=l.length/\i=.int .i64 k/\wx.heap.size=w2.heap.size/\Hid (aG (· = w.heap.size+1) w2 wx)/\Hid (wx.ownsRow 0 3 1 (.slice (some ⟨w.heap.size+1,0,none⟩) f.code.length f.code.length) f.code.length (aR (fB f.code.length l k)))) (fun i _=>l.length-(intOf i).toNat)
   case atStart=>exact⟨0,Nat.zero_le _,rfl,rfl,qd (aG.refl _ _),qd (by rw[aEh];exact HR2.out)⟩
   case round =>
    obtain⟨k,hk,rfl,hzx,hC,hR⟩:=hrel;by_cases hlt:k<l.length
    ·have d2:(k:Int)<(l.length:Int):=oz
     have hwk:IntKind.i64.wrap ((k:Int)+1)=(k:Int)+1:=IntWalk.i64_in _ oz;have L1:=aN hC.out HL2.out (fun q hq h=>by have:lb=q:=eL hq;omega);have hge:(qK l)[k]? = some (l[k]'hlt:Int):=by simp[qK,hlt]
     have c0:=aH L1 (aV hge);have hv:l[k]'hlt<f.code.length:=lA.lt hn0 ((HO.out.mem _).1 (List.getElem_mem hlt));have f0:=hR.out.frozenAt (l[k]'hlt);obtain⟨x0,hx0⟩:∃ x0,(fB f.code.length l k)[l[k]'hlt]? = some x0:=⟨_,List.getElem?_eq_getElem (by rw[aGy];exact hv)⟩
     have c1:=aH hR.out (aV hx0);have R2:=cH hR.out (l[k]'hlt) (.int .i64 (k:Int));rw[tP,aF0 _ _ HO.out.nodup k hlt hv]at R2;have hst:aG (· = w.heap.size+1) wr (wr.setCell ⟨w.heap.size+1,l[k]'hlt,none⟩ (.int .i64 (k:Int))):=aG.setCell (S:=(· = w.heap.size+1)) (aG.refl _ _) (p:=⟨w.heap.size+1,l[k]'hlt,none⟩) (Or.inl rfl) _;have HC2:=qd (hC.out.trans hst);have HR3:=qd R2;clear R2 hst hge hx0 L1;generalize l[k]'hlt=v at *;go_wp2
     go_roundw
     case rel=>exact⟨k+1,oz,si,by simpa using hzx,HC2,HR3⟩
     case measure=>go_light;exact ml
    ·have hkk:k=l.length:=oz
     subst hkk;have d2:¬(l.length:Int)<(l.length:Int):=oz
     have hb3:Below w.heap.size w wr:=hb2'.trans (hC.out.below _ oz (fun k hk e=>by omega));have HF3:=qd (HF2.out.same (hC.out.same oz (fun k hk e=>by omega)));have HB3:=qd (hC.out.own HB2.out oz);have HN3:=qd (aN hC.out HN2.out (fun q hq h=>by have:w.heap.size+1+1=q:=eL hq;omega));have HL3:=qd (aN hC.out HL2.out (fun q hq h=>by have:lb=q:=eL hq;omega));have HR3:=hR;clear HF2 HB2 HR2 HN2 HL2 hR hC;have b5:=aX HB3.out;go_upto_region 17 with(fail)
     have OSS:=OS0 wr;simp only[List.toArray_replicate]at OSS;generalize hfb:wr.heap.size=fb at *;subst hzx;generalize w2.heap.size=fb at *;generalize hW5:World.alloc (World.alloc _ _) _=W5;have hz5:W5.heap.size=fb+2:=by rw[<-hW5];simp[hfb]
     have hb5:Below fb wr W5:=by rw[<-hW5];exact((Below.refl _ wr).alloc oz _).alloc (by simp;omega) _
     have hb5w:Below w.heap.size w W5:=hb3.trans (hb5.mono oz);have hb5':Below wr.heap.size wr W5:=by rw[hfb];exact hb5
     have HF5:=qd (HF3.out.same (aQ.of hb5' oz));have HB5:=qd (HB3.out.below hb5');have HN5:=qd (aA hb5' HN3.out);have HL5:=qd (aA hb5' HL3.out);have HR5:=qd (aA hb5' HR3.out);have HX5:Hid (aF W5 (fb+1) [.slice (some ⟨fb,0,none⟩) f.code.length f.code.length]):=qd (by rw[<-hW5];exact aF.new' _ _ _ _ (by simp[hfb]));have HG5:Hid (cK W5 (fb+5) fb f.code.length (dV []) (List.replicate f.code.length (.slice none 0 0))):=qd (by
      refine⟨by rw[<-hW5];exact OSS.alloc _,si,fun v s hs=>?_,fun v s k hs hk=>?_,oz,fun u v s t k hs ht hk _=>?_⟩
      ·rw[List.getElem?_replicate]at hs;split at hs
       ·cases hs;exact World.ownsRow_nil _ _ _ _
       ·cases hs
      ·exact aPo
      ·rw[List.getElem?_replicate]at hs;split at hs
       ·cases hs;cases hk
       ·cases hs)
     clear HF3 HB3 HN3 HL3 HR3 OSS OS0 hm2 b5 hW5 hb5 hb5' hb3 hfb;have b5:=aX HB5.out;unfold wR at HEd;go_wp2_with (first|(go_at_call 22;refine(HEd.out _).mono ?_;rintro e w4 ⟨rfl,hw4⟩)|fail)
     rw[<-hw4];have hz4:w4.heap.size=fb+3:=by rw[hw4];simp[hz5]
     have hb4:Below W5.heap.size W5 w4:=by rw[hw4];exact(Below.refl _ W5).alloc oz _
     have X4:aF w4 (fb+2) [.string f.name,.slice pa pl pc,.int .i64 f.regs,.int .i64 f.words,.slice ca f.code.length cc]:=by rw[hw4];exact aF.new' _ _ _ _ oz
     have HM4:Hid (mO f.code.length w w4 fb lb lc (fB f.code.length l l.length) (List.replicate f.code.length (-1)) (qK l) (dV []) (List.replicate f.code.length (.slice none 0 0))):=qd
      ⟨hb5w.trans (hb4.mono oz),oz,HG5.out.below hb4,aA hb4 HR5.out,aA hb4 HN5.out,by have e:(qK l).length=l.length:=(by simp[qK]);rw[e];exact aA hb4 HL5.out,HX5.out.below hb4,oz,oz⟩
     have HF4:=qd (HF5.out.same (aQ.of hb4 oz));have hl1:w.heap.size+3<=lb:=oz
     have hl2:lb<fb:=oz
     clear HF5 HB5 HN5 HL5 HR5 HX5 HG5 b5 hw4 hb4 hb5w hz5 HEd hb2' hb2 hz2 hlb hlb2;refine pO (sT fb f.code.length) (fun pre W=>∃ S,mO f.code.length w W fb lb lc (fB f.code.length l l.length) (List.replicate f.code.length (-1)) (qK l) (dV pre) S)
      B (w.heap.size+3) (fb+2) ⟨pa,pl,pc,ca,f.code.length,cc⟩ f rfl rfl hn0 hn oz oz HF4.out X4 ⟨?_,?_,?_⟩ ?_ ?_ ?_ ?_ ⟨_,HM4.out⟩ ?_ ?_
     ·rintro pre W k ⟨S,h⟩ hk;exact h.fr.ownLt hk
     ·rintro pre W W' k ⟨S,h⟩ hb hk;exact(sT.iff (hb.block fb (by have:=h.sz;omega))).1 hk
     ·rintro pre W k ⟨S,h⟩ hk;rcases h.fr.ownGe hk with e|e<;>omega
     ·rintro pre W ⟨S,h⟩ hk;rcases h.fr.ownGe hk with e|e<;>omega
     ·rintro pre W W' ⟨S,h⟩ hb;exact⟨S,h.below hb⟩
     ·rintro pre W W' ⟨S,h⟩ hc;rw[hz4]at hc;exact⟨S,h.turn hc⟩
     ·rintro pre W W' k ⟨S,h⟩ hc;exact sT.iff (hc.block fb (.inl oz))
     ·apply Exists.intro;constructor
      ·exact aHo
      ·rintro l' pre x W ⟨S,hT⟩ hok hsz;obtain⟨v,hxv,hvn,hun⟩:=kT f x (hok.subset si);obtain⟨u,y⟩:=x;dsimp only at hxv hun ⊢;subst hxv;obtain⟨s,hs⟩:=hT.fr.at hvn;obtain⟨sa,sc,rfl⟩:=hT.fr.form hs;have hlen:(dV pre v).length<=4096:=by
        have h1:=uY pre v;have h2:=hok.length_le;have h3:=jV f;rw[List.length_append]at h2;omega
       gi_wp2;have hbx:=dG hT.box;have hc5:=hT.fr.cell hs;have hfl:=bJ hT.fr.row;have hc6:(W.alloc (.cells #[.int .i64 (u:Int)] 3)).cell? ⟨fb,v,none⟩=some (.slice sa (dV pre v).length sc):=(World.cell?_of_block (Below.heap_alloc _ _ _ hfl)).trans hc5;have d0:(0:Int)<=(v:Int):=oz
       have d1:(v:Int)<(f.code.length:Int):=oz
       refine fR (fun w'=>w'.cell? ⟨fb+1,0,none⟩=some (.slice (some ⟨fb,0,none⟩) f.code.length f.code.length)) kr kr hbx.2.1 ?_;intro K0 hK0 hHeld
       (refine fH 0 rfl ?_ gD;try simp only[Act.put,SU])
       (refine fH 1 rfl ?_ gD;try simp only[Act.put,SU])
       (refine fH 2 rfl ?_ gD;try simp only[Act.put,SU])
       (refine fH 3 rfl ?_ gD;try simp only[Act.put,SU])
       (refine fH 4 rfl ?_ gD;try simp only[Act.put,SU])
       (refine fH 6 rfl ?_ gD;try simp only[Act.put,SU])
       refine wpAnyH_ready (rs:=[5,7]) kr si ?_;refine iB rfl (fun K hK=>?_) (iB rfl (fun K hK=>?_) AllReadyH.nil)
       all_goals go_simp
       refine hK.out _ _ ?_ (fun hHeld=>?_);(focus((try dsimp only);any_goals (assumption)));clear hK K;try simp only[Act.put,SU]
       (refine wpAnyH_ready (rs:=[7]) kr si ?_;refine iB rfl (fun K hK=>?_) AllReadyH.nil)
       go_simp
       refine hK.out _ _ ?_ (fun hHeld=>?_);(focus((try dsimp only);any_goals (first|assumption|go_keep)));clear hK K;try simp only[Act.put,SU]
       rotate_left;refine hK.out _ _ ?_ (fun hHeld=>?_);(focus((try dsimp only);any_goals (first|assumption|go_keep)));clear hK K;try simp only[Act.put,SU]
       (refine wpAnyH_ready (rs:=[5]) kr si ?_;refine iB rfl (fun K hK=>?_) AllReadyH.nil)
       go_simp
       refine hK.out _ _ ?_ (fun hHeld=>?_);(focus((try dsimp only);any_goals (assumption)));clear hK K;try simp only[Act.put,SU]
       all_goals
        (refine wpAnyH_ready (rs:=[8]) kr si ?_;refine iB rfl (fun K hK=>?_) AllReadyH.nil)
        refine iN rfl (.tmp 72) (.tmp 74) 50 3 1 8 (.int .i64 0) rfl Tryz.underlying50 Tryz.infoI rfl dc (.slice sa (dV pre v).length sc) _ _ rfl (aA (show Below W.heap.size W (W.alloc (.cells #[.int .i64 (u:Int)] 3)).drew from eN.drew) (hT.fr.each v _ hs)) ⟨W.heap.size,0,none⟩ 1 1 (aR [(u:Int)]) rfl rfl (cC (show aF (W.alloc (.cells #[.int .i64 (u:Int)] 3)).drew W.heap.size _ from(aF.new W [.int .i64 (u:Int)] 3).drew)) (bZ _) bH oz dc ?_;intro g6 c6 w6 hr6 hc6 hg6;have hc7:aG (fun k=>(Value.slice sa (dV pre v).length sc).ownBlock=some k) W w6:=(aG.of (show Below W.heap.size W (W.alloc (.cells #[.int .i64 (u:Int)] 3)).drew from eN.drew)).trans hc6;have hg7:∀ k,(Value.slice (some ⟨g6,0,none⟩) ((dV pre v).length+1) c6).ownBlock=some k->(Value.slice sa (dV pre v).length sc).ownBlock=some k\/W.heap.size<=k:=fun k hk=>by
         exact aIj
        obtain⟨hT2,hK2⟩:=hT.push oz hs hc7 hr6 hg7;have hnb:∀ k,k<fb+5->¬(Value.slice sa (dV pre v).length sc).ownBlock=some k:=fun k hk e=>by have:=hT.fr.low v _ k hs e;omega
        have hB6:w6.cell? ⟨fb+1,0,none⟩=some (.slice (some ⟨fb,0,none⟩) f.code.length f.code.length):=(hc7.cellAt 0 hbx.1 (hnb _ oz)).trans hbx.2.1;have hR6:=aN hc7 hT.fr.row (fun k hk=>hnb k (by have e:fb=k:=eL hk;omega));have hF6:=hR6.frozenAt v;have hE6:=aH hR6 hs;have hB7:(w6.setCell ⟨fb,v,none⟩ (.slice (some ⟨g6,0,none⟩) ((dV pre v).length+1) c6)).cell? ⟨fb+1,0,none⟩=some (.slice (some ⟨fb,0,none⟩) f.code.length f.code.length):=by
         rw[World.cell?_setCell_far _ _ _ _ (by simp)];exact hB6
        have HT2:=qd hT2;have HK2:=qd hK2;clear hT2 hK2 hR6 hg7 hnb hc7 hr6 hc6;refine hK.out _ _ ?_ (fun hHeld=>?_);(focus((try dsimp only);any_goals (assumption)));clear hK K;try simp only[Act.put,SU]
        (refine wpAnyH_ready (rs:=[9]) kr si ?_;refine iB rfl (fun K hK=>?_) AllReadyH.nil)
        go_simp
        refine hK.out _ _ ?_ (fun hHeld=>?_);(focus((try dsimp only);any_goals (assumption)));clear hK K;try simp only[Act.put,SU]
        (refine wpAnyH_ready (rs:=[10]) kr si ?_;refine iB rfl (fun K hK=>?_) AllReadyH.nil)
        go_simp
        refine hK.out _ _ ?_ (fun hHeld=>?_);(focus((try dsimp only);any_goals (assumption)));clear hK K;try simp only[Act.put,SU]
        refine aO kr ?_;refine hK0.out _ _ ?_;gi_wp2;refine⟨fun k h1 h2=>HK2.out.1.block k oz (fun ho=>by rcases hT.fr.ownGe ho with e|e<;>omega),HK2.out,S.set v (.slice (some ⟨g6,0,none⟩) ((dV pre v).length+1) c6),?_⟩;have hfl2:dV (pre++[(u,(v:Int))])=(fun k=>if k=v then dV pre v++[(u:Int)]else dV pre k):=by
         funext k;rw[aAt];by_cases e:k=v
         ·rw[if_pos e,if_pos e,e]
         ·rw[if_neg e,if_neg e]
        rw[hfl2];exact HT2.out
     ·rintro W7 ⟨S,hT⟩ hD;rw[hz4]at hD ⊢;have f0:=hT.near.frozenAt 0;have c0:=aH hT.near (j:=0) (aV (show(List.replicate f.code.length (-1:Int))[0]? = some (-1) by rw[List.getElem?_replicate,if_pos hn0]));have d0:(0:Int)<(f.code.length:Int):=oz
      have hlp:0<l.length:=by have:=HO.out.head;cases l with|nil=>simp at this|cons a t=>simp
      have hlI:(qK l).length=l.length:=by simp[qK]
      have HT:=qd (hT.setNear 0 0);have HN:=qd (aI4 f.code.length hn0▸kM.start (HG.out l HO.out));have hD2:(W7.setCell ⟨w.heap.size+1+1,0,none⟩ (.int .i64 0)).heap[fb+3]? = some (.deferred (some [])):=by
       rw[<-hD];exact(aG.setCell (S:=(· = w.heap.size+1+1)) (aG.refl _ _) (p:=⟨w.heap.size+1+1,0,none⟩) (Or.inl rfl) _).block _ (by have:=(Array.getElem?_eq_some_iff.1 hD).1;exact this) oz
      have HD:=qd hD2;clear hD hD2 HM4 HF4 X4 hT;go_wp2;go_step3;go_wp2;generalize W7.setCell ⟨w.heap.size+1+1,0,none⟩ (.int .i64 0)=W8 at *
      go_loopg [] (msr f.code.length l.idxOf ((List.replicate f.code.length (-1)).set 0 0)) (fun k wr=>∃ L:List Int,k=msr f.code.length l.idxOf L/\L.length=f.code.length/\Hid (kM (jL f) (lA f) l.idxOf (fG L) 1)/\Hid (mO f.code.length w wr fb lb lc (fB f.code.length l l.length) L (qK l) (dV (aW f)) S)/\Hid (wr.heap[fb+3]? = some (.deferred (some []))))
      case atStart=>exact⟨_,rfl,si,HN,HT,HD⟩
      case round =>
       clear HN HT HD f0 c0;rename_i wq;obtain⟨L,rfl,hL,hN,hT,hD⟩:=hrel;have HS:=qd (Swp.start HO.out hn0 hL hN.out);have lr:=hT.out.lrow;rw[hlI]at lr;have HL:=qd lr;clear lr;have hw1:IntKind.i64.wrap ((l.length:Int)-1)=(l.length:Int)-1:=IntWalk.i64_in _ oz;have hlc2':lc<=9223372036854775807:=hlc2;have hlc1':l.length<=lc:=by rw[hlI]at hlc1;exact hlc1
       generalize hm:msr f.code.length l.idxOf L=m at *;clear hN HL;by_cases hlc:lc=1
       ·subst hlc;go_wp2;go_loopw [82,12] (fun vi vc wx=>∃ (i:Nat) (c:Bool) (L:List Int),vi=.int .i64 i/\vc=.bool c/\i<l.length/\Hid (Swp f l m i c L)/\Hid (mO f.code.length w wx fb lb 1 (fB f.code.length l l.length) L (qK l) (dV (aW f)) S)/\Hid (wx.heap[fb+3]? = some (.deferred (some [])))) (fun vi _ _=>l.length-(intOf vi).toNat)
        case atStart=>exact⟨0,false,L,rfl,rfl,hlp,HS,hT,hD⟩
        case round =>
         clear HS hT hD hL hm;rename_i wq2;obtain⟨i,c,L,rfl,rfl,hi,HS,hT,hD⟩:=hrel;by_cases hlt:i+1<l.length
         ·exfalso;omega
         ·exact aTy
       ·go_wp2;go_loopw [82,12] (fun vi vc wx=>∃ (i:Nat) (c:Bool) (L:List Int),vi=.int .i64 i/\vc=.bool c/\i<l.length/\Hid (Swp f l m i c L)/\Hid (mO f.code.length w wx fb lb lc (fB f.code.length l l.length) L (qK l) (dV (aW f)) S)/\Hid (wx.heap[fb+3]? = some (.deferred (some [])))) (fun vi _ _=>l.length-(intOf vi).toNat)
        case atStart=>exact⟨0,false,L,rfl,rfl,hlp,HS,hT,hD⟩
        case round =>
         clear HS hT hD hL hm;rename_i wq2;obtain⟨i,c,L,rfl,rfl,hi,HS,hT,hD⟩:=hrel;by_cases hlt:i+1<l.length
         ·have d2:(i:Int)<(l.length:Int)-1:=oz
          have d2':i<l.length-1:=oz
          have d2'':decide (i<l.length-1)=true:=decide_eq_true d2';have hwi:IntKind.i64.wrap ((i:Int)+1)=(i:Int)+1:=IntWalk.i64_in _ oz;have hge:(qK l)[1+i]? = some (l[i+1]'hlt:Int):=by rw[show 1+i=i+1 by omega];simp[qK,hlt]
          have lr:=hT.out.lrow;rw[hlI]at lr;have c0:=aH lr (aV hge);have hv:=tI HO.out hn0 hlt;have hbx:=dG hT.out.box;obtain⟨s,hs⟩:=hT.out.fr.at hv.2.2.2;obtain⟨sa,sc,rfl⟩:=hT.out.fr.form hs;have c5:=hT.out.fr.cell hs;clear lr hge;have HStp:=qd (fun d hd=>HS.out.stp HO.out hn0 hlt (d:=d) hd);have HSame:=qd (fun d hd he=>HS.out.same HO.out hn0 hlt (d:=d) hd he);have HChg:=qd (fun d hd he=>HS.out.chg HO.out hn0 hlt (d:=d) hd he);have HInv:=qd HS.out.inv;have hLl:=HS.out.len;obtain⟨hv1,hv2,hv3,hv4⟩:=hv;have hd1:(0:Int)<=(l[i+1]'hlt:Int):=oz
          have hd2:((l[i+1]'hlt:Nat):Int)<(f.code.length:Int):=oz
          generalize l[i+1]'hlt=v at *;obtain⟨us,hus⟩:∃ us,us=dV (aW f) v:=⟨_,rfl⟩
          have hul:us.length<=4096:=by
           have h1:=uY (aW f) v;have h3:=jV f;rw[hus];omega
          have hmem:∀ x∈us,∃ u:Nat,x=(u:Int)/\u<f.code.length:=fun x hx=>by
           rw[hus,vS]at hx;obtain⟨u,e,h,_⟩:=hx;exact⟨u,e,h⟩
          have hum:∀ (j:Nat) (hj:j<us.length),∃ u:Nat,us[j]=(u:Int)/\u<f.code.length:=fun j hj=>hmem _ (List.getElem_mem hj);clear hmem;have HM:=qd hum;clear hum;have hrow:=hT.out.fr.each v _ hs;rw[<-hus]at hrow HStp HSame HChg hs c5;have Hus:=qd hus;clear hus;have HR0:=qd (bU hrow);clear hrow;go_wp2;go_loopw [91,15] (fun vj vd wx=>∃ (j:Nat) (d:Int),vj=.int .i64 j/\vd=.int .i64 d/\j<=us.length/\Hid (jA (fG L) (us.take j) d)/\Hid (mO f.code.length w wx fb lb lc (fB f.code.length l l.length) L (qK l) (dV (aW f)) S)/\Hid (wx.heap[fb+3]? = some (.deferred (some [])))) (fun vj _ _=>us.length-(intOf vj).toNat)
          case atStart=>exact⟨0,-1,rfl,rfl,Nat.zero_le _,qd (by simpa using jA.nil),hT,hD⟩
          case round =>
           clear hT hD c0 hbx c5 HR0;rename_i wq3;obtain⟨j,d,rfl,rfl,hj,hMt,hT,hD⟩:=hrel;have hrow:=hT.out.fr.each v _ hs;rw[<-Hus.out]at hrow;have hwj:IntKind.i64.wrap ((j:Int)+1)=(j:Int)+1:=IntWalk.i64_in _ oz;by_cases hjl:j<us.length
           ·have d3:(j:Int)<(us.length:Int):=oz
            obtain⟨g,gc,hgv,-,-,hgl⟩:=bB hrow oz;cases hgv;obtain⟨u,hu,hul2⟩:=HM.out j hjl;have hge:us[j]? = some (u:Int):=by rw[List.getElem?_eq_getElem hjl,hu]
            have c1:=aH hrow (aV hge);have htk:us.take (j+1)=us.take j++[(u:Int)]:=by rw[List.take_add_one,hge];rfl
            have c2:=aH hT.out.near (aV (lZ L u (by rw[hLl];exact hul2)));have hu1:(0:Int)<=(u:Int):=oz
            have hu2:(u:Int)<(f.code.length:Int):=oz
            have HTk:=qd htk;clear htk hge hu hrow;by_cases hdn:fG L u<0
            ·have hMp:=qd (hMt.out.pass hdn);go_wp2
             go_roundw
             case rel=>exact⟨j+1,d,si,rfl,oz,qd (by rw[HTk.out];exact hMp.out),hT,hD⟩
             case measure=>go_light;exact ml
            ·by_cases hd0:d<0
             ·have hMp:=qd (hMt.out.first hd0 (Int.not_lt.1 hdn));go_wp2
              go_roundw
              case rel=>exact⟨j+1,u,si,rfl,oz,qd (by rw[HTk.out];exact hMp.out),hT,hD⟩
              case measure=>go_light;exact ml
             ·obtain⟨d0,hd0',hdd⟩:∃ d0:Nat,d=(d0:Int)/\0<=fG L d0:=by
               rcases hMt.out with⟨h1,_⟩|⟨dn,h1,h2,_⟩
               ·omega
               ·exact⟨dn,h1,h2⟩
              subst hd0';have hud:0<=fG L u:=Int.not_lt.1 hdn;have HMt:=qd (fun a ha hm=>hMt.out.meet (d:=d0) (u:=u) (a:=a) hud ha hm);have HML:=qd (fun(a b:Nat) ha (hr:l.idxOf b<l.idxOf a)=>HInv.out.meetL (HG.out l HO.out) (a:=a) (b:=b) ha hr);have HMR:=qd (fun(a b:Nat) ha hb hne (hr:¬l.idxOf b<l.idxOf a)=>HInv.out.meetR (HG.out l HO.out) (a:=a) (b:=b) ha hb hne hr);have HRl:=qd (fun(a:Nat) (ha:0<=fG L a)=>HInv.out.dR (HG.out l HO.out) ha);have hdn':¬fG L u<0:=hdn;go_wp2
              go_loopg [15,17] (l.idxOf d0+l.idxOf u) (fun k va vb wy=>∃ (a b:Nat),k=l.idxOf a+l.idxOf b/\va=.int .i64 a/\vb=.int .i64 b/\0<=fG L a/\0<=fG L b/\Hid (∀ x,(Ch (fG L) a x/\Ch (fG L) b x)↔(Ch (fG L) d0 x/\Ch (fG L) u x))/\Hid (mO f.code.length w wy fb lb lc (fB f.code.length l l.length) L (qK l) (dV (aW f)) S)/\Hid (wy.heap[fb+3]? = some (.deferred (some []))))
              case atStart=>exact⟨d0,u,rfl,rfl,rfl,hdd,hud,qd (fun x=>Iff.rfl),hT,hD⟩
              case round =>
               clear hT hD c1 c2;obtain⟨a,b,rfl,rfl,rfl,ha,hb,hab,hT,hD⟩:=hrel;by_cases he:a=b
               ·subst he;have hMp:=qd (HMt.out a ha hab.out);have d4:((a:Int)==(a:Int))=true:=si
                go_wp2
                go_roundw
                case rel=>exact⟨j+1,a,si,rfl,oz,qd (by rw[HTk.out];exact hMp.out),hT,hD⟩
                case measure=>go_light;exact ml
               ·have d4:((a:Int)==(b:Int))=false:=by rw[beq_eq_false_iff_ne];omega
                have d5:¬(a:Int)=(b:Int):=oz
                have hal:a<f.code.length:=lA.lt hn0 (HRl.out a ha);have hbl:b<f.code.length:=lA.lt hn0 (HRl.out b hb);have e1:=aH hT.out.rank (aV (wY f.code.length l a ((HO.out.mem a).2 (HRl.out a ha)) hal));have e2:=aH hT.out.rank (aV (wY f.code.length l b ((HO.out.mem b).2 (HRl.out b hb)) hbl));have e3:=aH hT.out.near (aV (lZ L a (by rw[hLl];exact hal)));have e4:=aH hT.out.near (aV (lZ L b (by rw[hLl];exact hbl)));have q1:(0:Int)<=(a:Int):=oz
                have q2:(a:Int)<(f.code.length:Int):=oz
                have q3:(0:Int)<=(b:Int):=oz
                have q4:(b:Int)<(f.code.length:Int):=oz
                by_cases hr:l.idxOf b<l.idxOf a
                ·obtain⟨y,hy1,hy2,hy3,hy4⟩:=HML.out a b ha hr;have HY:=qd hy4;clear hy4;rw[hy1]at e3;have q5:(l.idxOf b:Int)<(l.idxOf a:Int):=oz
                 go_wp2
                 go_quiet (fail)
                 go_wp2
                 go_roundg (l.idxOf y+l.idxOf b)
                 case measure=>exact Nat.add_lt_add_right hy3 _
                 case rel=>exact⟨y,b,rfl,rfl,rfl,hy2,hb,qd (fun x=>(HY.out x).trans (hab.out x)),qd (hT.out.below (Below.drewN (Below.refl _ _) nq)),hD⟩
                ·obtain⟨y,hy1,hy2,hy3,hy4⟩:=HMR.out a b ha hb he hr;have HY:=qd hy4;clear hy4;rw[hy1]at e4;have q5:¬(l.idxOf b:Int)<(l.idxOf a:Int):=oz
                 go_wp2
                 go_quiet (fail)
                 go_wp2
                 go_roundg (l.idxOf a+l.idxOf y)
                 case measure=>exact Nat.add_lt_add_left hy3 _
                 case rel=>exact⟨a,y,rfl,rfl,rfl,ha,hy2,qd (fun x=>(HY.out x).trans (hab.out x)),qd (hT.out.below (Below.drewN (Below.refl _ _) nq)),hD⟩
           ·have hjj:j=us.length:=oz
            subst hjj;have d3:¬(us.length:Int)<(us.length:Int):=oz
            have hMf:=hMt.out;rw[List.take_length]at hMf;obtain⟨dn,hdn,hstp⟩:=HStp.out d hMf;have c2:=aH hT.out.near (aV (lZ L v (by rw[hLl];exact hv4)));have f2:=hT.out.near.frozenAt v;by_cases hch:fG L v=d
            ·have hS2:=qd (HSame.out d hMf hch);have hcb:(fG L v==d)=true:=by rw[beq_iff_eq];exact hch
             go_wp2;refine⟨⟨i+1,c,L,si,rfl,hlt,hS2,hT,hD⟩,?_⟩;go_light;exact ml
            ·have hS2:=qd (HChg.out d hMf hch);have hT2:=hT.out.setNear v d;have hcb:(fG L v==d)=false:=by rw[beq_eq_false_iff_ne];exact hch
             have hD3:(wr.setCell ⟨w.heap.size+1+1,v,none⟩ (.int .i64 d)).heap[fb+3]? = some (.deferred (some [])):=by
              rw[<-hD.out];exact(aG.setCell (S:=(· = w.heap.size+1+1)) (aG.refl _ _) (p:=⟨w.heap.size+1+1,v,none⟩) (Or.inl rfl) _).block _ (Array.getElem?_eq_some_iff.1 hD.out).1 oz
             have HT2:=qd hT2;have HD3:=qd hD3;clear hT2 hD3 hstp;subst hdn;go_wp2;refine⟨⟨i+1,true,L.set v dn,si,rfl,hlt,hS2,HT2,HD3⟩,?_⟩;go_light;exact ml
         ·exact aTy
end
def xW (ops:Array Oper):Bool:=(List.range ops.size).all fun i=>match ops[i]? with|some o=>o.after.all fun e=>decide (e.on<i)|none=>true
theorem aIq {P:Program}{ops:Array Oper}{Q:Exit->Act->World->Prop}{id:Nat}{a:Act}{w:World}(hm:P.follows .mixedOrders=true) (hord:xW ops=true)
 (Inv:Array Bool->Act->World->Prop) (h0:Inv (Array.replicate ops.size false) a w.drew)
 (hstep:∀ (i:Nat) (o:Oper) (listed:Array Bool) (a:Act) (w:World),ops[i]? = some o->listed.size=ops.size->listed.getD i true=false->(∀ e∈o.after,Region.binds .any e=true->listed.getD e.on false=true)->Inv listed a w->wpOp P ops Q i (fun a' w'=>Inv (listed.setIfInBounds i true) a' w') a w)
 (hend:∀ listed a w,(∀ i,i<ops.size->listed.getD i false=true)->Inv listed a w->Q .normal a w):(Code.region id ops true).wp P Q a w:=by
 refine wp_region_any hm ?_;have hall:∀ listed:Array Bool,listed.size=ops.size->Region.ready .any ops listed=[]->∀ i,i<ops.size->listed.getD i false=true:=fun listed hs hr i=>by
  induction i using Nat.strongRecOn with
  | ind i ih =>
   intro hi;refine Classical.byContradiction fun hn=>?_;have h1:listed.getD i true=false:=by
    have hlt:i<listed.size:=oz
    simp only[Array.getD,hlt,dif_pos]at hn ⊢;simpa using hn
   have h2:i∈Region.ready .any ops listed:=by
    refine mem_ready.2 ⟨h1,ops[i]'hi,Array.getElem?_eq_getElem hi,fun e he _=>?_⟩;have h3:e.on<i:=by
     unfold xW at hord;have h4:=List.all_eq_true.1 hord i (List.mem_range.2 hi);rw[Array.getElem?_eq_getElem hi]at h4;have h5:=Array.all_eq_true_iff_forall_mem.1 h4 e he;simpa using h5
    exact ih e.on h3 oz
   rw[hr]at h2;cases h2
 have key:∀ (fuel:Nat) (listed:Array Bool) (a:Act) (w:World),listed.size=ops.size->(iE ops.size fun i=>if listed.getD i true then 0 else 1)<=fuel->Inv listed a w->wpAny P .any ops Q fuel listed a w:=by
  intro fuel
  induction fuel with
  | zero =>
   intro listed a w hs hc hi;have hr:Region.ready .any ops listed=[]:=by
    cases hr:Region.ready .any ops listed with
    | nil=>rfl
    | cons j l =>
     exfalso;have hj:j∈Region.ready .any ops listed:=by rw[hr];simp
     obtain⟨h1,o,ho,_⟩:=mem_ready.1 hj;have hlt:j<ops.size:=(Array.getElem?_eq_some_iff.1 ho).1;have h2:=kC (f:=fun i=>if listed.getD i true then 0 else 1) (g:=fun i=>if i=j then 0 else if listed.getD i true then 0 else 1) ops.size hlt (fun k hk=>by rw[if_neg hk]);rw[h1,if_pos rfl]at h2;have e:(if false=true then 0 else 1:Nat)=1:=rfl;rw[e]at h2;omega
   exact⟨hr,hend listed a w (hall listed hs hr) hi⟩
  | succ fuel ih =>
   intro listed a w hs hc hi;refine⟨fun hr=>hend listed a w (hall listed hs hr) hi,fun j hj=>?_⟩;obtain⟨h1,o,ho,h3⟩:=mem_ready.1 hj;have hlt:j<ops.size:=(Array.getElem?_eq_some_iff.1 ho).1;refine wpOp_mono (fun a' w' h=>ih _ a' w' (by simpa using hs) ?_ h) (hstep j o listed a w ho hs h1 h3 hi);have h2:=kC (f:=fun i=>if(listed.setIfInBounds j true).getD i true then 0 else 1) (g:=fun i=>if listed.getD i true then 0 else 1) ops.size hlt (fun k hk=>by rw[getD_set_ne true (fun e=>hk e.symm)]);rw[h1]at h2;have h4:(listed.setIfInBounds j true).getD j true=true:=by
    have hlt2:j<(listed.setIfInBounds j true).size:=by simp;omega
    simp[Array.getD,hlt2]
   rw[h4]at h2;have e:(if false=true then 0 else 1:Nat)=1:=rfl;have e2:(if true=true then 0 else 1:Nat)=0:=rfl;rw[e,e2]at h2;omega
 refine key ops.size _ a w.drew si ?_ h0;have:=oT (f:=fun i=>if(Array.replicate ops.size false).getD i true=true then 0 else 1) (m:=1) ops.size (fun k _=>by split<;>omega);omega
def aDn (ops:Array Oper) (L:Array Bool):Prop:=∀ (i:Nat) (o:Oper),ops[i]? = some o->L.getD i false=true->∀ e∈o.after,Region.binds .any e=true->L.getD e.on false=true
/-- .. and what has come waits for nothing that hasn't -/
theorem aFf {P:Program}{ops:Array Oper}{Q:Exit->Act->World->Prop}{id:Nat}{a:Act}{w:World}(hm:P.follows .mixedOrders=true) (hord:xW ops=true)
 (Inv:Array Bool->Act->World->Prop) (h0:Inv (Array.replicate ops.size false) a w.drew)
 (hstep:∀ (i:Nat) (o:Oper) (listed:Array Bool) (a:Act) (w:World),ops[i]? = some o->i<listed.size->listed.getD i false≠true->(∀ e∈o.after,Region.binds .any e=true->listed.getD e.on false=true)->aDn ops listed->Inv listed a w->wpOp P ops Q i (fun a' w'=>Inv (listed.setIfInBounds i true) a' w') a w)
 (hend:∀ listed a w,(∀ i,i<ops.size->listed.getD i false=true)->Inv listed a w->Q .normal a w):(Code.region id ops true).wp P Q a w:=by
 have hset:∀ (L:Array Bool) (i j:Nat),L.getD j false=true->(L.setIfInBounds i true).getD j false=true:=fun L i j h=>by
  by_cases e:j=i
  ·subst e;by_cases hj:j<L.size
   ·simp[Array.getD,hj]
   ·simp[Array.getD,hj]at h
  ·rw[getD_set_ne false (fun h2=>e h2.symm)];exact h
 refine aIq hm hord (fun L a w=>Inv L a w/\aDn ops L) ⟨h0,fun i o _ h=>?_⟩ (fun i o L a w ho hs hl hd hI=>?_) (fun L a w hL hI=>hend L a w hL hI.1)
 ·exfalso;by_cases hi:i<ops.size<;>simp[Array.getD,hi]at h
 ·have hlt:i<L.size:=by rw[hs];exact(Array.getElem?_eq_some_iff.1 ho).1
  have hne:L.getD i false≠true:=fun h=>by
   simp only[Array.getD,hlt,dif_pos]at h hl;rw[h]at hl;cases hl
  refine wpOp_mono (fun a' w' h=>⟨h,fun j o' hj hjl e he hb=>?_⟩) (hstep i o L a w ho hlt hne hd hI.2 hI.1);by_cases ej:j=i
  ·subst ej;rw[ho]at hj;cases hj;exact hset _ _ _ (hd e he hb)
  ·rw[getD_set_ne false (fun h2=>ej h2.symm)]at hjl;exact hset _ _ _ (hI.2 j o' hj hjl e he hb)
theorem aIb (B:Nat) (v:Value) (m:bA) (f:Nat) (w:World) (hB:B<=w.heap.size) (hm:cP B w v m) (hfl:f<m.funcs.length) :
 Calls Tryz.prog 35 #[v,.int .i64 f] w fun e w'=>e=.returned (.tuple #[.int .i64 (cX m f).1,.int .i64 (cX m f).2])/\Below w.heap.size w w':=by
 obtain⟨ta,tl,tc,fa,fl,fc,rfl,ht,hf⟩:=hm;obtain⟨hfl',hlen,fb,fo,hfa,H,hcs⟩:=hf;subst hfl';obtain⟨rfl,hfb⟩:=hfa oz;have Hcs:=qd hcs;obtain⟨⟨q0,q1,q2,q3,q4⟩,hnm,⟨hpl,hpm,pb,po,hpa,hps⟩,⟨hcl,hcm,_⟩,hr,hwd⟩:=hcs f hfl;clear hcs;unfold cX;have hself:((m.funcs.getD f default).name.toList==(m.funcs.getD f default).name.toList)=true:=si
 have HS:=qd hself;clear hself;generalize hx:m.funcs.getD f default=x at *;have Hx:=qd hx;clear hx;generalize H f=hh at *;obtain⟨pa,pl,pc,ca,cl,cc⟩:=hh;dsimp only at *;unfold maxLen at hlen hnm hpm hcm;subst hpl hcl;have hfb':fb<w.heap.size:=oz
 have Hp:=qd hps;clear hps;by_cases hN:eV x.name=false
 ·have HX:iK x (kQ m.funcs x.name) f=(8,0):=by simp[iK,hN]
  have HY:=qd HX;clear HX;go_enter Tryz.func35,Tryz.ntmps35;go_wp2_with (go_at_call 70;refine(xL _ _ hnm).mono ?_;rintro e w1 ⟨rfl,rfl⟩)
  exact aH2
 ·have hN1:eV x.name=true:=by simpa using hN
  clear hN;go_enter Tryz.func35,Tryz.ntmps35;go_wp2_with (go_at_call 70;refine(xL _ _ hnm).mono ?_;rintro e w1 ⟨rfl,rfl⟩)
  generalize hW0:World.alloc _ _=W0;have hb0:Below w.heap.size w W0:=by rw[<-hW0];exact bel
  have O1:=qd (show aF W0 w.heap.size [.slice ta tl tc,.slice (some ⟨fb,fo,none⟩) m.funcs.length fc] by rw[<-hW0];exact(aF.new _ _ _).alloc _);have O2:=qd (show aF W0 (w.heap.size+1) [.string x.name,.slice pa x.params.length pc,.int .i64 x.regs,.int .i64 x.words,.slice ca x.code.length cc] by rw[<-hW0];exact aF.new' _ _ _ _ si);clear hW0;have hz0:=O2.out.1;have Q:=qd (And.intro q0 (And.intro q1 (And.intro q2 (And.intro q3 q4))));clear q0 q1 q2 q3 q4;go_loopw [8] (fun i wr=>∃ j:Nat,j<=f/\i=.int .i64 j/\Below W0.heap.size W0 wr/\Hid (∀ i,i<j->((m.funcs.getD i default).name.toList==x.name.toList)=false)) (fun i _=>f-(intOf i).toNat)
  case atStart=>exact⟨0,Nat.zero_le _,rfl,Below.refl _ _,by intro j h;omega⟩
  case round =>
   obtain⟨j,hj,rfl,hbel,hn⟩:=hrel;have oa:=aD (O1.out.below hbel);have ob:=aX (O2.out.below hbel);have hz:=hbel.size;have hbw:Below w.heap.size w wr:=hb0.trans (Below.mono hbel oz);by_cases hlt:j<f
   ·have d2:(j:Int)<(f:Int):=oz
    have hwk:IntKind.i64.wrap ((j:Int)+1)=(j:Int)+1:=IntWalk.i64_in _ oz;have hwk0:IntKind.i64.wrap (j:Int)=(j:Int):=IntWalk.i64_in _ oz;have hjl:j<m.funcs.length:=oz
    obtain⟨⟨u0,_⟩,_⟩:=Hcs.out j hjl;have c0:=((bT hbw).1 fb _ hfb').trans u0;have hfw:fb<wr.heap.size:=oz
    generalize hy:(m.funcs.getD j default).name=nj at *;have Hy:=qd hy;clear hy u0;go_wp2;refine bC 8 kr kr ?_;simp only[TD];repeat(refine bS (fun K hK=>?_);go_simp;refine hK _ ?_;clear hK K)
    refine cF ?_;go_wp2
    ·have hZ:=sF m.funcs x.name j hjl (by rw[Hy.out];assumption) hn.out;have HX:iK x (kQ m.funcs x.name) f=(9,0):=by rw[hZ];simp[iK,hN1];omega
     exact aDv
    ·go_roundw
     case rel =>
      refine⟨j+1,oz,si,bel,qd ?_⟩;intro i hi;by_cases e:i=j
      ·subst e;rw[Hy.out];assumption
      ·exact hn.out i oz
     case measure=>go_light;exact ml
   ·have e:j=f:=oz
    subst e;have d2:¬(j:Int)<(j:Int):=oz
    have hZ:=sF m.funcs x.name j hfl (by rw[Hx.out];exact HS.out) hn.out;have hk:¬kQ m.funcs x.name<(j:Int):=by rw[hZ];omega
    clear hZ;have HK:=qd hk;clear hk;obtain⟨wA,rfl⟩:∃ wo:World,wo=wr:=⟨_,rfl⟩
    go_wp2
    ·have HX:=xA x (kQ m.funcs x.name) j hN1 (by have:=HK.out;omega) oz;exact aDv
    ·have hp8:¬8<x.params.length:=oz
     go_loopw [9] (fun i wr=>∃ i':Nat,i'<=x.params.length/\i=.int .i64 i'/\Below wA.heap.size wA wr/\Hid (∀ i,i<i'->dU (x.params.getD i default)=false)) (fun i _=>x.params.length-(intOf i).toNat)
     case atStart=>exact⟨0,Nat.zero_le _,rfl,Below.refl _ _,by intro j h;omega⟩
     case round =>
      obtain⟨i,hi,rfl,hbel2,hn2⟩:=hrel;have hbel3:Below W0.heap.size W0 wr:=hbel.trans (Below.mono hbel2 oz);have oa:=aD (O1.out.below hbel3);have ob:=aX (O2.out.below hbel3);have hzz:=hbel3.size;have hbw2:Below w.heap.size w wr:=hb0.trans (Below.mono hbel3 oz);by_cases hlt:i<x.params.length
      ·have d2:(i:Int)<(x.params.length:Int):=oz
       have hwk:IntKind.i64.wrap ((i:Int)+1)=(i:Int)+1:=IntWalk.i64_in _ oz;have hwk0:IntKind.i64.wrap (i:Int)=(i:Int):=IntWalk.i64_in _ oz;obtain⟨rfl,hpb⟩:=hpa oz;obtain⟨s0,s1,_,_⟩:=Hp.out i hlt;have hpbw:pb<w.heap.size:=oz
       have hpbr:pb<wr.heap.size:=oz
       have c0:=((bT hbw2).1 pb _ hpbw).trans s0;have c1:=((bT hbw2).1 pb _ hpbw).trans s1;clear s0 s1;generalize hy:x.params.getD i default=sp at *;have Hy:=qd hy;clear hy;go_wp2;refine bC 12 kr kr ?_;simp only[TD];repeat(refine bS (fun K hK=>?_);go_simp;refine hK _ ?_;clear hK K)
       refine cF ?_;go_wp2
       ·have HX:=sY x (kQ m.funcs x.name) j i hN1 (by have:=HK.out;omega) hp8 (zN _ _ _ hlt (by rw[Hy.out];unfold dU;simpa using (by assumption:sp.hi<sp.lo)) hn2.out);exact aDv
       ·go_roundw
        case rel =>
         refine⟨i+1,oz,si,bel,qd ?_⟩;intro i' hi';by_cases e:i'=i
         ·subst e;rw[Hy.out];unfold dU;simpa using (by assumption:sp.lo<=sp.hi)
         ·exact hn2.out i' oz
        case measure=>go_light;exact ml
      ·have HX:=wZ x (kQ m.funcs x.name) j hN1 (by have:=HK.out;omega) hp8 (aAy _ _ (fun i hi=>hn2.out i oz));exact aRh
theorem kV {ops:Array Oper}{o oj:Oper}{a:Act}{j d:Nat}{want b:Bool}(hg:o.guard=some (j,want)) (hj:ops[j]? = some oj) (hd:oj.dst=some d) (hv:a.eval (.tmp d)=.bool b) (hs:d<a.tmps.size):Region.wanted o (yielded ops a.tmps)=(b==want):=by
 have h1:a.tmps[d]? = some (.bool b):=by
  rw[Array.getElem?_eq_getElem hs];simp only[Act.eval,Array.getD,hs,dif_pos]at hv;simpa using hv
 unfold Region.wanted yielded;rw[hg];simp only[hj,Option.bind_some,hd,h1];cases b<;>cases want<;>rfl
theorem aMg {ops:Array Oper}{o oj:Oper}{a:Act}{j d:Nat}{want:Bool}(hg:o.guard=some (j,want)) (hj:ops[j]? = some oj) (hd:oj.dst=some d) (hv:a.eval (.tmp d)=undef):Region.wanted o (yielded ops a.tmps)=false:=by
 have h1:∀ b,a.tmps[d]? ≠ some (.bool b):=fun b h=>by
  have e:a.eval (.tmp d)=.bool b:=by
   obtain⟨hs,he⟩:=Array.getElem?_eq_some_iff.1 h;simp[Act.eval,Array.getD,hs,he]
  rw[hv]at e;cases e
 unfold Region.wanted yielded;rw[hg];simp only[hj,Option.bind_some,hd];rfl
/-- a guarded call -/
theorem oJ {P:Program}{ops:Array Oper}{o:Oper}{a:Act}{w:World}{K:Act->World->Prop}{Q:Exit->Act->World->Prop}{E:Prop}(hw:Region.wanted o (yielded ops a.tmps)=true) (f:FuncId) (ops2:List Operand) (ts:Array TypeId) (ho:o.op=.call { callee:=.value (.func f),args:=ops2.toArray,argTypes:=ts })
 (hcf:∀ args w,(callFunc f args).run P w=.ok (.enter f args) w) (vs:List Value) (hv:ops2.map a.eval=vs) (R:Value->World->Prop) (hc:Calls P f vs.toArray w fun e w'=>∃ v,e=.returned v/\R v w') (h:∀ v w',R v w'->K (a.put o.dst v) w'):if Region.wanted o (yielded ops a.tmps)=true then o.wp P a w K Q else E:=by
 rw[if_pos hw];subst hv;have hr:(execOp a.eval o).run P w=.ok (.enter f (ops2.map a.eval).toArray) w:=by
  simp[execOp,ho,resolve,invoke,Deferred.ofValue,Act.eval,hcf]
 unfold Oper.wp;rw[hr,Oper.upon_enter];refine hc.mono ?_;rintro e w' ⟨v,rfl,hR⟩;exact h v w' hR
theorem sW {P:Program}{md:Region.Mode}{ops:Array Oper}{K:Act->World->Prop}{S:World->Prop}(i d:Nat) {oi oj:Oper}{j:Nat}{want b:Bool}{v:Value}{fuel:Nat}{listed:Array Bool}{a:Act}{w:World}{rs:List Oper}(hi:ops.toList.drop i=oi::rs)
 (h:wpAnyH P md ops (kS K) S fuel (listed.setIfInBounds i true) (a.put oi.dst v) w)
 (hx:∀ w',S w'->(execOp a.eval oi).run P w'=.ok (.value v) w':=by intro w' hSw;have s:=HSS.out w' hSw;simp only[GE,MX,EX,execOp,Ee,if_pos,if_neg,reduceIte,Nat.reduceEqDiff,Nat.reduceLT,Nat.reduceBEq];go_simp;(try with_reducible rfl))
 (hg:oi.guard=some (j,want):=by rfl) (hj:ops[j]? = some oj:=by rfl) (hd:oj.dst=some d:=by rfl) (hv:a.eval (.tmp d)=.bool b:=by simp only[GE,MX,EX,Ee,if_pos,if_neg,reduceIte,Nat.reduceEqDiff,Nat.reduceLT,Nat.reduceBEq];try rfl) (hz:d<a.tmps.size:=by simp only[GE,MX,EX,Ee];decide) (hb:(b==want)=true:=by rfl) (hs:Region.noSelect ops=true:=by kernel_rfl) (hf:Region.free md ops listed i=true:=by kernel_rfl) (hr:(Region.ready md ops listed).contains i=true:=by kernel_rfl) (hS:S w:=by assumption):wpAnyH P md ops (kS K) S (fuel+1) listed a w :=
 wpAnyH_take (xJ hi) hs hf hr (fun _ _ _ h=>h) (.inl ⟨(kV hg hj hd hv hz).trans hb,hx⟩) hS h
theorem cR {P:Program}{md:Region.Mode}{ops:Array Oper}{K:Act->World->Prop}{S:World->Prop}(i d:Nat) {oi oj:Oper}{j:Nat}{want b:Bool}{v:Value}{fuel:Nat}{listed:Array Bool}{a:Act}{w:World}{rs:List Oper}(hi:ops.toList.drop i=oi::rs)
 (h:wpAnyH P md ops (kS K) S fuel (listed.setIfInBounds i true) (a.put oi.dst v) w)
 (hx:∀ w',S w'->(execOp a.eval oi).run P w'=.ok (.value v) w':=by intro w' hSw;have s:=HSS2.out w' hSw;simp only[GE,MX,EX,execOp,Ee,if_pos,if_neg,reduceIte,Nat.reduceEqDiff,Nat.reduceLT,Nat.reduceBEq];go_simp;(try with_reducible rfl))
 (hg:oi.guard=some (j,want):=by rfl) (hj:ops[j]? = some oj:=by rfl) (hd:oj.dst=some d:=by rfl) (hv:a.eval (.tmp d)=.bool b:=by simp only[GE,MX,EX,Ee,if_pos,if_neg,reduceIte,Nat.reduceEqDiff,Nat.reduceLT,Nat.reduceBEq];try rfl) (hz:d<a.tmps.size:=by simp only[GE,MX,EX,Ee];decide) (hb:(b==want)=true:=by rfl) (hs:Region.noSelect ops=true:=by kernel_rfl) (hf:Region.free md ops listed i=true:=by kernel_rfl) (hr:(Region.ready md ops listed).contains i=true:=by kernel_rfl) (hS:S w:=by assumption):wpAnyH P md ops (kS K) S (fuel+1) listed a w :=
 wpAnyH_take (xJ hi) hs hf hr (fun _ _ _ h=>h) (.inl ⟨(kV hg hj hd hv hz).trans hb,hx⟩) hS h
theorem mP {P:Program}{md:Region.Mode}{ops:Array Oper}{K:Act->World->Prop}{S:World->Prop}(i d:Nat) {oi oj:Oper}{j:Nat}{want b:Bool}{fuel:Nat}{listed:Array Bool}{a:Act}{w:World}{rs:List Oper}(hi:ops.toList.drop i=oi::rs)
 (h:wpAnyH P md ops (kS K) S fuel (listed.setIfInBounds i true) (a.put oi.dst undef) w)
 (hg:oi.guard=some (j,want):=by rfl) (hj:ops[j]? = some oj:=by rfl) (hd:oj.dst=some d:=by rfl) (hv:a.eval (.tmp d)=.bool b:=by simp only[GE,MX,EX,Ee,if_pos,if_neg,reduceIte,Nat.reduceEqDiff,Nat.reduceLT,Nat.reduceBEq];try rfl) (hz:d<a.tmps.size:=by simp only[GE,MX,EX,Ee];decide) (hb:(b==want)=false:=by rfl) (hs:Region.noSelect ops=true:=by kernel_rfl) (hf:Region.free md ops listed i=true:=by kernel_rfl) (hr:(Region.ready md ops listed).contains i=true:=by kernel_rfl) (hS:S w:=by assumption):wpAnyH P md ops (kS K) S (fuel+1) listed a w :=
 wpAnyH_take (xJ hi) hs hf hr (fun _ _ _ h=>h) (.inr ⟨(kV hg hj hd hv hz).trans hb,rfl⟩) hS h
theorem rA {P:Program}{md:Region.Mode}{ops:Array Oper}{K:Act->World->Prop}{S:World->Prop}(i d:Nat) {oi oj:Oper}{j:Nat}{want:Bool}{fuel:Nat}{listed:Array Bool}{a:Act}{w:World}{rs:List Oper}(hi:ops.toList.drop i=oi::rs)
 (h:wpAnyH P md ops (kS K) S fuel (listed.setIfInBounds i true) (a.put oi.dst undef) w)
 (hg:oi.guard=some (j,want):=by rfl) (hj:ops[j]? = some oj:=by rfl) (hd:oj.dst=some d:=by rfl) (hv:a.eval (.tmp d)=undef:=by simp only[GE,MX,EX,Ee,if_pos,if_neg,reduceIte,Nat.reduceEqDiff,Nat.reduceLT,Nat.reduceBEq];try rfl) (hs:Region.noSelect ops=true:=by kernel_rfl) (hf:Region.free md ops listed i=true:=by kernel_rfl) (hr:(Region.ready md ops listed).contains i=true:=by kernel_rfl) (hS:S w:=by assumption):wpAnyH P md ops (kS K) S (fuel+1) listed a w :=
 wpAnyH_take (xJ hi) hs hf hr (fun _ _ _ h=>h) (.inr ⟨aMg hg hj hd hv,rfl⟩) hS h
end Go.Proofs.YteebpnbdihcfmaaGreatDoor
