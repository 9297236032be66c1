/- The graph of package loops in memory; The plain law of a search by a stack and a set; The plain law of loops; Regions that draw their order, in a round of a range over a; dom -/
import Derived.Test.YteebpnbdihcfmaaGreatDoorJ05
import Derived.Test.YteebpnbdihcfmaaGreatDoorJ06
import Derived.Test.YteebpnbdihcfmaaGreatDoorJ04
import Derived.OrdersHeld
import Derived.Deep.RegionHeld3
import Derived.OrdersIn
import Derived.Test.YteebpnbdihcfmaaGreatDoorJ01
set_option linter.unusedVariables false
set_option linter.unusedSimpArgs false
set_option maxRecDepth 100000
set_option maxHeartbeats 20000000
namespace Go.Proofs.YteebpnbdihcfmaaGreatDoor
open Go.RowKit
section
def nilS:Value:=.slice none 0 0
def rowM (s:Nat->Option Value):Int->Option Value:=fun i=>if 0<=i then s i.toNat else none
theorem rowM_nat (s:Nat->Option Value) (v:Nat):rowM s (v:Int)=s v:=by simp[rowM]
structure GraphAt (W:World) (lo b0 n:Nat) (G:Nat->Nat->List Int) (S:Nat->Nat->Option Value):Prop where
 map:∀ c,c<3->MapAt W (b0+c) n (rowM (S c))
 each:∀ c v s,c<3->S c v=some s->W.ownsRow 0 3 1 s (G c v).length (Nums (G c v))
 ent:∀ c v,c<3->((S c v).isSome=true↔G c v≠[])
 low:∀ c v s k,c<3->S c v=some s->s.ownBlock=some k->lo<=k
 lb:b0+3<=lo
 dis:∀ c v s d u t k,c<3->d<3->S c v=some s->S d u=some t->s.ownBlock=some k->t.ownBlock=some k->c=d/\v=u
 big:∀ c v,c<3->¬v<1024->S c v=none
/-- the blocks of the graph -/
def OwnG (b0:Nat) (W:World) (k:Nat):Prop:=(b0<=k/\k<b0+3)\/∃ c v n M l cp,c<3/\v<1024/\MapAt W (b0+c) n M/\M (v:Nat)=some (.slice (some ⟨k,0,none⟩) l cp)
theorem inI_nat {v:Nat}(h:v<1024):inI (v:Int):=by unfold inI;omega
section
variable {W W' : World} {lo b0 n : Nat} {G : Nat -> Nat -> List Int} {S : Nat -> Nat -> Option Value}
/-- the row at a key, nil where there is none -/
theorem GraphAt.row (h:GraphAt W lo b0 n G S) {c v:Nat}(hc:c<3):W.ownsRow 0 3 1 ((S c v).getD nilS) (G c v).length (Nums (G c v)):=by
 cases hs:S c v with
 | none =>
  have:G c v=[]:=by
   cases hg:G c v with
   | nil=>rfl
   | cons a t =>
    have:=(h.ent c v hc).2 (by rw[hg];simp);rw[hs]at this;cases this
  rw[this];exact World.ownsRow_nil _ _ _ _
 | some s=>exact h.each c v s hc hs
theorem GraphAt.ownBlock (h:GraphAt W lo b0 n G S) {c v k:Nat}(hc:c<3) (hk:((S c v).getD nilS).ownBlock=some k):∃ s,S c v=some s/\s.ownBlock=some k:=by
 cases hs:S c v with
 | none=>rw[hs]at hk;cases hk
 | some s=>rw[hs]at hk;exact⟨s,rfl,hk⟩
theorem GraphAt.ofOwn (h:GraphAt W lo b0 n G S) {k:Nat}(hk:OwnG b0 W k):(b0<=k/\k<b0+3)\/∃ c v s,c<3/\S c v=some s/\s.ownBlock=some k:=by
 rcases hk with hk|⟨c,v,n',M,l,cp,hc,hv,hm,hM⟩
 ·exact .inl hk
 ·refine .inr ⟨c,v,.slice (some ⟨k,0,none⟩) l cp,hc,?_,rfl⟩;have:=hm.uniq (h.map c hc) (inI_nat hv);rw[hM,rowM_nat]at this;exact this.symm
theorem GraphAt.toOwn (h:GraphAt W lo b0 n G S) {c v k:Nat}{s:Value}(hc:c<3) (hs:S c v=some s) (hk:s.ownBlock=some k):OwnG b0 W k:=by
 have hv:v<1024:=by
  refine Classical.byContradiction fun hv=>?_;rw[h.big c v hc hv]at hs;cases hs
 rcases row_form (h.each c v s hc hs)with⟨h1,_,_⟩|⟨g,cp,h1,_⟩
 ·rw[h1]at hk;cases hk
 ·rw[h1]at hk;have e:g=k:=Option.some.inj hk;subst e;exact .inr ⟨c,v,n,_,_,cp,hc,hv,h.map c hc,by rw[rowM_nat,hs,h1]⟩
theorem GraphAt.ownLt (h:GraphAt W lo b0 n G S) {k:Nat}(hk:OwnG b0 W k):k<W.heap.size:=by
 rcases h.ofOwn hk with⟨h1,h2⟩|⟨c,v,s,hc,hs,hk⟩
 ·have:=(h.map (k-b0) oz).lt;omega
 ·exact row_lt (h.each c v s hc hs) hk
theorem GraphAt.ownGe (h:GraphAt W lo b0 n G S) {k:Nat}(hk:OwnG b0 W k):(b0<=k/\k<b0+3)\/lo<=k:=by
 rcases h.ofOwn hk with h1|⟨c,v,s,hc,hs,hk⟩
 ·exact .inl h1
 ·exact .inr (h.low c v s k hc hs hk)
theorem OwnG.iff {k:Nat}(h:∀ c,c<3->W'.heap[b0+c]? = W.heap[b0+c]?):OwnG b0 W' k↔OwnG b0 W k:=by
 unfold OwnG;constructor
 ·rintro(h1|⟨c,v,n,M,l,cp,hc,hv,hm,hM⟩)
  ·exact .inl h1
  ·exact .inr ⟨c,v,n,M,l,cp,hc,hv,hm.keep (h c hc).symm,hM⟩
 ·rintro(h1|⟨c,v,n,M,l,cp,hc,hv,hm,hM⟩)
  ·exact .inl h1
  ·exact .inr ⟨c,v,n,M,l,cp,hc,hv,hm.keep (h c hc),hM⟩
theorem GraphAt.chg {T:Nat->Prop}(h:GraphAt W lo b0 n G S) (hc:Chg T W W') (hT:∀ k,OwnG b0 W k->¬T k):GraphAt W' lo b0 n G S :=
 ⟨fun c hcc=>(h.map c hcc).chg hc (hT _ (.inl ⟨oz,oz⟩)),fun c v s hcc hs=>row_chg hc (h.each c v s hcc hs) (fun k hk=>hT k (h.toOwn hcc hs hk)),h.ent,h.low,h.lb,h.dis,h.big⟩
theorem GraphAt.below (h:GraphAt W lo b0 n G S) (hc:Below W.heap.size W W'):GraphAt W' lo b0 n G S:=h.chg (T:=fun _=>False) (Chg.of hc) (fun _ _ h=>h)
theorem GraphAt.chgLow {T:Nat->Prop}(h:GraphAt W lo b0 n G S) (hc:Chg T W W') (hT:∀ k,T k->k<lo/\¬(b0<=k/\k<b0+3)):GraphAt W' lo b0 n G S :=
 h.chg hc (fun k hk ht=>by
  have:=hT k ht;rcases h.ownGe hk with h1|h2
  ·exact this.2 h1
  ·omega)
theorem GraphAt.turn {b:Nat}(c:Turn b W W') (h:GraphAt W lo b0 n G S) (hb:b0+3<=b):GraphAt W' lo b0 n G S :=
 ⟨fun d hd=>(h.map d hd).keep (c.block _ (.inl oz)),fun d v s hd hs=>row_turn c (h.each d v s hd hs),h.ent,h.low,h.lb,h.dis,h.big⟩
def updG (G:Nat->Nat->List Int) (c v:Nat) (x:Int):Nat->Nat->List Int:=fun d u=>if d=c/\u=v then G c v++[x]else G d u
def updS (S:Nat->Nat->Option Value) (c v:Nat) (s:Value):Nat->Nat->Option Value:=fun d u=>if d=c/\u=v then some s else S d u
theorem updS_self (S:Nat->Nat->Option Value) (c v:Nat) (s:Value):updS S c v s c v=some s:=by simp[updS]
theorem updS_ne {S:Nat->Nat->Option Value}{c v d u:Nat}{s:Value}(h:¬(d=c/\u=v)):updS S c v s d u=S d u:=by simp only[updS,if_neg h]
theorem updG_ne {G:Nat->Nat->List Int}{c v d u:Nat}{x:Int}(h:¬(d=c/\u=v)):updG G c v x d u=G d u:=by simp only[updG,if_neg h]
theorem updG_self (G:Nat->Nat->List Int) (c v:Nat) (x:Int):updG G c v x c v=G c v++[x]:=by simp[updG]
/-- a number more in one of the rows -/
theorem GraphAt.push {W1 W2:World}{c v:Nat}{s':Value}{x:Int}(h:GraphAt W lo b0 n G S) (hcc:c<3) (hv:v<1024) (hc:Chg (fun k=>((S c v).getD nilS).ownBlock=some k) W W1)
 (hr:W1.ownsRow 0 3 1 s' ((G c v).length+1) (Nums (G c v)++Nums [x])) (hb:∀ k,s'.ownBlock=some k->((S c v).getD nilS).ownBlock=some k\/W.heap.size<=k) (hlo:lo<=W.heap.size)
 (hm:MapAt W2 (b0+c) (n+1) (updM (rowM (S c)) (v:Int) s')) (hc2:Chg (· = b0+c) W1 W2) :
 GraphAt W2 lo b0 (n+1) (updG G c v x) (updS S c v s')/\KpE (OwnG b0) W W2:=by
 have hlb:=h.lb;have hlow0:∀ k,((S c v).getD nilS).ownBlock=some k->lo<=k:=fun k hk=>by
  obtain⟨s,hs,hk⟩:=h.ownBlock hcc hk;exact h.low c v s k hcc hs hk
 have hlow:∀ d u t k,d<3->updS S c v s' d u=some t->t.ownBlock=some k->lo<=k:=by
  intro d u t k hd ht hk;by_cases e:d=c/\u=v
  ·obtain⟨rfl,rfl⟩:=e;rw[updS_self]at ht;cases ht;rcases hb k hk with h1|h1
   ·exact hlow0 k h1
   ·omega
  ·rw[updS_ne e]at ht;exact h.low d u t k hd ht hk
 have hdis1:∀ d u t k,d<3->¬(d=c/\u=v)->S d u=some t->t.ownBlock=some k->¬((S c v).getD nilS).ownBlock=some k:=fun d u t k hd hne ht hk e=>by
  obtain⟨s,hs,e⟩:=h.ownBlock hcc e;exact hne (h.dis d u t c v s k hd hcc ht hs hk e)
 have hrow:∀ d u t,d<3->¬(d=c/\u=v)->S d u=some t->W2.ownsRow 0 3 1 t (G d u).length (Nums (G d u)):=fun d u t hd hne ht =>
  row_chg hc2 (row_chg hc (h.each d u t hd ht) (fun k hk=>hdis1 d u t k hd hne ht hk)) (fun k hk e=>by have:=h.low d u t k hd ht hk;omega)
 have hF:GraphAt W2 lo b0 (n+1) (updG G c v x) (updS S c v s'):=by
  refine⟨?_,?_,?_,hlow,h.lb,?_,?_⟩
  ·intro d hd;by_cases e:d=c
   ·subst e;have e2:rowM (updS S d v s' d)=updM (rowM (S d)) (v:Int) s':=by
     funext i;unfold rowM updM;by_cases hi:0<=i
     ·rw[if_pos hi];by_cases e3:i=(v:Int)
      ·subst e3;rw[if_pos rfl,Int.toNat_natCast,updS_self]
      ·rw[if_neg e3];dsimp only;rw[if_pos hi,updS_ne (by omega)]
     ·rw[if_neg hi,if_neg (by omega)];dsimp only;rw[if_neg hi]
    rw[e2];exact hm
   ·have e2:rowM (updS S c v s' d)=rowM (S d):=by
     funext i;unfold rowM;rw[updS_ne (by omega)]
    rw[e2];exact((((h.map d hd).chg hc (fun hk=>by have:=hlow0 _ hk;omega)).chg hc2 oz).mono (Nat.le_succ n))
  ·intro d u t hd ht;by_cases e:d=c/\u=v
   ·obtain⟨rfl,rfl⟩:=e;rw[updS_self]at ht;cases ht;rw[updG_self,List.length_append,Nums_append];exact row_chg hc2 hr (fun k hk e=>by
     rcases hb k hk with h1|h1
     ·have:=hlow0 k h1;omega
     ·omega)
   ·rw[updS_ne e]at ht;rw[updG_ne e];exact hrow d u t hd e ht
  ·intro d u hd;by_cases e:d=c/\u=v
   ·obtain⟨rfl,rfl⟩:=e;rw[updS_self,updG_self];simp
   ·rw[updS_ne e,updG_ne e];exact h.ent d u hd
  ·intro d1 u1 t1 d2 u2 t2 k hd1 hd2 h1 h2 k1 k2;by_cases e1:d1=c/\u1=v
   ·by_cases e2:d2=c/\u2=v
    ·omega
    ·obtain⟨rfl,rfl⟩:=e1;rw[updS_self]at h1;cases h1;rw[updS_ne e2]at h2;rcases hb k k1 with h3|h3
     ·exact absurd h3 (hdis1 d2 u2 t2 k hd2 e2 h2 k2)
     ·have:=row_lt (h.each d2 u2 t2 hd2 h2) k2;omega
   ·rw[updS_ne e1]at h1;by_cases e2:d2=c/\u2=v
    ·obtain⟨rfl,rfl⟩:=e2;rw[updS_self]at h2;cases h2;rcases hb k k2 with h3|h3
     ·exact absurd h3 (hdis1 d1 u1 t1 k hd1 e1 h1 k1)
     ·have:=row_lt (h.each d1 u1 t1 hd1 h1) k1;omega
    ·rw[updS_ne e2]at h2;exact h.dis d1 u1 t1 d2 u2 t2 k hd1 hd2 h1 h2 k1 k2
  ·intro d u hd hu;rw[updS_ne (by omega)];exact h.big d u hd hu
 refine⟨hF,?_,?_⟩
 ·refine Chg.trans2 (hc.mono fun k _ hk=>?_) hc2 ?_
  ·obtain⟨s,hs,hk⟩:=h.ownBlock hcc hk;exact h.toOwn hcc hs hk
  ·intro k _ e;exact .inl ⟨oz,oz⟩
 ·intro k hk;rcases hF.ofOwn hk with h1|⟨d,u,t,hd,ht,hk⟩
  ·exact .inl (.inl h1)
  ·by_cases e:d=c/\u=v
   ·obtain⟨rfl,rfl⟩:=e;rw[updS_self]at ht;cases ht;rcases hb k hk with h1|h1
    ·obtain⟨s,hs,hk⟩:=h.ownBlock hcc h1;exact .inl (h.toOwn hcc hs hk)
    ·exact .inr h1
   ·rw[updS_ne e]at ht;exact .inl (h.toOwn hd ht hk)
end
theorem zeroS (w:World):(zeroValue 50).run Tryz.prog w=.ok nilS w:=kr
theorem Tryz.mapS:Tryz.prog.underlying 104=some (.map 3 50):=kr
end
section
/-- what is come to from some, by ways that do not go on from those of a set -/
inductive Cl (nx:Int->List Int) (b0:Int->Bool) (t0:List Int):Int->Prop
 | start (x:Int):x∈t0->Cl nx b0 t0 x
 | step (x y:Int):Cl nx b0 t0 x->b0 x=false->y∈nx x->Cl nx b0 t0 y
structure SInv (nx:Int->List Int) (b0:Int->Bool) (t0:List Int) (been:Int->Bool) (todo:List Int):Prop where
 tr:∀ x∈todo,Cl nx b0 t0 x
 br:∀ x,been x=true->b0 x=true\/Cl nx b0 t0 x
 b0b:∀ x,b0 x=true->been x=true
 t0t:∀ x∈t0,x∈todo\/been x=true
 cl:∀ x,been x=true->b0 x=false->∀ y∈nx x,y∈todo\/been y=true
section
variable {nx : Int -> List Int} {b0 : Int -> Bool} {t0 : List Int} {been : Int -> Bool} {t : List Int} {a : Int}
theorem SInv.start:SInv nx b0 t0 b0 t0:=⟨fun x hx=>.start x hx,fun x hx=>.inl hx,fun x hx=>hx,fun x hx=>.inl hx,fun x h1 h2=>by rw[h1]at h2;cases h2⟩
theorem SInv.drop (h:SInv nx b0 t0 been (t++[a])) (ha:been a=true):SInv nx b0 t0 been t:=by
 have key:∀ y,y∈t++[a]\/been y=true->y∈t\/been y=true:=by
  intro y hy;rcases hy with hy|hy
  ·rcases List.mem_append.1 hy with k|k
   ·exact .inl k
   ·simp at k;subst k;exact .inr ha
  ·exact .inr hy
 exact⟨fun x hx=>h.tr x (by simp[hx]),h.br,h.b0b,fun x hx=>key x (h.t0t x hx),fun x h1 h2 y hy=>key y (h.cl x h1 h2 y hy)⟩
def addB (been:Int->Bool) (a:Int):Int->Bool:=fun x=>decide (x=a)||been x
theorem addB_self (been:Int->Bool) (a:Int):addB been a a=true:=by simp[addB]
theorem addB_of {been:Int->Bool}{a x:Int}(h:been x=true):addB been a x=true:=by simp[addB,h]
theorem addB_inv {been:Int->Bool}{a x:Int}(h:addB been a x=true):x=a\/been x=true:=by simpa[addB]using h
theorem SInv.mark (h:SInv nx b0 t0 been (t++[a])) (ha:been a=false):SInv nx b0 t0 (addB been a) (t++nx a):=by
 have hca:=h.tr a si;have hb0:b0 a=false:=by
  cases hb:b0 a with
  | false=>rfl
  | true=>rw[h.b0b a hb]at ha;cases ha
 have key:∀ y,y∈t++[a]\/been y=true->y∈t++nx a\/addB been a y=true:=by
  intro y hy;rcases hy with hy|hy
  ·rcases List.mem_append.1 hy with k|k
   ·exact .inl (by simp[k])
   ·simp at k;subst k;exact .inr (addB_self _ _)
  ·exact .inr (addB_of hy)
 refine⟨fun x hx=>?_,fun x hx=>?_,fun x hx=>addB_of (h.b0b x hx),fun x hx=>key x (h.t0t x hx),fun x h1 h2 y hy=>?_⟩
 ·rcases List.mem_append.1 hx with k|k
  ·exact h.tr x (by simp[k])
  ·exact .step a x hca hb0 k
 ·rcases addB_inv hx with rfl|k
  ·exact .inr hca
  ·exact h.br x k
 ·rcases addB_inv h1 with rfl|k
  ·exact .inl (by simp[hy])
  ·exact key y (h.cl x k h2 y hy)
theorem SInv.done (h:SInv nx b0 t0 been []) (x:Int):been x=true↔b0 x=true\/Cl nx b0 t0 x:=by
 refine⟨h.br x,fun k=>?_⟩;rcases k with k|k
 ·exact h.b0b x k
 ·induction k with
  | start x hx =>
   rcases h.t0t x hx with j|j
   ·simp at j
   ·exact j
  | step x y hx h0 hy ih =>
   rcases h.cl x ih h0 y hy with j|j
   ·simp at j
   ·exact j
/-- rounds still to come -/
def sLeft (been:Int->Bool) (todo:List Int):Nat:=8192*((List.range 1024).filter fun k:Nat => !been k).length+todo.length
theorem sLeft_drop:sLeft been t<sLeft been (t++[a]):=by unfold sLeft;simp
theorem filt_lt {been:Int->Bool}{k:Nat}(hk:been k=false):∀ l:List Nat,k∈l->(l.filter fun x:Nat => !addB been k x).length<(l.filter fun x:Nat => !been x).length:=by
 have mono:∀ l:List Nat,(l.filter fun x:Nat => !addB been k x).length<=(l.filter fun x:Nat => !been x).length:=by
  intro l
  induction l with
  | nil=>simp
  | cons x l ih =>
   simp only[List.filter_cons];cases hx:been (x:Int)
   ·cases addB been (k:Int) (x:Int)<;>simp<;>omega
   ·rw[addB_of hx];simpa using ih
 intro l
 induction l with
 | nil=>intro h;simp at h
 | cons x l ih =>
  intro h;simp only[List.filter_cons];by_cases e:x=k
  ·subst e;rw[addB_self,hk];have:=mono l;simp;omega
  ·have hm:k∈l:=by
    rcases List.mem_cons.1 h with h|h
    ·exact absurd h.symm e
    ·exact h
   have:=ih hm;have e2:addB been (k:Int) (x:Int)=been (x:Int):=by simp[addB];omega
   rw[e2];cases been (x:Int)<;>simp<;>omega
theorem sLeft_mark {k:Nat}(hk:k<1024) (hb:been k=false) (hn:(nx k).length<=4096):sLeft (addB been k) (t++nx k)<sLeft been (t++[(k:Int)]):=by
 have:=filt_lt hb (List.range 1024) (List.mem_range.2 hk);unfold sLeft;simp only[List.length_append,List.length_cons,List.length_nil];omega
theorem sLeft_len:t.length<=sLeft been t:=by unfold sLeft;omega
theorem sLeft_le (h:t.length<=8192):sLeft been t<=8192*1024+8192:=by
 have:=List.length_filter_le (fun k:Nat => !been k) (List.range 1024);rw[List.length_range]at this;unfold sLeft;omega
end
end
section
def cntA (A:Nat->List Int) (rem:Nat->Bool) (v:Nat):Nat:=sumN 1024 fun u=>if rem u then 0 else(A u).count (v:Int)
def addN (rem:Nat->Bool) (u:Nat):Nat->Bool:=fun k=>decide (k=u)||rem k
theorem addN_self (rem:Nat->Bool) (u:Nat):addN rem u u=true:=by simp[addN]
theorem addN_ne {rem:Nat->Bool}{u k:Nat}(h:k≠u):addN rem u k=rem k:=by simp[addN,h]
theorem addN_of {rem:Nat->Bool}{u k:Nat}(h:rem k=true):addN rem u k=true:=by simp[addN,h]
theorem addN_inv {rem:Nat->Bool}{u k:Nat}(h:addN rem u k=true):k=u\/rem k=true:=by simpa[addN]using h
theorem cntA_add {A:Nat->List Int}{rem:Nat->Bool}{u:Nat}(hu:u<1024) (hr:rem u=false) (v:Nat):cntA A rem v=cntA A (addN rem u) v+(A u).count (v:Int):=by
 unfold cntA;have:=sumN_upd (f:=fun k=>if rem k then 0 else(A k).count (v:Int)) (g:=fun k=>if addN rem u k then 0 else(A k).count (v:Int)) 1024 hu (fun k hk=>by simp only[addN_ne hk]);simp only[addN_self,hr]at this;simp at this;omega
def leftN (n:Nat) (Rp:Nat->Bool) (rem:Nat->Bool):Nat:=sumN n fun v=>if Rp v && !rem v then 1 else 0
theorem leftN_add {n:Nat}{Rp rem:Nat->Bool}{u:Nat}(hu:u<n) (h1:Rp u=true) (h2:rem u=false):leftN n Rp rem=leftN n Rp (addN rem u)+1:=by
 unfold leftN;have:=sumN_upd (f:=fun v=>if Rp v && !rem v then 1 else 0) (g:=fun v=>if Rp v && !addN rem u v then 1 else 0) n hu (fun k hk=>by simp only[addN_ne hk]);simp only[addN_self,h1,h2,Bool.not_true,Bool.and_false,Bool.not_false,Bool.and_true,if_true]at this;have e:(if false=true then 1 else 0:Nat)=0:=rfl;rw[e]at this;omega
/-- what stands while the edges of one that was taken away are gone through: rest: those still to come -/
structure KInv (A:Nat->List Int) (n:Nat) (Rp:Nat->Bool) (c:Nat->Nat) (rem:Nat->Bool) (todo:List Int) (rest:List Int):Prop where
 cn:∀ v,c v=cntA A rem v+rest.count (v:Int)
 t:∀ x∈todo,∃ v:Nat,x=v/\v<n/\Rp v=true/\rem v=false/\c v=0
 nd:todo.Nodup
 r:∀ v,rem v=true->v<n/\Acc (fun u x:Nat=>(x:Int)∈A u/\u<1024) v/\c v=0
 k:∀ v,v<n->Rp v=true->c v=0->(v:Int)∈todo\/rem v=true
section
variable {A : Nat -> List Int} {n : Nat} {Rp : Nat -> Bool} {c : Nat -> Nat} {rem : Nat -> Bool} {todo rest : List Int}
theorem KInv.acc (h:KInv A n Rp c rem todo rest) {v:Nat}(hv:c v=0):Acc (fun u x:Nat=>(x:Int)∈A u/\u<1024) v:=by
 refine⟨v,fun u ⟨h1,h2⟩=>?_⟩;cases hr:rem u with
 | true=>exact(h.r u hr).2.1
 | false =>
  have h3:=h.cn v;have h4:cntA A rem v=0:=oz
  have h5:=sumN_zero 1024 h4 u h2;simp only[hr]at h5;have:=List.count_pos_iff.2 h1;have h6:(A u).count (v:Int)=0:=by simpa using h5
  omega
theorem KInv.pop {t:List Int}{u:Nat}(h:KInv A n Rp c rem (t++[(u:Int)]) []) (hn:n<=1024):KInv A n Rp c (addN rem u) t (A u)/\u<n/\Rp u=true/\rem u=false/\leftN n Rp rem=leftN n Rp (addN rem u)+1:=by
 obtain⟨v,hv,hvn,h1,h2,h3⟩:=h.t (u:Int) si;have e:u=v:=oz
 subst e;refine⟨⟨fun v=>?_,fun x hx=>?_,?_,fun v hv=>?_,fun v h4 h5 h6=>?_⟩,hvn,h1,h2,leftN_add hvn h1 h2⟩
 ·have:=h.cn v;rw[cntA_add (by omega) h2]at this;simpa using this
 ·obtain⟨v,e,h4,h5,h6,h7⟩:=h.t x (by simp[hx]);subst e;refine⟨v,rfl,h4,h5,?_,h7⟩;rw[addN_ne]
  ·exact h6
  ·intro e;subst e;have:=h.nd;rw[List.nodup_append]at this;exact this.2.2 _ hx _ si rfl
 ·have:=h.nd;rw[List.nodup_append]at this;exact this.1
 ·rcases addN_inv hv with rfl|hv
  ·exact⟨hvn,h.acc h3,h3⟩
  ·exact h.r v hv
 ·rcases h.k v h4 h5 h6 with h7|h7
  ·rcases List.mem_append.1 h7 with h8|h8
   ·exact .inl h8
   ·have h9:(v:Int)=u:=by simpa using h8
    have:v=u:=oz
    subst this;exact .inr (addN_self _ _)
  ·exact .inr (addN_of h7)
def decN (c:Nat->Nat) (x:Nat):Nat->Nat:=fun k=>if k=x then c x-1 else c k
def putT (c:Nat->Nat) (x:Nat) (todo:List Int):List Int:=if c x-1=0 then todo++[(x:Int)]else todo
theorem KInv.step {x:Nat}(h:KInv A n Rp c rem todo ((x:Int)::rest)) (hx:x<n) (hr:Rp x=true):KInv A n Rp (decN c x) rem (putT c x todo) rest/\0<c x:=by
 have h0:c x=cntA A rem x+(rest.count (x:Int)+1):=by
  have:=h.cn x;rw[List.count_cons_self]at this;exact this
 have hne:∀ {v:Nat},v≠x->((x:Int)::rest).count (v:Int)=rest.count (v:Int):=fun {v} hv=>by rw[List.count_cons_of_ne (by omega)]
 have hd:∀ {v:Nat},v≠x->decN c x v=c v:=fun {v} hv=>by simp[decN,hv]
 have hs:decN c x x=c x-1:=by simp[decN]
 refine⟨⟨fun v=>?_,fun y hy=>?_,?_,fun v hv=>?_,fun v h4 h5 h6=>?_⟩,oz⟩
 ·by_cases e:v=x
  ·subst e;rw[hs];omega
  ·rw[hd e,h.cn v,hne e]
 ·have hold:∀ y∈todo,∃ v:Nat,y=v/\v<n/\Rp v=true/\rem v=false/\decN c x v=0:=fun y hy=>by
   obtain⟨v,e,h4,h5,h6,h7⟩:=h.t y hy;refine⟨v,e,h4,h5,h6,?_⟩;by_cases e2:v=x
   ·subst e2;omega
   ·rw[hd e2];exact h7
  unfold putT at hy;split at hy
  ·rename_i hc;rcases List.mem_append.1 hy with hy|hy
   ·exact hold y hy
   ·have:y=(x:Int):=by simpa using hy
    subst this;refine⟨x,rfl,hx,hr,?_,by rw[hs];exact hc⟩;cases e:rem x with
    | false=>rfl
    | true=>have:=(h.r x e).2.2;omega
  ·exact hold y hy
 ·unfold putT;split
  ·rw[List.nodup_append];refine⟨h.nd,si,fun a ha b hb e=>?_⟩;have hb':b=(x:Int):=by simpa using hb
   subst e;rw[hb']at ha;obtain⟨v,e,_,_,_,h7⟩:=h.t _ ha;have:x=v:=oz
   subst this;omega
  ·exact h.nd
 ·have:=h.r v hv;have e:v≠x:=fun e=>by subst e;omega
  rw[hd e];exact this
 ·by_cases e:v=x
  ·subst e;rw[hs]at h6;left;unfold putT;rw[if_pos h6];simp
  ·rw[hd e]at h6;rcases h.k v h4 h5 h6 with h7|h7
   ·left;unfold putT;split
    ·simp[h7]
    ·exact h7
   ·exact .inr h7
end
theorem Cl.front {nx:Int->List Int}{b0:Int->Bool}{t0 t1:List Int}{y z:Int}(h1:y∈t1) (hy:b0 y=false) (h:Cl nx b0 (nx y) z) (h0:t0=nx y):Cl nx b0 t1 z:=by
 induction h with
 | start x hx=>exact .step y x (.start y h1) hy hx
 | step x w _ hb hw ih=>exact .step x w ih hb hw
/-- one behind which there is no endless way back does not come round -/
theorem acc_comes {A:Nat->List Int}(hA:∀ u x,x∈A u->u<1024/\∃ k:Nat,x=k/\k<1024) {v:Nat}(h:Acc (fun u x:Nat=>(x:Int)∈A u/\u<1024) v):¬Cl (fun i=>A i.toNat) (fun _=>false) (A v) v:=by
 induction h with
 | intro v _ ih =>
  intro hc;have hnat:∀ {x:Int},Cl (fun i=>A i.toNat) (fun _=>false) (A v) x->∃ k:Nat,x=k:=fun {x} hx=>by
   cases hx with
   | start _ hx=>obtain⟨_,k,e,_⟩:=hA _ _ hx;exact⟨k,e⟩
   | step y _ h1 h2 h3=>obtain⟨_,k,e,_⟩:=hA _ _ h3;exact⟨k,e⟩
  cases hc with
  | start _ hx=>exact ih v ⟨hx,(hA _ _ hx).1⟩ (.start _ hx)
  | step x _ h1 h2 h3 =>
   obtain⟨u,rfl⟩:=hnat h1;rw[Int.toNat_natCast]at h3;refine ih u ⟨h3,(hA _ _ h3).1⟩ ?_;refine Cl.front (t0:=A v) h3 rfl ?_ ?_
   ·rw[Int.toNat_natCast];exact h1
   ·rw[Int.toNat_natCast]
end
section
def noDefer (ops:Array Oper):Bool:=ops.toList.all fun o=>match o.op with|.defer _=>false|_=>true
theorem noDefer_spec {ops:Array Oper}(h:noDefer ops=true) (i:Nat) (o:Oper) (hi:ops[i]? = some o) (c:Call):o.op≠.defer c:=by
 intro e;unfold noDefer at h;rw[List.all_eq_true]at h;have:=h o (List.mem_of_getElem? (i:=i) (by rw[Array.getElem?_toList];exact hi));rw[e]at this;cases this
section
variable {P : Program} {ops : Array Oper} {Q : Exit -> Act -> World -> Prop} {l n : Nat} {md : Region.Mode}
theorem rowsIn_of {row:String}{args:Array Value}{w:World}{R:Value->World->Prop}(h:Rows P row args w R):RowsIn (Fence.wide.inRound l) n P row args w R :=
 fun c cs _=>let ⟨v,w',r,s⟩:=h c cs;⟨v,w',r,stepsIn_wide.2 s⟩
theorem operIn_of {o:Oper}{a:Act}{w:World}{K:Act->World->Prop}(ho:∀ c,o.op≠.defer c) (h:o.wp P a w K Q):o.wpIn (Fence.wide.inRound l) n P a w K Q:=by
 refine⟨fun f _=>trivial,?_⟩;rw[Oper.semAt_eq _ _ _ ho];unfold Oper.wp at h;generalize (execOp a.eval o).run P w=r at *;cases r with
 | ok x w' =>
  cases x<;>simp only[Oper.upon,Oper.uponIn]at h ⊢
  case value v=>exact h
  case skip=>exact h
  case defer d=>exact h
  case enter f args=>exact⟨fun e=>(by have e':(none:Option Nat).isSome=true:=e;cases e'),(callsIn_wide.2 h:CallsIn Fence.wide _ P f args w' _)⟩
  case row row args=>exact⟨fun e=>(by have e':(none:Option Nat).isSome=true:=e;cases e'),rowsIn_of h⟩
 | halt x w'=>cases x<;>simp only[Oper.upon,Oper.uponIn]at h ⊢ <;> exact h
theorem opIn_of {i:Nat}{K:Act->World->Prop}{a:Act}{w:World}(ho:∀ o,ops[i]? = some o->∀ c,o.op≠.defer c) (hQ:¬LetsOut Q) (h:wpOp P ops Q i K a w):wpOpIn (Fence.wide.inRound l) n P ops Q i K a w:=by
 unfold wpOp at h;unfold wpOpIn;cases hi:ops[i]? with
 | none=>simp only[hi]at h ⊢;exact h
 | some o =>
  simp only[hi]at h ⊢;split
  ·next hw =>
   rw[if_pos hw]at h;rcases h with h|h
   ·exact operIn_of (ho o hi) h
   ·exact absurd h.2 hQ
  ·next hw =>
   rw[if_neg hw]at h;exact⟨fun f _=>trivial,h⟩
theorem anyIn_of (ho:∀ (i:Nat) (o:Oper),ops[i]? = some o->∀ c,o.op≠.defer c) (hQ:¬LetsOut Q):∀ (fuel:Nat) (listed:Array Bool) (a:Act) (w:World),wpAny P md ops Q fuel listed a w->wpAnyIn (Fence.wide.inRound l) n P md ops Q fuel listed a w
 | 0,_,_,_,h=>h
 | fuel+1,_,_,_,h=>⟨h.1,fun i hi=>wpOpIn_mono (fun a' w' h'=>anyIn_of ho hQ fuel _ a' w' h') (opIn_of (ho i) hQ (h.2 i hi))⟩
/-- a region that draws, in a round -/
def onlyN (K:Act->World->Prop):Exit->Act->World->Prop
 | .normal,a,w=>K a w
 | _,_,_=>False
theorem wtb {P : Program} {md : Region.Mode} {ops : Array Oper} {K : Act -> World -> Prop} {S : World -> Prop} (i : Nat) {oi : Oper} {v : Value} {fuel : Nat} {listed : Array Bool} {a : Act} {w : World} (hi : ops[i]? = some oi) (h : wpAnyH P md ops (onlyN K) S fuel (listed.setIfInBounds i true) (a.put oi.dst v) w)
    (hx:∀ w',S w'->(execOp a.eval oi).run P w'=.ok (.value v) w') (hg:Region.wanted oi (yielded ops a.tmps)=true:=by rfl) (hs:Region.noSelect ops=true:=by kernel_rfl) (hf:Region.free md ops listed i=true:=by kernel_rfl) (hr:(Region.ready md ops listed).contains i=true:=by kernel_rfl) (hS:S w:=by assumption):wpAnyH P md ops (onlyN K) S (fuel+1) listed a w :=
  wpAnyH_take hi hs hf hr (fun _ _ _ h=>h) (.inl ⟨hg,hx⟩) hS h
theorem region_held_round (S:World->Prop) {id:Nat}{a:Act}{w:World}(hm:P.follows .mixedOrders=true) (ho:noDefer ops=true) (hS:S w.drew)
 (h:∀ K:Act->World->Prop,Hid (∀ a w,Q .normal a w->K a w)->S w.drew->wpAnyH P .any ops (onlyN K) S ops.size (Array.replicate ops.size false) a w.drew):(Code.region id ops true).wpIn (Fence.wide.inRound l) n P Q a w:=by
 have h1:=h (fun a w=>Q .normal a w) (qd fun _ _ h=>h) hS;refine wpIn_mono (wpIn_region_any hm (anyIn_of (Q:=onlyN fun a w=>Q .normal a w) (noDefer_spec ho) (fun⟨_,_,h⟩=>h) _ _ _ _ (wpAny_of_held _ _ _ _ h1))) ?_;intro e a w he;cases e with
 | normal=>exact he
 | ret=>exact he.elim
 | exit id=>exact he.elim
 | goto t=>exact he.elim
 | panic ch=>exact he.elim
 | outgrown=>exact he.elim
theorem anyH_done {ops:Array Oper}{K:Act->World->Prop}{S:World->Prop}{listed:Array Bool}{a:Act}{w:World}{fuel:Nat}(hr:Region.ready md ops listed=[]) (h:K a w):wpAnyH P md ops (onlyN K) S fuel listed a w:=wpAnyH_done hr h fuel
end
/-- the ways through a piece of code meet again -/
theorem wpIn_cut {F:Fence}{n:Nat}{P:Program}{c:Code}{Q:Exit->Act->World->Prop}{a:Act}{w:World}(Pf:Nat->Nat->World->Prop)
 (h:∃ A:Nat->Nat->Act,c.wpIn F n P (fun e a' w'=>e=.normal/\∃ x y,a'=A x y/\Pf x y w') a w/\∀ x y w',Pf x y w'->Q .normal (A x y) w'):c.wpIn F n P Q a w:=by
 obtain⟨A,h1,h2⟩:=h;refine wpIn_mono h1 ?_;rintro e a' w' ⟨rfl,x,y,rfl,hp⟩;exact h2 x y w' hp
end
section
attribute [local go_sem] Oper.semAt_some
theorem order_len {f:PFunc}{l:List Nat}(h:OrderOk f l) (h0:0<f.code.length):l.length<=f.code.length :=
 len_below _ _ h.nodup (fun v hv=>Rch.lt h0 ((h.mem v).1 hv))
theorem fill_get (n k:Nat) (hk:k<n):(List.replicate k (-1:Int)++List.replicate (n-k) 0)[k]? = some 0:=by
 rw[List.getElem?_append_right (by simp),List.length_replicate,Nat.sub_self,List.getElem?_replicate,if_pos (by omega)]
theorem fill_set (n k:Nat) (hk:k<n):(List.replicate k (-1:Int)++List.replicate (n-k) 0).set k (-1)=List.replicate (k+1) (-1)++List.replicate (n-(k+1)) 0:=by
 rw[List.set_append_right _ _ (by simp)];obtain⟨m,hm⟩:∃ m,n-k=m+1:=⟨n-k-1,oz⟩
 rw[hm,show n-(k+1)=m by omega,List.length_replicate,Nat.sub_self,List.replicate_succ,List.set_cons_zero,List.replicate_succ' (n:=k),List.append_assoc];rfl
theorem tree_any (B:Nat) (hh:HF) (f:PFunc) (w:World) (hB:B<=w.heap.size) (hf:FuncOk B w hh f) (hn0:0<f.code.length) (hn:f.code.length<=1024):Calls Tryz.prog 91 #[FuncVal hh f] w fun e w'=>∃ near nr rk,TreeOk f near nr rk/\FreshI w near e w':=by
 have hm1:=run_make_row' (P:=Tryz.prog) 50 3 (.int .i64 0) 8 Tryz.underlying50 Tryz.infoI rfl .i64 .i64 f.code.length oz oz;have hm2:=run_make_row' (P:=Tryz.prog) 59 50 (.slice none 0 0) 24 Tryz.underlying59 Tryz.infoS rfl .i64 .i64 f.code.length oz oz;rw[madeNums]at hm1;rw[madeNils]at hm2;have HF:=qd hf;have HOrd:=qd (fun w hB hf=>order_any B hh f w hB hf hn0 hn);have HEd:=qd (fun w=>edges_any hh f w);have HG:=qd (fun l hl=>grf_of (f:=f) (l:=l) hl hn0);obtain⟨pa,pl,pc,ca,cl,cc⟩:=hh;obtain⟨h1,h2,⟨hcl,hcm,hcx⟩,h4,h5⟩:=hf;dsimp only at *;subst hcl;clear h2 hcm hcx h1 h4 h5;have i1:¬(f.code.length:Int)=0:=oz
 have i2:¬(1024:Int)<(f.code.length:Int):=oz
 have i3:((f.code.length:Int)==0)=false:=by rw[beq_eq_false_iff_ne];omega
 have i4:decide ((1024:Int)<(f.code.length:Int))=false:=by rw[decide_eq_false_iff_not];omega
 unfold FuncVal at *;dsimp only at *;have hln:f.code.length<=9223372036854775807:=oz
 have OC0:∀ W:World,(W.alloc (.cells (Nums (List.replicate f.code.length 0)).toArray 3)).ownsRow 0 3 1 (.slice (some ⟨W.heap.size,0,none⟩) f.code.length f.code.length) f.code.length (Nums (List.replicate f.code.length 0)):=fun W=>by
  have:=World.ownsRow_lit W (base:=0) (e:=3) (size:=1) (Nums (List.replicate f.code.length 0)).toArray f.code.length (Nat.zero_le _) (by unfold maxLen;omega) (by simp[Nums]);simpa using this
 have OS0:∀ W:World,(W.alloc (.cells (List.replicate f.code.length (Value.slice none 0 0)).toArray 50)).ownsRow 0 50 1 (.slice (some ⟨W.heap.size,0,none⟩) f.code.length f.code.length) f.code.length (List.replicate f.code.length (Value.slice none 0 0)):=fun W=>by
  have:=World.ownsRow_lit W (base:=0) (e:=50) (size:=1) (List.replicate f.code.length (Value.slice none 0 0)).toArray f.code.length (Nat.zero_le _) (by unfold maxLen;omega) si;simpa using this
 refine(callsIn_wide (n:=3)).1 ?_;refine callsIn_of_wp_marks Tryz.func91 rfl trivial ?_ rfl;refine wpIn_wide.2 ?_;simp only[Tryz.ntmps91,List.size_toArray,List.length_cons,List.length_nil,Nat.reduceAdd,Nat.reduceSub,Array.replicate_succ,Array.replicate_zero,List.push_toArray,List.append_toArray,List.nil_append,List.cons_append];go_wp2;go_step3;go_wp2;generalize hW0:World.alloc _ _=W0;have hb0:Below w.heap.size w W0:=by rw[<-hW0];exact bel
 have OB:Own W0 w.heap.size [.string f.name,.slice pa pl pc,.int .i64 f.regs,.int .i64 f.words,.slice ca f.code.length cc]:=by rw[<-hW0];exact((Own.new _ _ _).alloc _).alloc _
 have OR:W0.ownsRow 0 3 1 (.slice (some ⟨w.heap.size+1,0,none⟩) f.code.length f.code.length) f.code.length (Nums (List.replicate f.code.length 0)):=by
  rw[<-hW0];have:=(OC0 (w.alloc (.cells #[.string f.name,.slice pa pl pc,.int .i64 f.regs,.int .i64 f.words,.slice ca f.code.length cc] 42))).alloc (.cells (Nums (List.replicate f.code.length 0)).toArray 3);simpa using this
 have ON:W0.ownsRow 0 3 1 (.slice (some ⟨w.heap.size+1+1,0,none⟩) f.code.length f.code.length) f.code.length (Nums (List.replicate f.code.length 0)):=by
  rw[<-hW0];have:=OC0 ((w.alloc (.cells #[.string f.name,.slice pa pl pc,.int .i64 f.regs,.int .i64 f.words,.slice ca f.code.length cc] 42)).alloc (.cells (Nums (List.replicate f.code.length 0)).toArray 3));simpa using this
 have hz0:W0.heap.size=w.heap.size+3:=by rw[<-hW0];simp
 clear hW0 hm1 OC0;have HB:=qd OB;have HR:=qd OR;have hb0':=qd hb0;have hz0':=qd hz0;clear OB OR;go_loopw [38] (fun i wr=>∃ k:Nat,k<=f.code.length/\i=.int .i64 k/\wr.heap.size=w.heap.size+3/\Hid (Chg (· = w.heap.size+1+1) W0 wr)/\Hid (wr.ownsRow 0 3 1 (.slice (some ⟨w.heap.size+1+1,0,none⟩) f.code.length f.code.length) f.code.length (Nums (List.replicate k (-1)++List.replicate (f.code.length-k) 0)))) (fun i _=>f.code.length-(intOf i).toNat)
 case atStart=>exact⟨0,Nat.zero_le _,rfl,hz0,qd (Chg.refl _ _),qd (by simpa using ON)⟩
 case round =>
  clear hb0 ON hz0;obtain⟨k,hk,rfl,hz,hC,hN⟩:=hrel;by_cases hlt:k<f.code.length
  ·have d2:(k:Int)<(f.code.length:Int):=oz
   have hwk:IntKind.i64.wrap ((k:Int)+1)=(k:Int)+1:=IntWalk.i64_in _ oz;have f0:=hN.out.frozenAt k;have c0:=row_cell hN.out (Nums_some (fill_get _ _ hlt));have hst:Chg (· = w.heap.size+1+1) wr (wr.setCell ⟨w.heap.size+1+1,k,none⟩ (.int .i64 (-1))):=Chg.setCell (S:=(· = w.heap.size+1+1)) (Chg.refl _ _) (p:=⟨w.heap.size+1+1,k,none⟩) (Or.inl rfl) _;have R2:=row_set hN.out k (.int .i64 (-1));rw[Nums_set,fill_set _ _ hlt]at R2;have HC2:=qd (hC.out.trans hst);have HR2:=qd R2;clear R2 hst;go_wp2
   go_roundw
   case rel=>exact⟨k+1,oz,si,by simpa using hz,HC2,HR2⟩
   case measure=>go_light;exact ml
  ·have hkk:k=f.code.length:=oz
   subst hkk;have d2:¬(f.code.length:Int)<(f.code.length:Int):=oz
   have N1:=hN.out;rw[Nat.sub_self,List.replicate_zero,List.append_nil]at N1;have B1:=hC.out.own HB.out oz;have R1:=row_chg hC.out HR.out (fun q hq h=>by have:w.heap.size+1=q:=ob1 hq;omega);have hb1:Below w.heap.size w wr:=hb0'.out.trans (hC.out.below _ (by rw[hz0'.out];omega) (fun k hk e=>by omega));have HF1:=qd (HF.out.same (Same.of hb1 hB));have HN1:=qd N1;have HB1:=qd B1;have HR1:=qd R1;clear N1 B1 R1 hN hC HB HR hb0' hz0' HF;have b5:=own5 HB1.out;go_wp2_with (first|(go_at_call 115;refine(HOrd.out _ oz HF1.out).mono ?_;rintro e w2 ⟨l,hl,ov,rfl,hb2,hr2,hf2,hn2⟩;obtain⟨lb,lc,rfl,hlc1,hlc2,hlb⟩:=row_pos hr2 (by have:=hl.head;cases l with|nil=>simp at this|cons a t=>simp[toI]))|fail)
   have hz2:=hb2.size;have hlb2:=hf2 lb rfl;have hlt2:(toI l).length=l.length:=by simp[toI]
   have hln2:l.length<=f.code.length:=order_len hl hn0;rw[hlt2]at hr2 ⊢;have HF2:=qd (HF1.out.same (Same.of hb2 oz));have HB2:=qd (HB1.out.below hb2);have HR2:=qd (row_below hb2 HR1.out);have HN2:=qd (row_below hb2 HN1.out);have HL2:=qd hr2;have HO:=qd hl;have hb2':Below w.heap.size w w2:=bel;clear HF1 HB1 HR1 HN1 hr2 hl hn2 hf2 b5 HOrd hlt2;go_wp2;go_loopw [49] (fun i wx=>∃ k:Nat,k<=l.length/\i=.int .i64 k/\wx.heap.size=w2.heap.size/\Hid (Chg (· = w.heap.size+1) w2 wx)/\Hid (wx.ownsRow 0 3 1 (.slice (some ⟨w.heap.size+1,0,none⟩) f.code.length f.code.length) f.code.length (Nums (rankTo f.code.length l k)))) (fun i _=>l.length-(intOf i).toNat)
   case atStart=>exact⟨0,Nat.zero_le _,rfl,rfl,qd (Chg.refl _ _),qd (by rw[rankTo_zero];exact HR2.out)⟩
   case round =>
    obtain⟨k,hk,rfl,hzx,hC,hR⟩:=hrel;by_cases hlt:k<l.length
    ·have d2:(k:Int)<(l.length:Int):=oz
     have hwk:IntKind.i64.wrap ((k:Int)+1)=(k:Int)+1:=IntWalk.i64_in _ oz;have L1:=row_chg hC.out HL2.out (fun q hq h=>by have:lb=q:=ob1 hq;omega);have hge:(toI l)[k]? = some (l[k]'hlt:Int):=by simp[toI,hlt]
     have c0:=row_cell L1 (Nums_some hge);have hv:l[k]'hlt<f.code.length:=Rch.lt hn0 ((HO.out.mem _).1 (List.getElem_mem hlt));have f0:=hR.out.frozenAt (l[k]'hlt);obtain⟨x0,hx0⟩:∃ x0,(rankTo f.code.length l k)[l[k]'hlt]? = some x0:=⟨_,List.getElem?_eq_getElem (by rw[rankTo_len];exact hv)⟩
     have c1:=row_cell hR.out (Nums_some hx0);have R2:=row_set hR.out (l[k]'hlt) (.int .i64 (k:Int));rw[Nums_set,rankTo_succ _ _ HO.out.nodup k hlt hv]at R2;have hst:Chg (· = w.heap.size+1) wr (wr.setCell ⟨w.heap.size+1,l[k]'hlt,none⟩ (.int .i64 (k:Int))):=Chg.setCell (S:=(· = w.heap.size+1)) (Chg.refl _ _) (p:=⟨w.heap.size+1,l[k]'hlt,none⟩) (Or.inl rfl) _;have HC2:=qd (hC.out.trans hst);have HR3:=qd R2;clear R2 hst hge hx0 L1;generalize l[k]'hlt=v at *;go_wp2
     go_roundw
     case rel=>exact⟨k+1,oz,si,by simpa using hzx,HC2,HR3⟩
     case measure=>go_light;exact ml
    ·have hkk:k=l.length:=oz
     subst hkk;have d2:¬(l.length:Int)<(l.length:Int):=oz
     have hb3:Below w.heap.size w wr:=hb2'.trans (hC.out.below _ oz (fun k hk e=>by omega));have HF3:=qd (HF2.out.same (hC.out.same oz (fun k hk e=>by omega)));have HB3:=qd (hC.out.own HB2.out oz);have HN3:=qd (row_chg hC.out HN2.out (fun q hq h=>by have:w.heap.size+1+1=q:=ob1 hq;omega));have HL3:=qd (row_chg hC.out HL2.out (fun q hq h=>by have:lb=q:=ob1 hq;omega));have HR3:=hR;clear HF2 HB2 HR2 HN2 HL2 hR hC;have b5:=own5 HB3.out;go_upto_region 17 with(fail)
     have OSS:=OS0 wr;simp only[List.toArray_replicate]at OSS;generalize hfb:wr.heap.size=fb at *;subst hzx;generalize w2.heap.size=fb at *;generalize hW5:World.alloc (World.alloc _ _) _=W5;have hz5:W5.heap.size=fb+2:=by rw[<-hW5];simp[hfb]
     have hb5:Below fb wr W5:=by rw[<-hW5];exact((Below.refl _ wr).alloc oz _).alloc (by simp;omega) _
     have hb5w:Below w.heap.size w W5:=hb3.trans (hb5.mono oz);have hb5':Below wr.heap.size wr W5:=by rw[hfb];exact hb5
     have HF5:=qd (HF3.out.same (Same.of hb5' oz));have HB5:=qd (HB3.out.below hb5');have HN5:=qd (row_below hb5' HN3.out);have HL5:=qd (row_below hb5' HL3.out);have HR5:=qd (row_below hb5' HR3.out);have HX5:Hid (Own W5 (fb+1) [.slice (some ⟨fb,0,none⟩) f.code.length f.code.length]):=qd (by rw[<-hW5];exact Own.new' _ _ _ _ (by simp[hfb]));have HG5:Hid (FromAt W5 (fb+5) fb f.code.length (fromL []) (List.replicate f.code.length (.slice none 0 0))):=qd (by
      refine⟨by rw[<-hW5];exact OSS.alloc _,si,fun v s hs=>?_,fun v s k hs hk=>?_,oz,fun u v s t k hs ht hk _=>?_⟩
      ·rw[List.getElem?_replicate]at hs;split at hs
       ·cases hs;exact World.ownsRow_nil _ _ _ _
       ·cases hs
      ·rw[List.getElem?_replicate]at hs;split at hs
       ·cases hs;cases hk
       ·cases hs
      ·rw[List.getElem?_replicate]at hs;split at hs
       ·cases hs;cases hk
       ·cases hs)
     clear HF3 HB3 HN3 HL3 HR3 OSS OS0 hm2 b5 hW5 hb5 hb5' hb3 hfb;have b5:=own5 HB5.out;unfold boxOf at HEd;go_wp2_with (first|(go_at_call 22;refine(HEd.out _).mono ?_;rintro e w4 ⟨rfl,hw4⟩)|fail)
     rw[<-hw4];have hz4:w4.heap.size=fb+3:=by rw[hw4];simp[hz5]
     have hb4:Below W5.heap.size W5 w4:=by rw[hw4];exact(Below.refl _ W5).alloc oz _
     have X4:Own w4 (fb+2) [.string f.name,.slice pa pl pc,.int .i64 f.regs,.int .i64 f.words,.slice ca f.code.length cc]:=by rw[hw4];exact Own.new' _ _ _ _ oz
     have HM4:Hid (TMem f.code.length w w4 fb lb lc (rankTo f.code.length l l.length) (List.replicate f.code.length (-1)) (toI l) (fromL []) (List.replicate f.code.length (.slice none 0 0))):=qd
      ⟨hb5w.trans (hb4.mono oz),oz,HG5.out.below hb4,row_below hb4 HR5.out,row_below hb4 HN5.out,by have e:(toI l).length=l.length:=(by simp[toI]);rw[e];exact row_below hb4 HL5.out,HX5.out.below hb4,oz,oz⟩
     have HF4:=qd (HF5.out.same (Same.of hb4 oz));have hl1:w.heap.size+3<=lb:=oz
     have hl2:lb<fb:=oz
     clear HF5 HB5 HN5 HL5 HR5 HX5 HG5 b5 hw4 hb4 hb5w hz5 HEd hb2' hb2 hz2 hlb hlb2;refine range_edges (OwnF fb f.code.length) (fun pre W=>∃ S,TMem f.code.length w W fb lb lc (rankTo f.code.length l l.length) (List.replicate f.code.length (-1)) (toI l) (fromL pre) S)
      B (w.heap.size+3) (fb+2) ⟨pa,pl,pc,ca,f.code.length,cc⟩ f rfl rfl hn0 hn oz oz HF4.out X4 ⟨?_,?_,?_⟩ ?_ ?_ ?_ ?_ ⟨_,HM4.out⟩ ?_ ?_
     ·rintro pre W k ⟨S,h⟩ hk;exact h.fr.ownLt hk
     ·rintro pre W W' k ⟨S,h⟩ hb hk;exact(OwnF.iff (hb.block fb (by have:=h.sz;omega))).1 hk
     ·rintro pre W k ⟨S,h⟩ hk;rcases h.fr.ownGe hk with e|e<;>omega
     ·rintro pre W ⟨S,h⟩ hk;rcases h.fr.ownGe hk with e|e<;>omega
     ·rintro pre W W' ⟨S,h⟩ hb;exact⟨S,h.below hb⟩
     ·rintro pre W W' ⟨S,h⟩ hc;rw[hz4]at hc;exact⟨S,h.turn hc⟩
     ·rintro pre W W' k ⟨S,h⟩ hc;exact OwnF.iff (hc.block fb (.inl oz))
     ·apply Exists.intro;constructor
      ·intro l' x W K hK;have HK:=qd hK;clear hK;unfold encE;gi_wp2;exact HK.out
      ·rintro l' pre x W ⟨S,hT⟩ hok hsz;obtain⟨v,hxv,hvn,hun⟩:=edges_nat f x (hok.subset si);obtain⟨u,y⟩:=x;dsimp only at hxv hun ⊢;subst hxv;obtain⟨s,hs⟩:=hT.fr.at hvn;obtain⟨sa,sc,rfl⟩:=hT.fr.form hs;have hlen:(fromL pre v).length<=4096:=by
        have h1:=fromL_len pre v;have h2:=hok.length_le;have h3:=edges_len f;rw[List.length_append]at h2;omega
       gi_wp2;have hbx:=own1 hT.box;have hc5:=hT.fr.cell hs;have hfl:=row_ltB hT.fr.row;have hc6:(W.alloc (.cells #[.int .i64 (u:Int)] 3)).cell? ⟨fb,v,none⟩=some (.slice sa (fromL pre v).length sc):=(World.cell?_of_block (Below.heap_alloc _ _ _ hfl)).trans hc5;have d0:(0:Int)<=(v:Int):=oz
       have d1:(v:Int)<(f.code.length:Int):=oz
       refine region_held_round (fun w'=>w'.cell? ⟨fb+1,0,none⟩=some (.slice (some ⟨fb,0,none⟩) f.code.length f.code.length)) kr kr hbx.2.1 ?_;intro K0 hK0 hHeld
       (refine wtb 0 rfl ?_ (by intro w' hSw;(try dsimp only at hSw);go_simp;(try with_reducible rfl));try simp only[Act.put,SU])
       (refine wtb 1 rfl ?_ (by intro w' hSw;(try dsimp only at hSw);go_simp;(try with_reducible rfl));try simp only[Act.put,SU])
       (refine wtb 2 rfl ?_ (by intro w' hSw;(try dsimp only at hSw);go_simp;(try with_reducible rfl));try simp only[Act.put,SU])
       (refine wtb 3 rfl ?_ (by intro w' hSw;(try dsimp only at hSw);go_simp;(try with_reducible rfl));try simp only[Act.put,SU])
       (refine wtb 4 rfl ?_ (by intro w' hSw;(try dsimp only at hSw);go_simp;(try with_reducible rfl));try simp only[Act.put,SU])
       (refine wtb 6 rfl ?_ (by intro w' hSw;(try dsimp only at hSw);go_simp;(try with_reducible rfl));try simp only[Act.put,SU])
       refine wpAnyH_ready (rs:=[5,7]) kr si ?_;refine AllReadyH.cons rfl (fun K hK=>?_) (AllReadyH.cons rfl (fun K hK=>?_) AllReadyH.nil)
       all_goals go_simp
       refine hK.out _ _ ?_ (fun hHeld=>?_);(focus((try dsimp only);any_goals (assumption)));clear hK K;try simp only[Act.put,SU]
       (refine wpAnyH_ready (rs:=[7]) kr si ?_;refine AllReadyH.cons rfl (fun K hK=>?_) AllReadyH.nil)
       go_simp
       refine hK.out _ _ ?_ (fun hHeld=>?_);(focus((try dsimp only);any_goals (first|assumption|go_keep)));clear hK K;try simp only[Act.put,SU]
       rotate_left;refine hK.out _ _ ?_ (fun hHeld=>?_);(focus((try dsimp only);any_goals (first|assumption|go_keep)));clear hK K;try simp only[Act.put,SU]
       (refine wpAnyH_ready (rs:=[5]) kr si ?_;refine AllReadyH.cons rfl (fun K hK=>?_) AllReadyH.nil)
       go_simp
       refine hK.out _ _ ?_ (fun hHeld=>?_);(focus((try dsimp only);any_goals (assumption)));clear hK K;try simp only[Act.put,SU]
       all_goals
        (refine wpAnyH_ready (rs:=[8]) kr si ?_;refine AllReadyH.cons rfl (fun K hK=>?_) AllReadyH.nil)
        refine step_app rfl (.tmp 72) (.tmp 74) 50 3 1 8 (.int .i64 0) rfl Tryz.underlying50 Tryz.infoI rfl dc (.slice sa (fromL pre v).length sc) _ _ rfl (row_below (show Below W.heap.size W (W.alloc (.cells #[.int .i64 (u:Int)] 3)).drew from bal.drew) (hT.fr.each v _ hs)) ⟨W.heap.size,0,none⟩ 1 1 (Nums [(u:Int)]) rfl rfl (src_own (show Own (W.alloc (.cells #[.int .i64 (u:Int)] 3)).drew W.heap.size _ from(Own.new W [.int .i64 (u:Int)] 3).drew)) (Nums_one _) (by unfold maxLen;omega) oz dc ?_;intro g6 c6 w6 hr6 hc6 hg6;have hc7:Chg (fun k=>(Value.slice sa (fromL pre v).length sc).ownBlock=some k) W w6:=(Chg.of (show Below W.heap.size W (W.alloc (.cells #[.int .i64 (u:Int)] 3)).drew from bal.drew)).trans hc6;have hg7:∀ k,(Value.slice (some ⟨g6,0,none⟩) ((fromL pre v).length+1) c6).ownBlock=some k->(Value.slice sa (fromL pre v).length sc).ownBlock=some k\/W.heap.size<=k:=fun k hk=>by
         have e:g6=k:=ob1 hk
         subst e;rcases hg6 with h|h
         ·exact .inl h
         ·simp at h;exact .inr oz
        obtain⟨hT2,hK2⟩:=hT.push oz hs hc7 hr6 hg7;have hnb:∀ k,k<fb+5->¬(Value.slice sa (fromL pre v).length sc).ownBlock=some k:=fun k hk e=>by have:=hT.fr.low v _ k hs e;omega
        have hB6:w6.cell? ⟨fb+1,0,none⟩=some (.slice (some ⟨fb,0,none⟩) f.code.length f.code.length):=(hc7.cellAt 0 hbx.1 (hnb _ oz)).trans hbx.2.1;have hR6:=row_chg hc7 hT.fr.row (fun k hk=>hnb k (by have e:fb=k:=ob1 hk;omega));have hF6:=hR6.frozenAt v;have hE6:=row_cell hR6 hs;have hB7:(w6.setCell ⟨fb,v,none⟩ (.slice (some ⟨g6,0,none⟩) ((fromL pre v).length+1) c6)).cell? ⟨fb+1,0,none⟩=some (.slice (some ⟨fb,0,none⟩) f.code.length f.code.length):=by
         rw[World.cell?_setCell_far _ _ _ _ (by simp)];exact hB6
        have HT2:=qd hT2;have HK2:=qd hK2;clear hT2 hK2 hR6 hg7 hnb hc7 hr6 hc6;refine hK.out _ _ ?_ (fun hHeld=>?_);(focus((try dsimp only);any_goals (assumption)));clear hK K;try simp only[Act.put,SU]
        (refine wpAnyH_ready (rs:=[9]) kr si ?_;refine AllReadyH.cons rfl (fun K hK=>?_) AllReadyH.nil)
        go_simp
        refine hK.out _ _ ?_ (fun hHeld=>?_);(focus((try dsimp only);any_goals (assumption)));clear hK K;try simp only[Act.put,SU]
        (refine wpAnyH_ready (rs:=[10]) kr si ?_;refine AllReadyH.cons rfl (fun K hK=>?_) AllReadyH.nil)
        go_simp
        refine hK.out _ _ ?_ (fun hHeld=>?_);(focus((try dsimp only);any_goals (assumption)));clear hK K;try simp only[Act.put,SU]
        refine anyH_done kr ?_;refine hK0.out _ _ ?_;gi_wp2;refine⟨fun k h1 h2=>HK2.out.1.block k oz (fun ho=>by rcases hT.fr.ownGe ho with e|e<;>omega),HK2.out,S.set v (.slice (some ⟨g6,0,none⟩) ((fromL pre v).length+1) c6),?_⟩;have hfl2:fromL (pre++[(u,(v:Int))])=(fun k=>if k=v then fromL pre v++[(u:Int)]else fromL pre k):=by
         funext k;rw[fromL_snoc];by_cases e:k=v
         ·rw[if_pos e,if_pos e,e]
         ·rw[if_neg e,if_neg e]
        rw[hfl2];exact HT2.out
     ·rintro W7 ⟨S,hT⟩ hD;rw[hz4]at hD ⊢;have f0:=hT.near.frozenAt 0;have c0:=row_cell hT.near (j:=0) (Nums_some (show(List.replicate f.code.length (-1:Int))[0]? = some (-1) by rw[List.getElem?_replicate,if_pos hn0]));have d0:(0:Int)<(f.code.length:Int):=oz
      have hlp:0<l.length:=by have:=HO.out.head;cases l with|nil=>simp at this|cons a t=>simp
      have hlI:(toI l).length=l.length:=by simp[toI]
      have HT:=qd (hT.setNear 0 0);have HN:=qd (nrOf_first f.code.length hn0▸NInv.start (HG.out l HO.out));have hD2:(W7.setCell ⟨w.heap.size+1+1,0,none⟩ (.int .i64 0)).heap[fb+3]? = some (.deferred (some [])):=by
       rw[<-hD];exact(Chg.setCell (S:=(· = w.heap.size+1+1)) (Chg.refl _ _) (p:=⟨w.heap.size+1+1,0,none⟩) (Or.inl rfl) _).block _ (by have:=(Array.getElem?_eq_some_iff.1 hD).1;exact this) oz
      have HD:=qd hD2;clear hD hD2 HM4 HF4 X4 hT;go_wp2;go_step3;go_wp2;generalize W7.setCell ⟨w.heap.size+1+1,0,none⟩ (.int .i64 0)=W8 at *
      go_loopg [] (msr f.code.length l.idxOf ((List.replicate f.code.length (-1)).set 0 0)) (fun k wr=>∃ L:List Int,k=msr f.code.length l.idxOf L/\L.length=f.code.length/\Hid (NInv (EdgeP f) (Rch f) l.idxOf (nrOf L) 1)/\Hid (TMem f.code.length w wr fb lb lc (rankTo f.code.length l l.length) L (toI l) (fromL (edgesL f)) S)/\Hid (wr.heap[fb+3]? = some (.deferred (some []))))
      case atStart=>exact⟨_,rfl,si,HN,HT,HD⟩
      case round =>
       clear HN HT HD f0 c0;rename_i wq;obtain⟨L,rfl,hL,hN,hT,hD⟩:=hrel;have HS:=qd (Swp.start HO.out hn0 hL hN.out);have lr:=hT.out.lrow;rw[hlI]at lr;have HL:=qd lr;clear lr;have hw1:IntKind.i64.wrap ((l.length:Int)-1)=(l.length:Int)-1:=IntWalk.i64_in _ oz;have hlc2':lc<=9223372036854775807:=hlc2;have hlc1':l.length<=lc:=by rw[hlI]at hlc1;exact hlc1
       generalize hm:msr f.code.length l.idxOf L=m at *;clear hN HL;by_cases hlc:lc=1
       ·subst hlc;go_wp2;go_loopw [82,12] (fun vi vc wx=>∃ (i:Nat) (c:Bool) (L:List Int),vi=.int .i64 i/\vc=.bool c/\i<l.length/\Hid (Swp f l m i c L)/\Hid (TMem f.code.length w wx fb lb 1 (rankTo f.code.length l l.length) L (toI l) (fromL (edgesL f)) S)/\Hid (wx.heap[fb+3]? = some (.deferred (some [])))) (fun vi _ _=>l.length-(intOf vi).toNat)
        case atStart=>exact⟨0,false,L,rfl,rfl,hlp,HS,hT,hD⟩
        case round =>
         clear HS hT hD hL hm;rename_i wq2;obtain⟨i,c,L,rfl,rfl,hi,HS,hT,hD⟩:=hrel;by_cases hlt:i+1<l.length
         ·exfalso;omega
         ·have d2:¬(i:Int)<(l.length:Int)-1:=oz
          cases c
          ·have f0:=hT.out.near.frozenAt 0;have c0:=row_cell hT.out.near (Nums_some (nrOf_some L 0 (by rw[HS.out.len];exact hn0)));go_wp2
           try rw[Exit.noGoto_ret]
           go_wp2;have hTn:=hT.out.setNear 0 (-1);have hD3:(wr.setCell ⟨w.heap.size+1+1,0,none⟩ (.int .i64 (-1))).heap[fb+3]? = some (.deferred (some [])):=by
            rw[<-hD.out];exact(Chg.setCell (S:=(· = w.heap.size+1+1)) (Chg.refl _ _) (p:=⟨w.heap.size+1+1,0,none⟩) (Or.inl rfl) _).block _ (Array.getElem?_eq_some_iff.1 hD.out).1 oz
           have hTt:=hTn.turn (Turn.put (b:=fb+3) _ (fb+3) _ (.deferred none) lr hD3 rfl);have hok:=HS.out.fin HO.out hn0 hlt;refine⟨si,.inl ⟨_,_,rfl,run_takeDeferred hD3,?_⟩⟩;refine⟨_,results_tmp rfl _ _ _,_,_,_,hok,_,rfl,hTt.bel,?_,?_,?_⟩
           ·rw[hok.len];exact hTt.near
           ·intro k hk;have e:w.heap.size+1+1=k:=ob1 hk
            omega
           ·intro e;have:=hok.len;rw[e]at this;change 0=f.code.length at this;omega
          ·obtain⟨hN2,hm2⟩:=HS.out.more HO.out hlt;have HN2:=qd hN2;clear hN2;have hL2:=HS.out.len;go_wp2
           go_roundg (msr f.code.length l.idxOf L)
           case measure=>exact hm2
           case rel=>exact⟨L,rfl,hL2,HN2,hT,hD⟩
       ·go_wp2;go_loopw [82,12] (fun vi vc wx=>∃ (i:Nat) (c:Bool) (L:List Int),vi=.int .i64 i/\vc=.bool c/\i<l.length/\Hid (Swp f l m i c L)/\Hid (TMem f.code.length w wx fb lb lc (rankTo f.code.length l l.length) L (toI l) (fromL (edgesL f)) S)/\Hid (wx.heap[fb+3]? = some (.deferred (some [])))) (fun vi _ _=>l.length-(intOf vi).toNat)
        case atStart=>exact⟨0,false,L,rfl,rfl,hlp,HS,hT,hD⟩
        case round =>
         clear HS hT hD hL hm;rename_i wq2;obtain⟨i,c,L,rfl,rfl,hi,HS,hT,hD⟩:=hrel;by_cases hlt:i+1<l.length
         ·have d2:(i:Int)<(l.length:Int)-1:=oz
          have d2':i<l.length-1:=oz
          have d2'':decide (i<l.length-1)=true:=decide_eq_true d2';have hwi:IntKind.i64.wrap ((i:Int)+1)=(i:Int)+1:=IntWalk.i64_in _ oz;have hge:(toI l)[1+i]? = some (l[i+1]'hlt:Int):=by rw[show 1+i=i+1 by omega];simp[toI,hlt]
          have lr:=hT.out.lrow;rw[hlI]at lr;have c0:=row_cell lr (Nums_some hge);have hv:=order_at HO.out hn0 hlt;have hbx:=own1 hT.out.box;obtain⟨s,hs⟩:=hT.out.fr.at hv.2.2.2;obtain⟨sa,sc,rfl⟩:=hT.out.fr.form hs;have c5:=hT.out.fr.cell hs;clear lr hge;have HStp:=qd (fun d hd=>HS.out.stp HO.out hn0 hlt (d:=d) hd);have HSame:=qd (fun d hd he=>HS.out.same HO.out hn0 hlt (d:=d) hd he);have HChg:=qd (fun d hd he=>HS.out.chg HO.out hn0 hlt (d:=d) hd he);have HInv:=qd HS.out.inv;have hLl:=HS.out.len;obtain⟨hv1,hv2,hv3,hv4⟩:=hv;have hd1:(0:Int)<=(l[i+1]'hlt:Int):=oz
          have hd2:((l[i+1]'hlt:Nat):Int)<(f.code.length:Int):=oz
          generalize l[i+1]'hlt=v at *;obtain⟨us,hus⟩:∃ us,us=fromL (edgesL f) v:=⟨_,rfl⟩
          have hul:us.length<=4096:=by
           have h1:=fromL_len (edgesL f) v;have h3:=edges_len f;rw[hus];omega
          have hmem:∀ x∈us,∃ u:Nat,x=(u:Int)/\u<f.code.length:=fun x hx=>by
           rw[hus,fromL_mem]at hx;obtain⟨u,e,h,_⟩:=hx;exact⟨u,e,h⟩
          have hum:∀ (j:Nat) (hj:j<us.length),∃ u:Nat,us[j]=(u:Int)/\u<f.code.length:=fun j hj=>hmem _ (List.getElem_mem hj);clear hmem;have HM:=qd hum;clear hum;have hrow:=hT.out.fr.each v _ hs;rw[<-hus]at hrow HStp HSame HChg hs c5;have Hus:=qd hus;clear hus;have HR0:=qd (row_form hrow);clear hrow;go_wp2;go_loopw [91,15] (fun vj vd wx=>∃ (j:Nat) (d:Int),vj=.int .i64 j/\vd=.int .i64 d/\j<=us.length/\Hid (MeetOf (nrOf L) (us.take j) d)/\Hid (TMem f.code.length w wx fb lb lc (rankTo f.code.length l l.length) L (toI l) (fromL (edgesL f)) S)/\Hid (wx.heap[fb+3]? = some (.deferred (some [])))) (fun vj _ _=>us.length-(intOf vj).toNat)
          case atStart=>exact⟨0,-1,rfl,rfl,Nat.zero_le _,qd (by simpa using MeetOf.nil),hT,hD⟩
          case round =>
           clear hT hD c0 hbx c5 HR0;rename_i wq3;obtain⟨j,d,rfl,rfl,hj,hMt,hT,hD⟩:=hrel;have hrow:=hT.out.fr.each v _ hs;rw[<-Hus.out]at hrow;have hwj:IntKind.i64.wrap ((j:Int)+1)=(j:Int)+1:=IntWalk.i64_in _ oz;by_cases hjl:j<us.length
           ·have d3:(j:Int)<(us.length:Int):=oz
            obtain⟨g,gc,hgv,-,-,hgl⟩:=row_pos hrow oz;cases hgv;obtain⟨u,hu,hul2⟩:=HM.out j hjl;have hge:us[j]? = some (u:Int):=by rw[List.getElem?_eq_getElem hjl,hu]
            have c1:=row_cell hrow (Nums_some hge);have htk:us.take (j+1)=us.take j++[(u:Int)]:=by rw[List.take_add_one,hge];rfl
            have c2:=row_cell hT.out.near (Nums_some (nrOf_some L u (by rw[hLl];exact hul2)));have hu1:(0:Int)<=(u:Int):=oz
            have hu2:(u:Int)<(f.code.length:Int):=oz
            have HTk:=qd htk;clear htk hge hu hrow;by_cases hdn:nrOf L u<0
            ·have hMp:=qd (hMt.out.pass hdn);go_wp2
             go_roundw
             case rel=>exact⟨j+1,d,si,rfl,oz,qd (by rw[HTk.out];exact hMp.out),hT,hD⟩
             case measure=>go_light;exact ml
            ·by_cases hd0:d<0
             ·have hMp:=qd (hMt.out.first hd0 (Int.not_lt.1 hdn));go_wp2
              go_roundw
              case rel=>exact⟨j+1,u,si,rfl,oz,qd (by rw[HTk.out];exact hMp.out),hT,hD⟩
              case measure=>go_light;exact ml
             ·obtain⟨d0,hd0',hdd⟩:∃ d0:Nat,d=(d0:Int)/\0<=nrOf L d0:=by
               rcases hMt.out with⟨h1,_⟩|⟨dn,h1,h2,_⟩
               ·omega
               ·exact⟨dn,h1,h2⟩
              subst hd0';have hud:0<=nrOf L u:=Int.not_lt.1 hdn;have HMt:=qd (fun a ha hm=>hMt.out.meet (d:=d0) (u:=u) (a:=a) hud ha hm);have HML:=qd (fun(a b:Nat) ha (hr:l.idxOf b<l.idxOf a)=>HInv.out.meetL (HG.out l HO.out) (a:=a) (b:=b) ha hr);have HMR:=qd (fun(a b:Nat) ha hb hne (hr:¬l.idxOf b<l.idxOf a)=>HInv.out.meetR (HG.out l HO.out) (a:=a) (b:=b) ha hb hne hr);have HRl:=qd (fun(a:Nat) (ha:0<=nrOf L a)=>HInv.out.dR (HG.out l HO.out) ha);have hdn':¬nrOf L u<0:=hdn;go_wp2
              go_loopg [15,17] (l.idxOf d0+l.idxOf u) (fun k va vb wy=>∃ (a b:Nat),k=l.idxOf a+l.idxOf b/\va=.int .i64 a/\vb=.int .i64 b/\0<=nrOf L a/\0<=nrOf L b/\Hid (∀ x,(Ch (nrOf L) a x/\Ch (nrOf L) b x)↔(Ch (nrOf L) d0 x/\Ch (nrOf L) u x))/\Hid (TMem f.code.length w wy fb lb lc (rankTo f.code.length l l.length) L (toI l) (fromL (edgesL f)) S)/\Hid (wy.heap[fb+3]? = some (.deferred (some []))))
              case atStart=>exact⟨d0,u,rfl,rfl,rfl,hdd,hud,qd (fun x=>Iff.rfl),hT,hD⟩
              case round =>
               clear hT hD c1 c2;obtain⟨a,b,rfl,rfl,rfl,ha,hb,hab,hT,hD⟩:=hrel;by_cases he:a=b
               ·subst he;have hMp:=qd (HMt.out a ha hab.out);have d4:((a:Int)==(a:Int))=true:=si
                go_wp2
                go_roundw
                case rel=>exact⟨j+1,a,si,rfl,oz,qd (by rw[HTk.out];exact hMp.out),hT,hD⟩
                case measure=>go_light;exact ml
               ·have d4:((a:Int)==(b:Int))=false:=by rw[beq_eq_false_iff_ne];omega
                have d5:¬(a:Int)=(b:Int):=oz
                have hal:a<f.code.length:=Rch.lt hn0 (HRl.out a ha);have hbl:b<f.code.length:=Rch.lt hn0 (HRl.out b hb);have e1:=row_cell hT.out.rank (Nums_some (rankTo_full f.code.length l a ((HO.out.mem a).2 (HRl.out a ha)) hal));have e2:=row_cell hT.out.rank (Nums_some (rankTo_full f.code.length l b ((HO.out.mem b).2 (HRl.out b hb)) hbl));have e3:=row_cell hT.out.near (Nums_some (nrOf_some L a (by rw[hLl];exact hal)));have e4:=row_cell hT.out.near (Nums_some (nrOf_some L b (by rw[hLl];exact hbl)));have q1:(0:Int)<=(a:Int):=oz
                have q2:(a:Int)<(f.code.length:Int):=oz
                have q3:(0:Int)<=(b:Int):=oz
                have q4:(b:Int)<(f.code.length:Int):=oz
                by_cases hr:l.idxOf b<l.idxOf a
                ·obtain⟨y,hy1,hy2,hy3,hy4⟩:=HML.out a b ha hr;have HY:=qd hy4;clear hy4;rw[hy1]at e3;have q5:(l.idxOf b:Int)<(l.idxOf a:Int):=oz
                 go_wp2
                 go_quiet (fail)
                 go_wp2
                 go_roundg (l.idxOf y+l.idxOf b)
                 case measure=>exact Nat.add_lt_add_right hy3 _
                 case rel=>exact⟨y,b,rfl,rfl,rfl,hy2,hb,qd (fun x=>(HY.out x).trans (hab.out x)),qd (hT.out.below (Below.drewN (Below.refl _ _) nq)),hD⟩
                ·obtain⟨y,hy1,hy2,hy3,hy4⟩:=HMR.out a b ha hb he hr;have HY:=qd hy4;clear hy4;rw[hy1]at e4;have q5:¬(l.idxOf b:Int)<(l.idxOf a:Int):=oz
                 go_wp2
                 go_quiet (fail)
                 go_wp2
                 go_roundg (l.idxOf a+l.idxOf y)
                 case measure=>exact Nat.add_lt_add_left hy3 _
                 case rel=>exact⟨a,y,rfl,rfl,rfl,ha,hy2,qd (fun x=>(HY.out x).trans (hab.out x)),qd (hT.out.below (Below.drewN (Below.refl _ _) nq)),hD⟩
           ·have hjj:j=us.length:=oz
            subst hjj;have d3:¬(us.length:Int)<(us.length:Int):=oz
            have hMf:=hMt.out;rw[List.take_length]at hMf;obtain⟨dn,hdn,hstp⟩:=HStp.out d hMf;have c2:=row_cell hT.out.near (Nums_some (nrOf_some L v (by rw[hLl];exact hv4)));have f2:=hT.out.near.frozenAt v;by_cases hch:nrOf L v=d
            ·have hS2:=qd (HSame.out d hMf hch);have hcb:(nrOf L v==d)=true:=by rw[beq_iff_eq];exact hch
             go_wp2;refine⟨⟨i+1,c,L,si,rfl,hlt,hS2,hT,hD⟩,?_⟩;go_light;exact ml
            ·have hS2:=qd (HChg.out d hMf hch);have hT2:=hT.out.setNear v d;have hcb:(nrOf L v==d)=false:=by rw[beq_eq_false_iff_ne];exact hch
             have hD3:(wr.setCell ⟨w.heap.size+1+1,v,none⟩ (.int .i64 d)).heap[fb+3]? = some (.deferred (some [])):=by
              rw[<-hD.out];exact(Chg.setCell (S:=(· = w.heap.size+1+1)) (Chg.refl _ _) (p:=⟨w.heap.size+1+1,v,none⟩) (Or.inl rfl) _).block _ (Array.getElem?_eq_some_iff.1 hD.out).1 oz
             have HT2:=qd hT2;have HD3:=qd hD3;clear hT2 hD3 hstp;subst hdn;go_wp2;refine⟨⟨i+1,true,L.set v dn,si,rfl,hlt,hS2,HT2,HD3⟩,?_⟩;go_light;exact ml
         ·have d2:¬(i:Int)<(l.length:Int)-1:=oz
          cases c
          ·have f0:=hT.out.near.frozenAt 0;have c0:=row_cell hT.out.near (Nums_some (nrOf_some L 0 (by rw[HS.out.len];exact hn0)));go_wp2
           try rw[Exit.noGoto_ret]
           go_wp2;have hTn:=hT.out.setNear 0 (-1);have hD3:(wr.setCell ⟨w.heap.size+1+1,0,none⟩ (.int .i64 (-1))).heap[fb+3]? = some (.deferred (some [])):=by
            rw[<-hD.out];exact(Chg.setCell (S:=(· = w.heap.size+1+1)) (Chg.refl _ _) (p:=⟨w.heap.size+1+1,0,none⟩) (Or.inl rfl) _).block _ (Array.getElem?_eq_some_iff.1 hD.out).1 oz
           have hTt:=hTn.turn (Turn.put (b:=fb+3) _ (fb+3) _ (.deferred none) lr hD3 rfl);have hok:=HS.out.fin HO.out hn0 hlt;refine⟨si,.inl ⟨_,_,rfl,run_takeDeferred hD3,?_⟩⟩;refine⟨_,results_tmp rfl _ _ _,_,_,_,hok,_,rfl,hTt.bel,?_,?_,?_⟩
           ·rw[hok.len];exact hTt.near
           ·intro k hk;have e:w.heap.size+1+1=k:=ob1 hk
            omega
           ·intro e;have:=hok.len;rw[e]at this;change 0=f.code.length at this;omega
          ·obtain⟨hN2,hm2⟩:=HS.out.more HO.out hlt;have HN2:=qd hN2;clear hN2;have hL2:=HS.out.len;go_wp2
           go_roundg (msr f.code.length l.idxOf L)
           case measure=>exact hm2
           case rel=>exact⟨L,rfl,hL2,HN2,hT,hD⟩
end
end Go.Proofs.YteebpnbdihcfmaaGreatDoor
