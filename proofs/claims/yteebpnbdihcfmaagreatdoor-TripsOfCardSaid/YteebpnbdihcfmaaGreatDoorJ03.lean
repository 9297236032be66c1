/- From the row's conditi; Arguments opened; The machine of the cod; How long a module's li; Arguments opened with; What stays true of a r; Sums of the first numb -/
import Derived.Test.YteebpnbdihcfmaaGreatDoorJ01
import Derived.ProofKit
import Derived.LaidMore
import Derived.OpenShut
import Derived.ChangeOld
import Derived.Below
import Derived.Carry
import Derived.Stop.Joined
import Derived.Deep.Slices
import Derived.Lib.SmallJoins
set_option linter.unusedVariables false
set_option linter.unusedSimpArgs false
set_option maxRecDepth 100000
set_option maxHeartbeats 20000000
namespace Go.Proofs.YteebpnbdihcfmaaGreatDoor
open Go.ChangeShapes Go.WideShapes Go.ChangeAt Go.RowKit
theorem own:ownKnob Tryz.prog.godebug=none:=kr
theorem aJx:laidOutB Tryz.prog=true:=kr
def aGe:List (String×DataW Unit):=[("soffit/code.rows",Rows.laid_soffit_code_rows)]
/-- The door's own heap meets the condition: three closed facts. -/
theorem aRc (os:Os) (args:Array Value):laidMetH Tryz.prog aGe ((World.doorLaid Tryz.prog 34 os).forCall (fun _ _=>0) ⟨#[],args,[]⟩).memory :=
 laidMetH_of_parts3 (fuel:=8) (laidMet_of_run' 8 kr kr) kr kr
theorem mU {w:World}{a:Addr}{v:Value}(h:w.cell? a=some v):a.block<w.heap.size:=by
 unfold World.cell? at h;split at h
 ·rename_i hb;exact(Array.getElem?_eq_some_iff.1 hb).1
 all_goals cases h
/-- one row of the table, read -/
theorem aQ0 {H:Type}{enc:TypeId×Value->H}{W:World}{base fuel:Nat}{sp:Nat->Bool}{hd:Bool}{cs:List Value}{x:DataW H×List MemPlace}(h:DataW.trod enc Tryz.prog W base sp hd fuel 154 cs=some x)
 {s:List UInt8}{wt n:Int}{a b c wr:Bool} (hx:x.1=.agg [.lit (.string s),.lit (.int .i64 wt),.lit (.bool a),.lit (.bool b),.lit (.bool c),.lit (.int .i64 n),.lit (.bool wr)]) :
 cs=[.string ⟨s.toArray⟩,.int .i64 wt,.bool a,.bool b,.bool c,.int .i64 n,.bool wr]:=by
 obtain⟨xs,m,rfl,rfl,hl,hlen,hf⟩:=DataW.trod_struct Tryz.underlying154 h;have c9:Tryz.prog.cellsOf 9=1:=kr
 have c2:Tryz.prog.cellsOf 2=1:=kr
 have c3:Tryz.prog.cellsOf 3=1:=kr
 have c4:Tryz.prog.cellsOf 4=1:=kr
 have c109:Tryz.prog.cellsOf 154=7:=kr
 rw[c109]at hl
 match cs,hl with
 | [q0,q1,q2,q3,q4,q5,q6],_ =>
  match xs,hlen with
  | [y0,y1,y2,y3,y4,y5,y6],_ =>
   have k0:DataW.trod enc Tryz.prog W base sp hd m 9 [q0]=some y0:=by have:=hf 0 _ rfl;simpa[c9]using this
   have k1:DataW.trod enc Tryz.prog W base sp hd m 2 [q1]=some y1:=by have:=hf 1 _ rfl;simpa[c2]using this
   have k2:DataW.trod enc Tryz.prog W base sp hd m 4 [q2]=some y2:=by have:=hf 2 _ rfl;simpa[c4]using this
   have k3:DataW.trod enc Tryz.prog W base sp hd m 4 [q3]=some y3:=by have:=hf 3 _ rfl;simpa[c4]using this
   have k4:DataW.trod enc Tryz.prog W base sp hd m 4 [q4]=some y4:=by have:=hf 4 _ rfl;simpa[c4]using this
   have k5:DataW.trod enc Tryz.prog W base sp hd m 3 [q5]=some y5:=by have:=hf 5 _ rfl;simpa[c3]using this
   have k6:DataW.trod enc Tryz.prog W base sp hd m 4 [q6]=some y6:=by have:=hf 6 _ rfl;simpa[c4]using this
   obtain⟨z0,e0,r0,_⟩:=DataW.trod_string Tryz.underlying9 k0;obtain⟨z1,e1,r1,_⟩:=DataW.trod_int Tryz.underlying2 k1;obtain⟨z2,e2,r2⟩:=DataW.trod_bool Tryz.underlying4 k2;obtain⟨z3,e3,r3⟩:=DataW.trod_bool Tryz.underlying4 k3;obtain⟨z4,e4,r4⟩:=DataW.trod_bool Tryz.underlying4 k4;obtain⟨z5,e5,r5,_⟩:=DataW.trod_int Tryz.underlying3 k5;obtain⟨z6,e6,r6⟩:=DataW.trod_bool Tryz.underlying4 k6;subst r0 r1 r2 r3 r4 r5 r6;simp only[List.cons.injEq,and_true]at e0 e1 e2 e3 e4 e5 e6;subst e0 e1 e2 e3 e4 e5 e6;simp only[List.map_cons,List.map_nil,DataW.agg.injEq,List.cons.injEq,DataW.lit.injEq,Lit.string.injEq,Lit.int.injEq,Lit.bool.injEq,true_and,and_true]at hx;obtain⟨rfl,rfl,rfl,rfl,rfl,rfl,rfl⟩:=hx;rfl
/-- what the condition gives the walks -/
theorem aC8 {W:World}(h:laidMetH Tryz.prog aGe W):eO W:=by
 rw[MakeChecks.laidMetH_plain _ _ _ (by kernel_rfl)]at h;obtain⟨ps,⟨g0,t0,cs0,f0,p0,q0,hg0,ht0,hv0,hd0,_,_⟩,_,_⟩:=h;obtain rfl:(0:Nat)=g0:=Option.some.inj ((show Tryz.prog.globalNamed "soffit/code.rows" = some 0 by kernel_rfl).symm.trans hg0);obtain rfl:155=t0:=Option.some.inj ((show(Tryz.prog.globals[0]?).map (·.type)=some 155 by kernel_rfl).symm.trans ht0);obtain⟨xs,m1,rfl,hx1,hlen,hn,hel⟩:=DataW.trod_array Tryz.underlying155 hd0;have c109:Tryz.prog.cellsOf 154=7:=kr
 rw[c109]at hel;simp only[Prod.mk.injEq]at hx1;have hx:=hx1.1;unfold Rows.laid_soffit_code_rows at hx;simp only[DataW.agg.injEq]at hx;have hcell:=fun i=>World.var?_cell hg0 hv0 i;have key:∀ k,k<20->((cs0.toList.drop (k*7)).take 7)=[.string ⟨(dM k).word.toArray⟩,.int .i64 (dM k).weight,.bool (dM k).a,.bool (dM k).b,.bool (dM k).c,.int .i64 (dM k).n,.bool (dM k).writes]:=by
  intro k hk;have hk2:=hel k hk;rw[List.getElem?_eq_getElem (by omega)]at hk2;refine aQ0 hk2 ?_;have h3:(xs.map (·.1))[k]? = some xs[k].1:=by simp[List.getElem?_eq_getElem (show k<xs.length by omega)]
  rw[<-hx]at h3;have h4:(aJu.map fun R=>(DataW.agg [.lit (.string R.word),.lit (.int .i64 R.weight),.lit (.bool R.a),.lit (.bool R.b),.lit (.bool R.c),.lit (.int .i64 R.n),.lit (.bool R.writes)]:DataW Unit))[k]? = some xs[k].1:=h3;rw[List.getElem?_map]at h4;have h5:aJu[k]? = some (dM k):=by
   unfold dM;rw[List.getD_eq_getElem?_getD,List.getElem?_eq_getElem (by exact hk)];rfl
  rw[h5]at h4;simpa using h4.symm
 have hc:∀ k j v,k<20->j<7->([.string ⟨(dM k).word.toArray⟩,.int .i64 (dM k).weight,.bool (dM k).a,.bool (dM k).b,.bool (dM k).c,.int .i64 (dM k).n,.bool (dM k).writes]:List Value)[j]? = some v->W.cell? ⟨0,k*7+j,none⟩=some v:=by
  intro k j v hk hj hv;rw[hcell,<-hv,<-key k hk,List.getElem?_take_of_lt hj,List.getElem?_drop];simp
 refine⟨?_,fun k hk=>⟨hc k 0 _ hk oz rfl,hc k 1 _ hk oz rfl,hc k 2 _ hk oz rfl,hc k 3 _ hk oz rfl,hc k 4 _ hk oz rfl,hc k 5 _ hk oz rfl,hc k 6 _ hk oz rfl⟩⟩;have:=mU (hc 0 0 _ oz oz rfl);simpa using this
end Go.Proofs.YteebpnbdihcfmaaGreatDoor
namespace Go.Proofs.YteebpnbdihcfmaaGreatDoor
open Go.ChangeShapes Go.WideShapes Go.ChangeAt Go.RowKit Go.Deep Go.Joins
theorem aA6 {n:Int}(h:(Lit.int .i64 n).wf=true):aM n:=bounds_i64 h
theorem c2:Tryz.prog.cellsOf 2=1:=kr
theorem c3:Tryz.prog.cellsOf 3=1:=kr
theorem c9:Tryz.prog.cellsOf 9=1:=kr
theorem c49:Tryz.prog.cellsOf 39=1:=kr
theorem c48:Tryz.prog.cellsOf 40=1:=kr
theorem c74:Tryz.prog.cellsOf 47=2:=kr
theorem c47:Tryz.prog.cellsOf 55=5:=kr
theorem c51:Tryz.prog.cellsOf 42=5:=kr
/-- the address of a cell that is there -/
theorem yC {w:World}{a:Addr}{k:Nat}{v:Value}(h:w.cell? (a.add k)=some v):a=⟨a.block,a.off,none⟩\/0<k:=by
 by_cases hk:k=0
 ·subst hk;have h2:=World.cell?_spot h;obtain⟨b,o,s⟩:=a;subst h2;exact .inl rfl
 ·grind
theorem nY (b o k:Nat):(⟨b,o,none⟩:Addr).add k=⟨b,o+k,none⟩:=by
 unfold Addr.add;split
 ·simp
 ·rfl
section
variable {H : Type} {enc : TypeId × Value -> H} {W : World} {base : Nat} {sp : Nat -> Bool} {hd : Bool}
theorem aKv {fuel:Nat}{cs:List Value}{x:DataW H×List MemPlace}(h:DataW.trod enc Tryz.prog W base sp hd fuel 22 cs=some x):∃ a n c zs,cs=[.slice a n c]/\cI W.heap.size W a n zs/\n<=c/\c<=maxLen:=by
 rcases open_slice1 Tryz.underlying22 c2 h with⟨rfl,_⟩|⟨a,len,cap,m,n,V,D,Pl,rfl,hb,hl,hm,hmm,_,hx⟩
 ·exact⟨none,0,0,[],rfl,⟨rfl,Nat.zero_le _,0,0,fun h=>absurd h (Nat.lt_irrefl 0),fun i h=>absurd h (Nat.not_lt_zero i)⟩,Nat.le_refl _,Nat.zero_le _⟩
 ·have:len<=m:=by rw[hmm];split<;>omega
  obtain⟨Z,hZ⟩:=choose_lt (α:=Int) (n:=len) (p:=fun i z=>W.cell? (a.add i)=some (.int .i64 z)/\aM z) (fun i hi=>by
   obtain⟨h1,h2⟩:=hx i oz;obtain⟨z,e1,_,e3⟩:=DataW.trod_int Tryz.underlying2 h2;simp only[List.cons.injEq,and_true]at e1;exact⟨z,by rw[h1,e1],aA6 e3⟩)
  refine⟨some a,len,cap,(List.range len).map Z,rfl,⟨si,oz,a.block,a.off,fun h0=>?_,fun i hi=>?_⟩,hl,hm⟩
  ·have h1:=(hZ 0 h0).1;refine⟨?_,?_⟩
   ·rcases yC h1 with e|e
    ·rw[<-e]
    ·omega
   ·have:=mU h1;simpa[Addr.add]using this
  ·have e:a=⟨a.block,a.off,none⟩:=by
    rcases yC (hZ 0 oz).1 with e|e
    ·exact e
    ·omega
   have h1:=hZ i hi;rw[e,nY]at h1
   grind
theorem aK5 {fuel:Nat}{cs:List Value}{x:DataW H×List MemPlace}(h:DataW.trod enc Tryz.prog W base sp hd fuel 47 cs=some x):∃ p:aB,cs=[.int .i64 p.lo,.int .i64 p.hi]/\aM p.lo/\aM p.hi:=by
 obtain⟨y0,y1,n,_,hl,h0,h1⟩:=trod_struct2 Tryz.underlying47 h
 match cs,hl with
 | [q0,q1],_ =>
  have k0:DataW.trod enc Tryz.prog W base sp hd n 2 [q0]=some y0:=by simpa[c2]using h0
  have k1:DataW.trod enc Tryz.prog W base sp hd n 2 [q1]=some y1:=by simpa[c2]using h1
  obtain⟨z0,e0,_,w0⟩:=DataW.trod_int Tryz.underlying2 k0;obtain⟨z1,e1,_,w1⟩:=DataW.trod_int Tryz.underlying2 k1;exact⟨⟨z0,z1⟩,by simp_all,aA6 w0,aA6 w1⟩
theorem aNu {fuel:Nat}{cs:List Value}{x:DataW H×List MemPlace}(h:DataW.trod enc Tryz.prog W base sp hd fuel 55 cs=some x):∃ p:dJ,cs=[.int .i64 p.op,.int .i64 p.a,.int .i64 p.b,.int .i64 p.c,.int .i64 p.n]/\aFh p:=by
 obtain⟨xs,m,rfl,rfl,hl,hlen,hf⟩:=DataW.trod_struct Tryz.underlying55 h
 match cs,hl with
 | [q0,q1,q2,q3,q4],_ =>
  match xs,hlen with
  | [y0,y1,y2,y3,y4],_ =>
   have k0:DataW.trod enc Tryz.prog W base sp hd m 3 [q0]=some y0:=by have:=hf 0 _ rfl;simpa[c3]using this
   have k1:DataW.trod enc Tryz.prog W base sp hd m 3 [q1]=some y1:=by have:=hf 1 _ rfl;simpa[c3]using this
   have k2:DataW.trod enc Tryz.prog W base sp hd m 3 [q2]=some y2:=by have:=hf 2 _ rfl;simpa[c3]using this
   have k3:DataW.trod enc Tryz.prog W base sp hd m 3 [q3]=some y3:=by have:=hf 3 _ rfl;simpa[c3]using this
   have k4:DataW.trod enc Tryz.prog W base sp hd m 2 [q4]=some y4:=by have:=hf 4 _ rfl;simpa[c2]using this
   obtain⟨z0,e0,_,w0⟩:=DataW.trod_int Tryz.underlying3 k0;obtain⟨z1,e1,_,w1⟩:=DataW.trod_int Tryz.underlying3 k1;obtain⟨z2,e2,_,w2⟩:=DataW.trod_int Tryz.underlying3 k2;obtain⟨z3,e3,_,w3⟩:=DataW.trod_int Tryz.underlying3 k3;obtain⟨z4,e4,_,w4⟩:=DataW.trod_int Tryz.underlying2 k4;simp only[List.cons.injEq,and_true]at e0 e1 e2 e3 e4;subst e0 e1 e2 e3 e4;exact⟨⟨z0,z1,z2,z3,z4⟩,rfl,aA6 w0,aA6 w1,aA6 w2,aA6 w3,aA6 w4⟩
/-- a slice of elements of k cells: each element's cells -/
theorem aA2 {t e:TypeId}{k:Nat}(hk0:0<k) (ht:Tryz.prog.underlying t=some (.slice e)) (hc:Tryz.prog.cellsOf e=k) {α:Type}[Inhabited α] (q:α->List Value->Prop)
 (hq:∀ (n:Nat) (cs:List Value) (y:DataW H×List MemPlace),DataW.trod enc Tryz.prog W base sp hd n e cs=some y->∃ z,q z cs)
 {fuel:Nat}{cs:List Value}{x:DataW H×List MemPlace} (h:DataW.trod enc Tryz.prog W base sp hd fuel t cs=some x) :
 ∃ a n c,∃ zs:List α,cs=[.slice a n c]/\zs.length=n/\n<=maxLen/\∃ b o,pY W.heap.size a n b o/\∀ i,i<n->∃ ce,ce.length=k/\q (zs.getD i default) ce/\∀ j,j<k->W.cell? ⟨b,o+i*k+j,none⟩=ce[j]? := by
 rcases open_slice ht h with⟨rfl,_⟩|⟨a,len,cap,m,n,D,Pl,rfl,hb,hl,hm,hmm,_,hx⟩
 ·exact⟨none,0,0,[],rfl,rfl,Nat.zero_le _,0,0,fun h=>absurd h (Nat.lt_irrefl 0),fun i h=>absurd h (Nat.not_lt_zero i)⟩
 ·have:len<=m:=by rw[hmm];split<;>omega
  have hx2:∀ i,i<len->∃ z,∃ ce,ce.length=k/\q z ce/\∀ j,j<k->W.cell? ((a.add (i*k)).add j)=ce[j]? := by
   intro i hi;obtain⟨ce,h1,h2⟩:=hx i oz;obtain⟨_,hlen,hce⟩:=World.cells?_some h1
   grind
  obtain⟨Z,hZ⟩:=choose_lt hx2;have ha:0<len->a=⟨a.block,a.off,none⟩/\a.block<W.heap.size:=by
   intro h0;obtain⟨ce,hcl,_,hce⟩:=hZ 0 h0;have h1:=hce 0 hk0;rw[List.getElem?_eq_getElem (by omega)]at h1;simp only[Nat.zero_mul]at h1;refine⟨?_,?_⟩
   ·rcases yC h1 with e|e
    ·exact e
    ·omega
   ·have:=mU h1;simpa[Addr.add]using this
  refine⟨some a,len,cap,(List.range len).map Z,rfl,si,oz,a.block,a.off,fun h0=>⟨by rw[<-(ha h0).1],(ha h0).2⟩,fun i hi=>?_⟩;obtain⟨ce,hcl,hz,hce⟩:=hZ i hi;have e2:((List.range len).map Z).getD i default=Z i:=by grind
  rw[e2];refine⟨ce,hcl,hz,fun j hj=>?_⟩;have:=hce j hj;rw[(ha (by omega)).1,nY,nY]at this;exact this
theorem aIi {fuel:Nat}{cs:List Value}{x:DataW H×List MemPlace}(h:DataW.trod enc Tryz.prog W base sp hd fuel 39 cs=some x):∃ a n c zs,cs=[.slice a n c]/\nC W.heap.size W a n zs:=by
 obtain⟨a,n,c,zs,rfl,hl,hm,b,o,hb,hz⟩:=aA2 (k:=2) oz Tryz.underlying39 c74 (fun(p:aB) cs=>cs=[.int .i64 p.lo,.int .i64 p.hi]/\aM p.lo/\aM p.hi) (fun n cs y h=>aK5 h) h;refine⟨a,n,c,zs,rfl,hl,hm,b,o,hb,fun i hi=>?_⟩;obtain⟨ce,_,⟨rfl,w0,w1⟩,hc⟩:=hz i hi;exact⟨hc 0 oz,hc 1 oz,w0,w1⟩
theorem aLl {fuel:Nat}{cs:List Value}{x:DataW H×List MemPlace}(h:DataW.trod enc Tryz.prog W base sp hd fuel 40 cs=some x):∃ a n c zs,cs=[.slice a n c]/\sR W.heap.size W a n zs:=by
 obtain⟨a,n,c,zs,rfl,hl,hm,b,o,hb,hz⟩:=aA2 (k:=5) oz Tryz.underlying40 c47 (fun(p:dJ) cs=>cs=[.int .i64 p.op,.int .i64 p.a,.int .i64 p.b,.int .i64 p.c,.int .i64 p.n]/\aFh p) (fun n cs y h=>aNu h) h;refine⟨a,n,c,zs,rfl,hl,hm,b,o,hb,fun i hi=>?_⟩;obtain⟨ce,_,⟨rfl,w0⟩,hc⟩:=hz i hi;exact⟨⟨hc 0 oz,hc 1 oz,hc 2 oz,hc 3 oz,hc 4 oz⟩,w0⟩
theorem aL0 {fuel:Nat}{cs:List Value}{x:DataW H×List MemPlace}(h:DataW.trod enc Tryz.prog W base sp hd fuel 42 cs=some x) :
 ∃ (f:aC) (k:HF),cs=[.string f.name,.slice k.pa k.pl k.pc,.int .i64 f.regs,.int .i64 f.words,.slice k.ca k.cl k.cc]/\aZ W.heap.size W k f:=by
 obtain⟨xs,m,rfl,rfl,hl,hlen,hf⟩:=DataW.trod_struct Tryz.underlying42 h;rw[c51]at hl
 match cs,hl with
 | [q0,q1,q2,q3,q4],_ =>
  match xs,hlen with
  | [y0,y1,y2,y3,y4],_ =>
   have k0:DataW.trod enc Tryz.prog W base sp hd m 9 [q0]=some y0:=by have:=hf 0 _ rfl;simpa[c9]using this
   have k1:DataW.trod enc Tryz.prog W base sp hd m 39 [q1]=some y1:=by have:=hf 1 _ rfl;simpa[c49]using this
   have k2:DataW.trod enc Tryz.prog W base sp hd m 3 [q2]=some y2:=by have:=hf 2 _ rfl;simpa[c3]using this
   have k3:DataW.trod enc Tryz.prog W base sp hd m 3 [q3]=some y3:=by have:=hf 3 _ rfl;simpa[c3]using this
   have k4:DataW.trod enc Tryz.prog W base sp hd m 40 [q4]=some y4:=by have:=hf 4 _ rfl;simpa[c48]using this
   obtain⟨z0,e0,_,w0⟩:=DataW.trod_string Tryz.underlying9 k0;obtain⟨pa,pl,pc,ps,e1,w1⟩:=aIi k1;obtain⟨z2,e2,_,w2⟩:=DataW.trod_int Tryz.underlying3 k2;obtain⟨z3,e3,_,w3⟩:=DataW.trod_int Tryz.underlying3 k3;obtain⟨ca,cl,cc,zs,e4,w4⟩:=aLl k4;simp only[List.cons.injEq,and_true]at e0 e1 e2 e3 e4;subst e0 e1 e2 e3 e4;exact⟨⟨z0,ps,z2,z3,zs⟩,⟨pa,pl,pc,ca,cl,cc⟩,rfl,w0,w1,w4,aA6 w2,aA6 w3⟩
instance : Inhabited (aC × HF) := ⟨(default, default)⟩
end
end Go.Proofs.YteebpnbdihcfmaaGreatDoor
namespace Go.Proofs.YteebpnbdihcfmaaGreatDoor
open Go.RowKit
/-- what the operations of two registers make -/
def tF (op a b:Int):Int :=
 if op=3 then wrap64 (a+b)else if op=4 then wrap64 (a-b)else if op=5 then wrap64 (a*b)else if op=6 then wrap64 (a.tdiv b)else
 if op=7 then a.tmod b else if op=8 then(if a<b then 1 else 0)else(if a=b then 1 else 0)
/-- a call that has not ended -/
structure PFr where
 fn:Nat
 at_:Int
 into:Int
 regs:List Int
 words:List Int
/-- a run: the frames, the innermost apart; the words in use; the most frames and words -/
structure PSt where
 rest:List PFr
 top:PFr
 use:Int
 mf:Int
 mw:Int
instance : Inhabited PFr := ⟨⟨0, 0, 0, [], []⟩⟩
def PFr.rg (f:PFr) (i:Int):Int:=f.regs.getD i.toNat 0
def PFr.put (f:PFr) (i v:Int):PFr:={ f with regs:=f.regs.set i.toNat v }
def PFr.goto (f:PFr) (n:Int):PFr:={ f with at_:=n }
def bX (m:bA) (k:Nat):aC:=m.funcs.getD k default
def aWh (n:Int):List Int:=List.replicate n.toNat 0
def zT (m:bA) (k:Nat):Int:=(bX m k).regs+(bX m k).words
def PSt.depth (s:PSt):Int:=(s.rest.length:Int)+1
def PSt.pass (s:PSt):PSt:={ s with top:=s.top.goto (s.top.at_+1) }
/-- a module's lists, by their bytes -/
def aGs (m:bA):Prop:=m.thr.length*8<=140737488355328/\m.funcs.length*80<=140737488355328/\∀ i,i<m.funcs.length->(bX m i).params.length*16<=140737488355328/\(bX m i).code.length*40<=140737488355328
end Go.Proofs.YteebpnbdihcfmaaGreatDoor
namespace Go.Proofs.YteebpnbdihcfmaaGreatDoor
open Go.ChangeShapes Go.WideShapes Go.ChangeAt Go.RowKit Go.Deep Go.Joins
def lQ {H:Type}(t:TypeId) (d:DataW H):Prop:=∀ u∈d.weights Tryz.prog t,u<=reachBytes
theorem qH {H:Type}{P:Program}{e:TypeId}{d:DataW H}{u:Nat}(hu:u∈d.weights P e):∀ {l:List (DataW H)},d∈l->u∈DataW.weightsAll P e l
 | x::r,h=>by
  rw[DataW.weightsAll];rcases List.mem_cons.1 h with e|e
  ·subst e;exact List.mem_append.2 (.inl hu)
  ·exact List.mem_append.2 (.inr (qH hu e))
section
variable {H : Type} {enc : TypeId × Value -> H} {W : World} {base : Nat} {sp : Nat -> Bool} {hd : Bool}
/-- a slice's length, and its elements' own weights -/
theorem tB {t e:TypeId}(ht:Tryz.prog.underlying t=some (.slice e)) {len k:Nat}{D:Nat->DataW H}(hw:lQ t (.slice ((List.range len).map D) ((List.range k).map fun j=>D (len+j)))) :
 len*Tryz.prog.bytesOf e<=reachBytes/\∀ i,i<len->lQ e (D i):=by
 unfold lQ at *;rw[DataW.weights,ht]at hw;refine⟨?_,fun i hi u hu=>hw u ?_⟩
 ·have:=hw _ (List.mem_cons.2 (.inl rfl));simp only[List.length_map,List.length_range]at this;exact Nat.le_trans (Nat.mul_le_mul_right _ oz) this
 ·refine List.mem_cons.2 (.inr (List.mem_append.2 (.inl (qH hu ?_))));exact List.mem_map.2 ⟨i,List.mem_range.2 hi,rfl⟩
theorem b2:Tryz.prog.bytesOf 2=8:=kr
theorem b74:Tryz.prog.bytesOf 47=16:=kr
theorem b47:Tryz.prog.bytesOf 55=40:=kr
theorem b51:Tryz.prog.bytesOf 42=80:=kr
/-- how long a slice is -/
theorem sO {t e:TypeId}{k:Nat}(ht:Tryz.prog.underlying t=some (.slice e)) (hb:Tryz.prog.bytesOf e=k) {fuel:Nat}{a:Option Addr}{n c:Nat}{x:DataW H×List MemPlace}
 (h:DataW.trod enc Tryz.prog W base sp hd fuel t [.slice a n c]=some x) (hw:lQ t x.1):n*k<=reachBytes:=by
 rcases open_slice ht h with⟨e1,_⟩|⟨a',len,cap,m,n',D,Pl,e1,hb',hl,hm,hmm,rfl,hx⟩
 ·simp only[List.cons.injEq,Value.slice.injEq,and_true]at e1;rw[e1.2.1];omega
 ·simp only[List.cons.injEq,Value.slice.injEq,and_true]at e1;rw[e1.2.1,<-hb];exact(tB ht hw).1
theorem aE3 {fuel:Nat}{f:aC}{k:HF}{x:DataW H×List MemPlace}(h:DataW.trod enc Tryz.prog W base sp hd fuel 42 [.string f.name,.slice k.pa k.pl k.pc,.int .i64 f.regs,.int .i64 f.words,.slice k.ca k.cl k.cc]=some x) (hw:lQ 42 x.1):k.pl*16<=reachBytes/\k.cl*40<=reachBytes:=by
 obtain⟨xs,m,rfl,rfl,hl,hlen,hf⟩:=DataW.trod_struct Tryz.underlying42 h
 match xs,hlen with
 | [y0,y1,y2,y3,y4],_ =>
  have k1:DataW.trod enc Tryz.prog W base sp hd m 39 [.slice k.pa k.pl k.pc]=some y1:=by have:=hf 1 _ rfl;simpa[c49]using this
  have k4:DataW.trod enc Tryz.prog W base sp hd m 40 [.slice k.ca k.cl k.cc]=some y4:=by have:=hf 4 _ rfl;simpa[c48]using this
  have w1:lQ 39 y1.1:=fun u hu=>hw u (by
   rw[List.map_cons,List.map_cons,List.map_cons,List.map_cons,List.map_cons,List.map_nil,DataW.weights,Tryz.underlying42];simp only[List.map_cons,List.map_nil,DataW.weightsEach,List.mem_append];exact .inr (.inl hu))
  have w4:lQ 40 y4.1:=fun u hu=>hw u (by
   rw[List.map_cons,List.map_cons,List.map_cons,List.map_cons,List.map_cons,List.map_nil,DataW.weights,Tryz.underlying42];simp only[List.map_cons,List.map_nil,DataW.weightsEach,List.mem_append];exact .inr (.inr (.inr (.inr (.inl hu)))))
  exact⟨sO Tryz.underlying39 b74 k1 w1,sO Tryz.underlying40 b47 k4 w4⟩
theorem aMk {r:Reach}{b0:Nat}{v:Value}{d:DataW H}{p:List MemPlace}(hv:Value.okWide Tryz.prog W r b0 25 v) (h:DataW.Trod enc Tryz.prog W base sp hd 25 v d p) (hw:lQ 25 d):∃ m,cP W.heap.size W v m/\aGs m:=by
 obtain⟨v0,v1,y0,y1,n,rfl,rfl,_,h0,h1⟩:=open_agg2 Tryz.underlying25 kr kr hv h;have w0:lQ 22 y0.1:=fun u hu=>hw u (by
  rw[DataW.weights,Tryz.underlying25];simp only[List.map_cons,List.map_nil,DataW.weightsEach,List.mem_append];exact .inl hu)
 have w1:lQ 23 y1.1:=fun u hu=>hw u (by
  rw[DataW.weights,Tryz.underlying25];simp only[List.map_cons,List.map_nil,DataW.weightsEach,List.mem_append];exact .inr (.inl hu))
 obtain⟨ta,tl,tc,zs,e0,q0,_⟩:=aKv h0;simp only[List.cons.injEq,and_true]at e0;subst e0;have hr:reachBytes<=140737488355328:=dc
 have t0:=sO Tryz.underlying22 b2 h0 w0;rcases open_slice Tryz.underlying23 h1 with⟨e1,_⟩|⟨a,len,cap,mm,n',D,Pl,e1,hb,hl,hm,hmm,e2,hx⟩
 ·simp only[List.cons.injEq,and_true]at e1;subst e1;refine⟨⟨zs,[]⟩,⟨ta,tl,tc,none,0,0,rfl,q0,rfl,Nat.zero_le _,0,0,fun h=>absurd h (Nat.lt_irrefl 0),fun _=>default,fun i h=>absurd h (Nat.not_lt_zero i)⟩,?_,Nat.zero_le _,fun i h=>absurd h (Nat.not_lt_zero i)⟩;show zs.length*8<=_;have:=q0.1;omega
 ·simp only[List.cons.injEq,and_true]at e1;subst e1;have hws:lQ 23 (DataW.slice ((List.range len).map D) ((List.range (mm-len)).map fun j=>D (len+j))):=by
   have:=w1;rw[e2]at this;exact this
  obtain⟨wl,we⟩:=tB Tryz.underlying23 hws;rw[b51]at wl;have hlm:len<=mm:=by rw[hmm];split<;>omega
  obtain⟨Z,hZ⟩:=choose_lt (α:=aC×HF) (n:=len) (p:=fun i z=>aZ W.heap.size W z.2 z.1/\z.1.params.length*16<=140737488355328/\z.1.code.length*40<=140737488355328/\∀ j,j<5->W.cell? ((a.add (i*5)).add j)=[.string z.1.name,.slice z.2.pa z.2.pl z.2.pc,.int .i64 z.1.regs,.int .i64 z.1.words,.slice z.2.ca z.2.cl z.2.cc][j]?) (fun i hi=>by
   obtain⟨ce,h3,h4⟩:=hx i oz;rw[c51]at h3;obtain⟨_,hlen,hce⟩:=World.cells?_some h3;obtain⟨f,k,rfl,ok⟩:=aL0 h4;have hb:=aE3 h4 (we i hi);have ok2:=ok;obtain⟨_,⟨p1,_⟩,⟨c1,_⟩,_,_⟩:=ok2;exact⟨(f,k),ok,by simp only[];omega,by simp only[];omega,hce⟩)
  have ha:0<len->a=⟨a.block,a.off,none⟩/\a.block<W.heap.size:=by
   intro h0;obtain⟨_,_,_,hce⟩:=hZ 0 h0;have h1:=hce 0 oz;simp only[Nat.zero_mul]at h1;have e0:(a.add 0).add 0=a.add 0:=by simp[Addr.add]
   rw[e0]at h1;have h1':W.cell? (a.add 0)=some (.string (Z 0).1.name):=h1;refine⟨?_,?_⟩
   ·rcases yC h1' with e|e
    ·exact e
    ·omega
   ·have:=mU h1';simpa[Addr.add]using this
  have eg:∀ i,i<len->((List.range len).map fun i=>(Z i).1).getD i default=(Z i).1:=fun i hi=>by simp[List.getD_eq_getElem?_getD,List.getElem?_map,List.getElem?_range hi]
  refine⟨⟨zs,(List.range len).map fun i=>(Z i).1⟩,⟨ta,tl,tc,some a,len,cap,rfl,q0,si,oz,a.block,a.off,fun h0=>⟨by rw[<-(ha h0).1],(ha h0).2⟩,fun i=>(Z i).2,fun i hi=>?_⟩,?_,?_,fun i hi=>?_⟩
  ·have hi':i<len:=by simpa using hi
   obtain⟨ok,_,_,hce⟩:=hZ i hi';rw[eg i hi'];have hc:∀ j,j<5->W.cell? ⟨a.block,a.off+i*5+j,none⟩=[.string (Z i).1.name,.slice (Z i).2.pa (Z i).2.pl (Z i).2.pc,.int .i64 (Z i).1.regs,.int .i64 (Z i).1.words,.slice (Z i).2.ca (Z i).2.cl (Z i).2.cc][j]? := by
    intro j hj;have:=hce j hj;rw[(ha (by omega)).1,nY,nY]at this;exact this
   exact⟨⟨hc 0 oz,hc 1 oz,hc 2 oz,hc 3 oz,hc 4 oz⟩,ok⟩
  ·show zs.length*8<=_;have:=q0.1;omega
  ·show((List.range len).map fun i=>(Z i).1).length*80<=_;simp;omega
  ·have hi':i<len:=by simpa using hi
   unfold bX;dsimp only;rw[eg i hi'];exact⟨(hZ i hi').2.1,(hZ i hi').2.2.1⟩
end
end Go.Proofs.YteebpnbdihcfmaaGreatDoor
namespace Go.Proofs.YteebpnbdihcfmaaGreatDoor
open Go.RowKit
structure aGt (m:bA) (f:aC):Prop where
 r1:1<=f.regs
 r2:f.regs<=64
 np:(f.params.length:Int)<=f.regs
 np8:f.params.length<=8
 w0:0<=f.words
 w1:f.words<=4096
 c1:1<=f.code.length
 c2:f.code.length<=1024
structure cY (m:bA) (f:aC) (x:dJ):Prop where
 op0:0<=x.op
 op1:x.op<20
 a0:0<=x.a
 a1:x.a<f.regs
 b0:0<=x.b
 b1:x.b<f.regs
 c0:0<=x.c
 c1:x.c<f.regs
 tgt:14<=x.op->x.op<=18->0<=x.n/\x.n<f.code.length
 call:x.op=19->0<=x.n/\x.n<m.funcs.length/\x.b+(bX m x.n.toNat).params.length<=f.regs
/-- a module with which nothing is wrong -/
structure aUy (m:bA):Prop where
 few:m.funcs.length<=32
 fn:∀ k,k<m.funcs.length->aGt m (bX m k)
 ins:∀ k i,k<m.funcs.length->i<(bX m k).code.length->cY m (bX m k) ((bX m k).code.getD i default)
 last:∀ k i,k<m.funcs.length->i+1=(bX m k).code.length->((bX m k).code.getD i default).op=0\/((bX m k).code.getD i default).op=14\/((bX m k).code.getD i default).op=18
theorem uL {has:Bool}{r regs:Int}(hr:1<=regs) (h:cN has r regs=0):0<=r/\r<regs:=by
 unfold cN at h;cases has<;>simp at h<;>grind
theorem aS5 {m:bA}{f:aC}{x:dJ}(hr:1<=f.regs) (h:oU m f.regs f.code.length x=0):cY m f x:=by
 unfold oU at h;have hk:dK x.op=true:=by
  cases hk:dK x.op
  ·grind
  ·rfl
 rw[hk]at h;simp only[Bool.true_eq_false,if_false]at h;unfold yG at h;have hk2:0<=x.op/\x.op<20:=by simpa[dK]using hk
 split at h
 ·grind
 ·rename_i h1;split at h
  ·grind
  ·rename_i h2;split at h
   ·grind
   ·rename_i h3;have fa:=uL hr (Decidable.not_not.1 h1);have fb:=uL hr (Decidable.not_not.1 h2);have fc:=uL hr (Decidable.not_not.1 h3);refine⟨hk2.1,hk2.2,fa.1,fa.2,fb.1,fb.2,fc.1,fc.2,fun l1 l2=>?_,fun l=>?_⟩
    ·have hn:(dM x.op.toNat).n=2:=by
      rcases(show x.op=14\/x.op=15\/x.op=16\/x.op=17\/x.op=18 by omega)with e|e|e|e|e<;>rw[e]<;>rfl
     unfold pD at h
     grind
    ·have hn:(dM x.op.toNat).n=4:=by rw[l];rfl
     unfold pD lJ at h;unfold bX
     grind
theorem nE {m:bA}(h:(dS m).e=0):aUy m:=by
 unfold dS at h;split at h
 ·simp at h
 ·split at h
  ·simp at h
  ·split at h
   ·simp at h
   ·rename_i h32;unfold eX at h;split at h
    ·rename_i f hf;have:=(mW hf).2.1
     grind
    ·rename_i hw;have hw2:=rO hw;have hwh:=fun k hk=>by simpa using hw2 k hk
     unfold eR at h;split at h
     ·rename_i f hf;have:=(mW hf).2.1
      grind
     ·rename_i hb;have hb2:=rO hb;have hbo:∀ k,k<m.funcs.length->(iM m (bX m k)).1=0:=fun k hk=>by unfold bX;simpa using hb2 k hk
      have hbody:∀ k,k<m.funcs.length->(∀ i,i<(bX m k).code.length->jK m (bX m k) i=0)/\(jS (bX m k)=0\/jS (bX m k)=14\/jS (bX m k)=18):=by
       intro k hk;have:=hbo k hk;unfold iM at this;split at this
       ·rename_i i hi;have h2:=(mW hi).2.1
        grind
       ·rename_i hi;refine⟨fun i hlt=>by simpa using rO hi i hlt,?_⟩;split at this
        ·assumption
        ·simp at this
      have hfn:∀ k,k<m.funcs.length->aGt m (bX m k):=fun k hk=>by
       have:=nK (hwh k hk);exact⟨this.2.2.2.1,this.2.2.2.2.1,this.2.2.2.2.2.1,this.2.2.1,this.2.2.2.2.2.2.1,this.2.2.2.2.2.2.2.1,this.2.2.2.2.2.2.2.2.1,this.2.2.2.2.2.2.2.2.2.1⟩
      refine⟨oz,hfn,fun k i hk hi=>aS5 (hfn k hk).r1 ((hbody k hk).1 i hi),fun k i hk hi=>?_⟩;have:=(hbody k hk).2;unfold jS at this
      grind
/-- a frame is one of the module's -/
structure aCt (m:bA) (f:PFr):Prop where
 fn:f.fn<m.funcs.length
 at0:0<=f.at_
 at1:f.at_<(bX m f.fn).code.length
 rl:(f.regs.length:Int)=(bX m f.fn).regs
 wl:(f.words.length:Int)=(bX m f.fn).words
 r64:∀ v∈f.regs,aM v
 w64:∀ v∈f.words,aM v
def aOr (f:PFr):Int×Nat:=(f.into,f.regs.length)
def aJp (l:List (Int×Nat)):Prop:=∀ i a b,l[i]? = some a->l[i+1]? = some b->0<=b.1/\b.1<a.2
theorem aJp.left {l k:List (Int×Nat)}(h:aJp (l++k)):aJp l:=fun i a b ha hb=>by
 exact h i a b (by grind) (by grind)
def xG (m:bA) (l:List PFr):Int:=(l.map fun f=>zT m f.fn).sum
structure aNl (m:bA) (s:PSt):Prop where
 rest:∀ f∈s.rest,aCt m f
 top:aCt m s.top
 links:aJp ((s.rest++[s.top]).map aOr)
 use:s.use=xG m (s.rest++[s.top])
theorem aEd {m:bA}(hm:aUy m):∀ (l:List PFr),(∀ f∈l,f.fn<m.funcs.length)->0<=xG m l/\xG m l<=4160*l.length
 | [],_=>by simp[xG]
 | f::l,h=>by
  have ih:=aEd hm l (fun g hg=>h g (by simp[hg]));have k:=hm.fn _ (h f si);have e:xG m (f::l)=zT m f.fn+xG m l:=by simp[xG]
  rw[e];unfold zT;have:=k.r1;have:=k.r2;have:=k.w0;have:=k.w1
  grind
theorem aNl.bd {m:bA}(hm:aUy m) {s:PSt}(h:aNl m s):0<=s.use/\s.use<=4160*s.rest.length+4160:=by
 have:=aEd hm (s.rest++[s.top]) (fun f hf=>by
  rcases List.mem_append.1 hf with k|k
  ·exact(h.rest f k).fn
  ·rw[List.mem_singleton.1 k];exact h.top.fn)
 rw[h.use];simp at this;omega
theorem aVs {l:List Int}(h:∀ v∈l,aM v) (i:Nat) {u:Int}(hu:aM u):∀ v∈l.set i u,aM v:=by grind
theorem jW (n:Int):aM (wrap64 n):=by unfold aM wrap64;omega
theorem aNl.keep {m:bA}{s:PSt}(h:aNl m s) {t:PFr}(ht:aCt m t) (hk:aOr t=aOr s.top) (hf:t.fn=s.top.fn):aNl m { s with top:=t }:=by
 refine⟨h.rest,ht,?_,?_⟩
 ·have:=h.links
  grind
 ·have:=h.use;simp only[xG]at this ⊢
  grind
theorem aCt.put {m:bA}{f:PFr}(h:aCt m f) (i v:Int) (hv:aM v):aCt m (f.put i v) :=
 ⟨h.fn,h.at0,h.at1,by simpa[PFr.put]using h.rl,h.wl,aVs h.r64 _ hv,h.w64⟩
theorem aCt.goto {m:bA}{f:PFr}(h:aCt m f) (n:Int) (h0:0<=n) (h1:n<(bX m f.fn).code.length):aCt m (f.goto n):=⟨h.fn,h0,h1,h.rl,h.wl,h.r64,h.w64⟩
def iE:Nat->(Nat->Nat)->Nat
 | 0,_=>0
 | n+1,f=>iE n f+f n
theorem oK {f g:Nat->Nat}:∀ n,(∀ k,k<n->f k=g k)->iE n f=iE n g
 | 0,_=>rfl
 | n+1,h=>by unfold iE;rw[oK n (fun k hk=>h k (by omega)),h n (by omega)]
theorem uQ {f:Nat->Nat}:∀ n,iE n f=0->∀ k,k<n->f k=0
 | 0,_,k,hk=>by omega
 | n+1,h,k,hk=>by
  unfold iE at h;by_cases e:k=n
  ·subst e;omega
  ·exact uQ n oz k oz
theorem uG {f:Nat->Nat}:∀ n,(∀ k,k<n->f k=0)->iE n f=0
 | 0,_=>rfl
 | n+1,h=>by unfold iE;rw[uG n (fun k hk=>h k (by omega)),h n (by omega)]
theorem kC {f g:Nat->Nat}{u:Nat}:∀ n,u<n->(∀ k,k≠u->f k=g k)->iE n f+g u=iE n g+f u
 | 0,h,_=>by omega
 | n+1,h,hk=>by
  unfold iE;by_cases e:u=n
  ·subst e;have:=oK u (fun k hk2=>hk k oz);omega
  ·have:=kC n oz hk;have:=hk n oz;omega
theorem oT {f:Nat->Nat}{m:Nat}:∀ n,(∀ k,k<n->f k<=m)->iE n f<=n*m
 | 0,_=>by simp[iE]
 | n+1,h=>by
  have:=oT n (fun k hk=>h k oz);have:=h n oz;unfold iE;rw[Nat.succ_mul];omega
theorem aCi {f g:Nat->Nat}:∀ n,(∀ k,k<n->f k<=g k)->iE n f<=iE n g
 | 0,_=>Nat.le_refl _
 | n+1,h=>by
  have:=aCi n (fun k hk=>h k oz);have:=h n oz;unfold iE;omega
theorem aJg {f g:Nat->Nat}{u:Nat}:∀ n,u<n->(∀ k,k<n->f k<=g k)->f u<g u->iE n f<iE n g
 | 0,h,_,_=>by omega
 | n+1,h,hk,hu=>by
  unfold iE;have h2:=hk n oz;by_cases e:u=n
  ·subst e;have:=aCi u (fun k hk2=>hk k oz);omega
  ·have:=aJg n oz (fun k hk2=>hk k oz) hu;omega
end Go.Proofs.YteebpnbdihcfmaaGreatDoor
