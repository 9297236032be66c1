/- Package bounds; trips -/
import Derived.Test.YteebpnbdihcfmaaGreatDoorJ14
import Derived.Lib.SliceRun
import Derived.Test.YteebpnbdihcfmaaGreatDoorJ17
set_option linter.unusedVariables false
set_option linter.unusedSimpArgs false
set_option maxRecDepth 100000
set_option maxHeartbeats 20000000
namespace Go.Proofs.YteebpnbdihcfmaaGreatDoor
open Go.RowKit
section
theorem aVx {p:Prop}(h:p:=by
 obtain⟨rfl,rfl⟩:=hcut;obtain⟨wb,hwb⟩:∃ wb:World,wb=wc:=⟨_,rfl⟩
 subst hwb;generalize hfar:(decide (to_=xn)&&decide (xn≠(frm:Int)+1))=far;have HFAR:=qd hfar;clear hfar;go_wp2;go_ret;go_light;exact⟨rfl,aG.of hb0,fun out ho=>by cases ho;exact hr0⟩):p:=h
/-- where it stands; tg: whose a block is (0: nobody's, 1 the state's, 2 to 5 the four rows', 6 + 2 v the spans' at v, 7 + 2 v the changes' at v) -/
structure yU where
 k:Nat
 ib:Nat
 ic:Nat
 cb:Nat
 cc:Nat
 mb:Nat
 mc:Nat
 jb:Nat
 jc:Nat
 iv:Nat->Option (Nat×Nat)
 cv:Nat->Nat×Nat
 tg:Nat->Nat
def jF (regs:Nat) (o:Option (Nat×Nat)):Value:=match o with|none=>.slice none 0 0|some p=>.slice (some ⟨p.1,0,none⟩) regs p.2
def mX (regs:Nat) (p:Nat×Nat):Value:=.slice (some ⟨p.1,0,none⟩) regs p.2
def yU.cells (A:yU) (n:Nat):List Value:=[.slice (some ⟨A.ib,0,none⟩) n A.ic,.slice (some ⟨A.cb,0,none⟩) n A.cc,.slice (some ⟨A.mb,0,none⟩) n A.mc,.slice (some ⟨A.jb,0,none⟩) n A.jc]
def fS (n regs:Nat) (iv:Nat->Option (Nat×Nat)):List Value:=(List.range n).map fun v=>jF regs (iv v)
def lC (n regs:Nat) (cv:Nat->Nat×Nat):List Value:=(List.range n).map fun v=>mX regs (cv v)
structure kR (N:Nat) (W:World) (A:yU) (n regs:Nat) (s:fF):Prop where
 st:aF W A.k (A.cells n)
 ri:W.ownsRow 0 39 1 (.slice (some ⟨A.ib,0,none⟩) n A.ic) n (fS n regs A.iv)
 rc:W.ownsRow 0 50 1 (.slice (some ⟨A.cb,0,none⟩) n A.cc) n (lC n regs A.cv)
 rm:W.ownsRow 0 4 1 (.slice (some ⟨A.mb,0,none⟩) n A.mc) n (bQ s.mrk)
 rj:W.ownsRow 0 3 1 (.slice (some ⟨A.jb,0,none⟩) n A.jc) n (aR s.jn)
 ei:∀ v,v<n->(A.iv v=none/\s.inn.getD v []=[])\/∃ b c,A.iv v=some (b,c)/\bF W b regs c (s.inn.getD v [])/\A.tg b=6+2*v
 ec:∀ v,v<n->W.ownsRow 0 3 1 (mX regs (A.cv v)) regs (aR (s.chg.getD v []))/\A.tg (A.cv v).1=7+2*v
 tk:A.tg A.k=1
 ti:A.tg A.ib=2
 tc:A.tg A.cb=3
 tm:A.tg A.mb=4
 tj:A.tg A.jb=5
 fr:∀ b,W.heap.size<=b->A.tg b=0
 lo:∀ b,A.tg b≠0->N<=b
 li:s.inn.length=n
 lc:s.chg.length=n
section
variable {N : Nat} {W W' : World} {A : yU} {n regs : Nat} {s : fF} {S : Nat -> Prop}
theorem kR.lm (h:kR N W A n regs s):s.mrk.length=n:=by have:=h.rm.1;simpa[bQ]using this
theorem kR.lj (h:kR N W A n regs s):s.jn.length=n:=by have:=h.rj.1;simpa[aR]using this
theorem aT {e size n b c m:Nat}{xs:List Value}(hc:aG S W W') (h:W.ownsRow 0 e size (.slice (some ⟨b,0,none⟩) n c) m xs) (hb:¬S b):W'.ownsRow 0 e size (.slice (some ⟨b,0,none⟩) n c) m xs :=
 aN hc h (fun k hk e=>hb (by have:b=k:=eL hk;subst this;exact e))
theorem zY {p:Prop}(h:p:=by
 exact⟨aT hc h1 (no _ _ h2 oz),h2⟩):p:=h
theorem aGx {p:Prop}(h:p:=by
 rcases h.ei v hv with h1|⟨b,c,h1,h2,h3⟩
 ·exact .inl h1
 ·exact .inr ⟨b,c,h1,h2.chg hc (no _ _ h3 oz),h3⟩):p:=h
/-- what others write leaves it -/
theorem kR.keep (h:kR N W A n regs s) (hc:aG S W W') (hS:∀ x,S x->A.tg x=0):kR N W' A n regs s:=by
 have no:∀ (b t:Nat),A.tg b=t->t≠0->¬S b:=by grind
 refine⟨hc.own h.st (no _ _ h.tk oz),aT hc h.ri (no _ _ h.ti oz),aT hc h.rc (no _ _ h.tc oz),aT hc h.rm (no _ _ h.tm oz),aT hc h.rj (no _ _ h.tj oz),fun v hv=>?_,fun v hv=>?_,h.tk,h.ti,h.tc,h.tm,h.tj,fun b hb=>h.fr b (Nat.le_trans hc.size hb),h.lo,h.li,h.lc⟩
 ·exact aGx
 ·obtain⟨h1,h2⟩:=h.ec v hv;exact zY
theorem kR.below (h:kR N W A n regs s) (hb:Below W.heap.size W W'):kR N W' A n regs s:=h.keep (S:=fun _=>False) (aG.of hb) (fun _ e=>e.elim)
theorem jP (W:World) (b i:Nat) (u:Value):aG (· = b) W (W.setCell ⟨b,i,none⟩ u):=aG.setCell (S:=(· = b)) (aG.refl _ _) (p:=⟨b,i,none⟩) (Or.inl rfl) _
/-- a mark is written -/
theorem kR.setM (h:kR N W A n regs s) (v:Nat) (x:Bool):kR N (W.setCell ⟨A.mb,v,none⟩ (.bool x)) A n regs { s with mrk:=s.mrk.set v x }:=by
 have hc:=jP W A.mb v (.bool x);have no:∀ (b t:Nat),A.tg b=t->t≠4->¬(b=A.mb):=fun b t hb ht e=>ht (by rw[<-hb,e,h.tm]);have hm:=cH h.rm v (.bool x);have e:(bQ s.mrk).set v (.bool x)=bQ (s.mrk.set v x):=by simp[bQ]
 rw[e]at hm;refine⟨hc.own h.st (no _ _ h.tk oz),aT hc h.ri (no _ _ h.ti oz),aT hc h.rc (no _ _ h.tc oz),hm,aT hc h.rj (no _ _ h.tj oz),fun v hv=>?_,fun v hv=>?_,h.tk,h.ti,h.tc,h.tm,h.tj,fun b hb=>h.fr b (Nat.le_trans hc.size hb),h.lo,h.li,h.lc⟩
 ·exact aGx
 ·obtain⟨h1,h2⟩:=h.ec v hv;exact zY
/-- how often something came is written -/
theorem kR.setJ (h:kR N W A n regs s) (v:Nat) (x:Int):kR N (W.setCell ⟨A.jb,v,none⟩ (.int .i64 x)) A n regs { s with jn:=s.jn.set v x }:=by
 have hc:=jP W A.jb v (.int .i64 x);have no:∀ (b t:Nat),A.tg b=t->t≠5->¬(b=A.jb):=fun b t hb ht e=>ht (by rw[<-hb,e,h.tj]);have hm:=cH h.rj v (.int .i64 x);have e:(aR s.jn).set v (.int .i64 x)=aR (s.jn.set v x):=by simp[aR]
 rw[e]at hm;refine⟨hc.own h.st (no _ _ h.tk oz),aT hc h.ri (no _ _ h.ti oz),aT hc h.rc (no _ _ h.tc oz),aT hc h.rm (no _ _ h.tm oz),hm,fun v hv=>?_,fun v hv=>?_,h.tk,h.ti,h.tc,h.tm,h.tj,fun b hb=>h.fr b (Nat.le_trans hc.size hb),h.lo,h.li,h.lc⟩
 ·exact aGx
 ·obtain⟨h1,h2⟩:=h.ec v hv;exact zY
theorem aQu {p:Prop}(h:p:=by
 rcases h.ei u hu with h1|⟨b,c,h1,h2,h3⟩
 ·exact .inl h1
 ·exact .inr ⟨b,c,h1,h2.chg hc (no _ _ h3 oz),h3⟩):p:=h
/-- a register's changes are written -/
theorem kR.setC (h:kR N W A n regs s) {v:Nat}(hv:v<n) (i:Nat) (x:Int):kR N (W.setCell ⟨(A.cv v).1,i,none⟩ (.int .i64 x)) A n regs { s with chg:=s.chg.set v ((s.chg.getD v []).set i x) }:=by
 have hc:=jP W (A.cv v).1 i (.int .i64 x);have hlc:=h.lc;obtain⟨hrow,htag⟩:=h.ec v hv;have no:∀ (b t:Nat),A.tg b=t->t≠7+2*v->¬(b=(A.cv v).1):=by grind
 have hm:=cH hrow i (.int .i64 x);have e:(aR (s.chg.getD v [])).set i (.int .i64 x)=aR ((s.chg.getD v []).set i x):=by simp[aR]
 rw[e]at hm;refine⟨hc.own h.st (no _ _ h.tk oz),aT hc h.ri (no _ _ h.ti oz),aT hc h.rc (no _ _ h.tc oz),aT hc h.rm (no _ _ h.tm oz),aT hc h.rj (no _ _ h.tj oz),fun u hu=>?_,fun u hu=>?_,h.tk,h.ti,h.tc,h.tm,h.tj,fun b hb=>h.fr b (Nat.le_trans hc.size hb),h.lo,h.li,by simpa using hlc⟩
 ·exact aQu
 ·dsimp only;by_cases e:u=v
  ·subst e;rw[bP _ _ _ _ _ (by omega),if_pos rfl];exact⟨hm,htag⟩
  ·rw[bP _ _ _ _ _ (by omega),if_neg e];obtain⟨h1,h2⟩:=h.ec u hu;exact zY
/-- a register's span is written -/
theorem kR.setS (h:kR N W A n regs s) {v:Nat}(hv:v<n) {b c:Nat}(hb:A.iv v=some (b,c)) {i:Nat}(hi:i<regs) (p:aB):kR N ((W.setCell ⟨b,i*2,none⟩ (.int .i64 p.lo)).setCell ⟨b,i*2+1,none⟩ (.int .i64 p.hi)) A n regs { s with inn:=s.inn.set v ((s.inn.getD v []).set i p) }:=by
 have hc:=jX W b (i*2) (i*2+1) (.int .i64 p.lo) (.int .i64 p.hi);have hli:=h.li;obtain⟨hrow,htag⟩:bF W b regs c (s.inn.getD v [])/\A.tg b=6+2*v:=by
  rcases h.ei v hv with⟨h1,_⟩|⟨b',c',h1,h2,h3⟩
  ·grind
  ·grind
 have no:∀ (x t:Nat),A.tg x=t->t≠6+2*v->¬(x=b):=by grind
 have hm:=hrow.set hi p;refine⟨hc.own h.st (no _ _ h.tk oz),aT hc h.ri (no _ _ h.ti oz),aT hc h.rc (no _ _ h.tc oz),aT hc h.rm (no _ _ h.tm oz),aT hc h.rj (no _ _ h.tj oz),fun u hu=>?_,fun u hu=>?_,h.tk,h.ti,h.tc,h.tm,h.tj,fun b hb=>h.fr b (Nat.le_trans hc.size hb),h.lo,by simpa using hli,h.lc⟩
 ·dsimp only;by_cases e:u=v
  ·grind
  ·rw[bP _ _ _ _ _ (by omega),if_neg e];exact aQu
 ·obtain⟨h1,h2⟩:=h.ec u hu;exact zY
def cV {α:Type}(g:Nat->α) (i:Nat) (x:α):Nat->α:=fun j=>if j=i then x else g j
theorem cD {α:Type}(g:Nat->α) (i:Nat) (x:α):cV g i x i=x:=if_pos rfl
theorem bN {α:Type}(g:Nat->α) {i j:Nat}(x:α) (h:j≠i):cV g i x j=g j:=if_neg h
theorem aGa (n regs:Nat) (iv:Nat->Option (Nat×Nat)) (v:Nat) (o:Option (Nat×Nat)):(fS n regs iv).set v (jF regs o)=fS n regs (cV iv v o):=by
 unfold fS;apply List.ext_getElem?;intro i;by_cases e:i=v
 ·subst e;by_cases h:i<n
  ·rw[List.getElem?_set_self (by grind)];simp[h,cV]
  ·grind
 ·rw[List.getElem?_set_ne (by omega)];by_cases h:i<n
  ·rw[List.getElem?_map,List.getElem?_map,List.getElem?_range h];simp[cV,e]
  ·grind
theorem aNq {p:Prop}(h:p:=by
 have h3:W.heap.size<=x:=Nat.le_trans hc.size hx;dsimp only;rw[bN _ _ (by omega)];exact h.fr x h3):p:=h
/-- the spans at an instruction at which nothing stood -/
theorem kR.setI (h:kR N W A n regs s) {v:Nat}(hv:v<n) {b c:Nat}{next:List aB}(hr:bF W b regs c next) (hb:A.tg b=0) (hN:N<=b):kR N (W.setCell ⟨A.ib,v,none⟩ (.slice (some ⟨b,0,none⟩) regs c)) { A with iv:=cV A.iv v (some (b,c)),tg:=cV A.tg b (6+2*v) } n regs { s with inn:=s.inn.set v next }:=by
 have hc:=jP W A.ib v (.slice (some ⟨b,0,none⟩) regs c);have hli:=h.li;have no:∀ (x t:Nat),A.tg x=t->t≠2->¬(x=A.ib):=fun x t hx ht e=>ht (by rw[<-hx,e,h.ti]);have tn:∀ (x t:Nat),A.tg x=t->t≠0->cV A.tg b (6+2*v) x=t:=fun x t hx ht=>by rw[bN _ _ (fun e=>ht (by grind)),hx]
 have hm:=cH h.ri v (.slice (some ⟨b,0,none⟩) regs c);have e:=aGa n regs A.iv v (some (b,c));rw[show jF regs (some (b,c))=.slice (some ⟨b,0,none⟩) regs c from rfl]at e;rw[e]at hm;have hbl:=hr.lt;refine⟨hc.own h.st (no _ _ h.tk oz),hm,aT hc h.rc (no _ _ h.tc oz),aT hc h.rm (no _ _ h.tm oz),aT hc h.rj (no _ _ h.tj oz),fun u hu=>?_,fun u hu=>?_,tn _ _ h.tk oz,tn _ _ h.ti oz,tn _ _ h.tc oz,tn _ _ h.tm oz,tn _ _ h.tj oz,fun x hx=>?_,fun x hx=>?_,by simpa using hli,h.lc⟩
 ·dsimp only;by_cases e:u=v
  ·subst e;rw[bP _ _ _ _ _ (by omega),if_pos rfl,cD];exact .inr ⟨b,c,rfl,hr.chg hc (no _ _ hb oz),cD _ _ _⟩
  ·rw[bP _ _ _ _ _ (by omega),if_neg e,bN _ _ e];rcases h.ei u hu with h1|⟨b',c',h1,h2,h3⟩
   ·exact .inl h1
   ·exact .inr ⟨b',c',h1,h2.chg hc (no _ _ h3 oz),tn _ _ h3 oz⟩
 ·obtain⟨h1,h2⟩:=h.ec u hu;exact⟨aT hc h1 (no _ _ h2 oz),tn _ _ h2 oz⟩
 ·exact aNq
 ·dsimp only at hx;by_cases e:x=b
  ·grind
  ·rw[bN _ _ e]at hx;exact h.lo x hx
theorem aP1 {p:Prop}(h:p:=by
 rw[List.getElem?_map,List.getD_eq_getElem?_getD,List.getElem?_eq_getElem (by omega)];rfl):p:=h
/-- as it is read -/
theorem kR.rd (h:kR N W A n regs s) {v:Nat}(hv:v<n):W.cell? ⟨A.ib,v,none⟩=some (jF regs (A.iv v))/\W.cell? ⟨A.cb,v,none⟩=some (mX regs (A.cv v))/\W.cell? ⟨A.mb,v,none⟩=some (.bool (s.mrk.getD v false))/\W.cell? ⟨A.jb,v,none⟩=some (.int .i64 (s.jn.getD v 0)):=by
 have hm:=h.lm;have hj:=h.lj;refine⟨aH h.ri (by simp[fS,hv]),aH h.rc (by simp[lC,hv]),aH h.rm ?_,aH h.rj ?_⟩
 ·unfold bQ;exact aP1
 ·unfold aR;exact aP1
theorem kR.fz (h:kR N W A n regs s) (v:Nat):W.frozen? ⟨A.ib,v,none⟩=false/\W.frozen? ⟨A.mb,v,none⟩=false/\W.frozen? ⟨A.jb,v,none⟩=false:=⟨h.ri.frozenAt _,h.rm.frozenAt _,h.rj.frozenAt _⟩
theorem kR.rdC (h:kR N W A n regs s) {v:Nat}(hv:v<n) {i:Nat}(hi:i<regs):W.cell? ⟨(A.cv v).1,i,none⟩=some (.int .i64 ((s.chg.getD v []).getD i 0))/\W.frozen? ⟨(A.cv v).1,i,none⟩=false:=by
 obtain⟨h1,_⟩:=h.ec v hv;have:(s.chg.getD v []).length=regs:=by have:=h1.1;simpa[aR]using this
 refine⟨aH h1 ?_,h1.frozenAt _⟩;unfold aR;rw[List.getElem?_map,List.getD_eq_getElem?_getD (l:=s.chg.getD v []),List.getElem?_eq_getElem (by omega)];rfl
theorem kR.rdS (h:kR N W A n regs s) {v:Nat}(hv:v<n) {b c:Nat}(hb:A.iv v=some (b,c)):bF W b regs c (s.inn.getD v [])/\A.tg b=6+2*v:=by
 rcases h.ei v hv with⟨h1,_⟩|⟨b',c',h1,h2,h3⟩
 ·grind
 ·grind
end
end
section
def eW (old next:List aB) (c:List Int) (j:Nat):List Int:=(List.range c.length).map fun i=>if i<j/\lE (old.getD i default) (next.getD i default)=true then wrap64 (c.getD i 0+1)else c.getD i 0
def lO (old next:List aB) (j:Nat):Bool:=(List.range j).any fun i=>lE (old.getD i default) (next.getD i default)
def iO (thr:List Int) (jv:Int) (old next:List aB) (j:Nat):List aB:=(List.range old.length).map fun i=>if i<j then gR thr jv (old.getD i default) (next.getD i default)else old.getD i default
theorem aAl {α:Type}(l:List α) (d:α):(List.range l.length).map (fun i=>l.getD i d)=l:=by
 apply List.ext_getElem?;intro i;by_cases h:i<l.length
 ·simp[h,List.getD_eq_getElem?_getD]
 ·simp[h]
theorem sH (old next:List aB) (c:List Int):eW old next c 0=c:=by
 unfold eW;simp only[Nat.not_lt_zero,false_and,if_false];exact aAl c 0
theorem aAz (thr:List Int) (jv:Int) (old next:List aB):iO thr jv old next 0=old:=by
 unfold iO;simp only[Nat.not_lt_zero,if_false];exact aAl old default
theorem aLd (old next:List aB) (c:List Int) (j:Nat):(eW old next c j).length=c.length:=by simp[eW]
theorem aMr (thr:List Int) (jv:Int) (old next:List aB) (j:Nat):(iO thr jv old next j).length=old.length:=by simp[iO]
theorem aFe (old next:List aB) (c:List Int) {j:Nat}(hj:j<c.length):(eW old next c j).getD j 0=c.getD j 0:=by
 unfold eW;rw[qT _ _ _ _ hj,if_neg (by omega)]
theorem aFl (thr:List Int) (jv:Int) (old next:List aB) {j:Nat}(hj:j<old.length):(iO thr jv old next j).getD j default=old.getD j default:=by
 unfold iO;rw[qT _ _ _ _ hj,if_neg (by omega)]
theorem aHm {p:Prop}(h:p:=by
 rw[List.getElem?_eq_none (by simp;omega),List.getElem?_eq_none (by simp;omega)]):p:=h
theorem aPa {p:Prop}(h:p:=by
 rw[List.getElem?_map,List.getElem?_map,List.getElem?_range h];simp only[Option.map_some];have:(i<j+1)↔i<j:=oz
 simp only[this]):p:=h
theorem aCh (old next:List aB) (c:List Int) {j:Nat}(hj:j<c.length) (hg:lE (old.getD j default) (next.getD j default)=true):eW old next c (j+1)=(eW old next c j).set j (wrap64 (c.getD j 0+1)):=by
 apply List.ext_getElem?;intro i;by_cases e:i=j
 ·subst e;rw[List.getElem?_set_self (by rw[aLd];exact hj)];unfold eW;rw[List.getElem?_map,List.getElem?_range hj];simp only[Option.map_some];rw[if_pos ⟨by omega,hg⟩]
 ·rw[List.getElem?_set_ne (by omega)];unfold eW;by_cases h:i<c.length
  ·exact aPa
  ·exact aHm
theorem aAo (old next:List aB) (c:List Int) {j:Nat}(hg:lE (old.getD j default) (next.getD j default)=false):eW old next c (j+1)=eW old next c j:=by
 unfold eW;apply List.map_congr_left;intro i _;by_cases e:i=j
 ·subst e;rw[if_neg (fun h=>by rw[hg]at h;exact absurd h.2 (by decide)),if_neg (fun h=>by omega)]
 ·have:(i<j+1)↔i<j:=oz
  simp only[this]
theorem pV (old next:List aB) (j:Nat):lO old next (j+1)=(lO old next j||lE (old.getD j default) (next.getD j default)):=by
 unfold lO;rw[List.range_succ,List.any_append];simp
theorem sB (old next:List aB) (c:List Int):∀ j:Nat,lO old next j=false->eW old next c j=c
 | 0,_=>sH old next c
 | j+1,h=>by
  rw[pV,Bool.or_eq_false_iff]at h;rw[aAo old next c h.2];exact sB old next c j h.1
theorem yY (thr:List Int) (jv:Int) (old next:List aB) {j:Nat}(hj:j<old.length):iO thr jv old next (j+1)=(iO thr jv old next j).set j (gR thr jv (old.getD j default) (next.getD j default)):=by
 apply List.ext_getElem?;intro i;by_cases e:i=j
 ·subst e;rw[List.getElem?_set_self (by rw[aMr];exact hj)];unfold iO;rw[List.getElem?_map,List.getElem?_range hj];simp only[Option.map_some];rw[if_pos (by omega)]
 ·rw[List.getElem?_set_ne (by omega)];unfold iO;by_cases h:i<old.length
  ·exact aPa
  ·exact aHm
theorem aCc (thr:List Int) (jv:Int) (old next:List aB):iO thr jv old next old.length=fX thr jv old next:=by
 unfold iO fX;apply List.map_congr_left;intro i hi;rw[if_pos (List.mem_range.1 hi)]
section
variable {N : Nat} {W : World} {A : yU} {n regs : Nat} {s : fF}
theorem aNc {p:Prop}(h:p:=by
 dsimp only at h1 hl;rw[List.length_set]at hl;rw[bP _ _ _ _ _ (by omega),if_pos rfl,List.set_set]at h1;exact h1):p:=h
theorem kR.setC2 {v:Nat}{L:List Int}(h:kR N W A n regs { s with chg:=s.chg.set v L }) (hv:v<n) (i:Nat) (x:Int):kR N (W.setCell ⟨(A.cv v).1,i,none⟩ (.int .i64 x)) A n regs { s with chg:=s.chg.set v (L.set i x) }:=by
 have h1:=h.setC hv i x;have hl:=h.lc;exact aNc
theorem kR.setS2 {v:Nat}{L:List aB}(h:kR N W A n regs { s with inn:=s.inn.set v L }) (hv:v<n) {b c:Nat}(hb:A.iv v=some (b,c)) {i:Nat}(hi:i<regs) (p:aB):kR N ((W.setCell ⟨b,i*2,none⟩ (.int .i64 p.lo)).setCell ⟨b,i*2+1,none⟩ (.int .i64 p.hi)) A n regs { s with inn:=s.inn.set v (L.set i p) }:=by
 have h1:=h.setS hv hb hi p;have hl:=h.li;exact aNc
theorem aAk {α:Type}(l:List α) (i:Nat) (d:α):l.set i (l.getD i d)=l:=by
 apply List.ext_getElem?;intro j;by_cases e:j=i
 ·subst e;by_cases h:j<l.length
  ·rw[List.getElem?_set_self h,List.getD_eq_getElem?_getD,List.getElem?_eq_getElem h];rfl
  ·rw[List.set_eq_of_length_le (by omega)]
 ·rw[List.getElem?_set_ne (by omega)]
end
end
theorem xX (a b:aB) (w:World):Calls Tryz.prog 19 #[.agg #[.int .i64 a.lo,.int .i64 a.hi],.agg #[.int .i64 b.lo,.int .i64 b.hi]] w fun e w'=>e=.returned (.agg #[.int .i64 (cJ a b).lo,.int .i64 (cJ a b).hi])/\Below w.heap.size w w':=vI a b w
theorem aMw (a b:aB) (thr:List Int) (ta:Option Addr) (tl tc:Nat) (w:World) (ha:a.lo<=a.hi) (hb:b.lo<=b.hi) (ht:cI w.heap.size w ta tl thr):Calls Tryz.prog 90 #[.agg #[.int .i64 a.lo,.int .i64 a.hi],.agg #[.int .i64 b.lo,.int .i64 b.hi],.slice ta tl tc] w fun e w'=>e=.returned (.agg #[.int .i64 (gY a b thr).lo,.int .i64 (gY a b thr).hi])/\Below w.heap.size w w':=aHu a b thr ta tl tc w ha hb ht
theorem cI.monoB {B B':Nat}{w:World}{a:Option Addr}{n:Nat}{zs:List Int}(h:cI B w a n zs) (hB:B<=B'):cI B' w a n zs:=by
 obtain⟨h1,h2,b,o,h3,h4⟩:=h;exact⟨h1,h2,b,o,fun h0=>⟨(h3 h0).1,by have:=(h3 h0).2;omega⟩,h4⟩
/-- what merge leaves -/
def aBs (N:Nat) (A:yU) (n regs b:Nat) (s':fF) (w:World) (e:Ending) (w':World):Prop:=e=.returned (.tuple #[])/\∃ iv tg,kR N w' { A with iv:=iv,tg:=tg } n regs s'/\aG (fun x=>A.tg x≠0) w w'/\∀ x,x≠b->tg x=A.tg x
theorem aTw {p:Prop}(h:p:=by
 repeat(refine aU (fun K hK=>?_);go_simp;refine hK _ ?_;clear hK K)
 refine gX (fun t=>?_);have hft:=hF t;go_wp2;refine⟨⟨k+1,oz,si,qd (by rw[HST.out];exact(H.out.below hft).setS2 htt HIV.out hkt ⟨jlo,jhi⟩),qd ((HR.out.below hft).chg (jX _ _ _ _ _ _) (fun e=>hobb e.symm)),(HC.out.trans (aG.of hft)).trans (aG.setCell (aG.setCell (aG.refl _ _) (.inl hos) _) (.inl hos) _)⟩,?_⟩;go_light;exact ml):p:=h
theorem aKg (N:Nat) (A:yU) (n regs:Nat) (s:fF) (thr:List Int) (ta:Option Addr) (tl tc tt b c:Nat) (next:List aB) (w:World) (h:kR N w A n regs s) (hr:bF w b regs c next) (htt:tt<n) (hb:A.tg b=0) (hN:N<=b) (hNw:N<=w.heap.size) (ht:cI N w ta tl thr) (hok:rC n regs s) (hnx:gU regs next) (hg0:0<regs) (hg:regs<=64) (hn:n<=1024) :
 Calls Tryz.prog 48 #[.pointer (some ⟨A.k,0,none⟩),.int .i64 tt,.slice (some ⟨b,0,none⟩) regs c,.slice ta tl tc] w (aBs N A n regs b (cM thr s tt next) w):=by
 have hnil:∀ (w:World) (a:Option Addr) (n c:Nat),(binOp .eql 39 (.slice a n c) (.slice none 0 0)).run Tryz.prog w=.ok (.bool a.isNone) w:=fun w a n c=>Lib.run_eql_slice_nil w _ 47 a n c 0 0 kr;have H:=qd h;have HR:=qd hr;obtain⟨s0,s1,s2,s3,s4,s5,s6,s7,s8⟩:=hU h.st;obtain⟨r0,r1,r2,r3⟩:=h.rd htt;obtain⟨z0,z1,z2⟩:=h.fz tt;have htn:(tt:Int)<(n:Int):=oz
 have hne1:A.mb≠A.ib:=fun e=>by have h1:=h.tm;rw[e,h.ti]at h1;omega
 have hne2:A.mb≠A.k:=fun e=>by have h1:=h.tm;rw[e,h.tk]at h1;omega
 have hne3:A.ib≠A.k:=fun e=>by have h1:=h.ti;rw[e,h.tk]at h1;omega
 rcases h.ei tt htt with⟨i1,i2⟩|⟨ob,oc,i1,i2,i3⟩
 ·have hm:cM thr s tt next={ s with inn:=s.inn.set tt next,mrk:=s.mrk.set tt true }:=by unfold cM;rw[if_pos i2]
  rw[hm];rw[i1]at r0;unfold jF at r0;dsimp only at r0;go_enter Tryz.func48,Tryz.ntmps48;go_upto_region 2 with(fail)
  go_region
  all_goals go_wp2
  go_end0
  go_light;have h9:=((h.below ((Below.refl _ w).drew)).setI htt (hr.below ((Below.refl _ w).drew)) hb hN).setM tt true;refine⟨rfl,_,_,h9,?_,fun x hx=>bN _ _ hx⟩;refine aG.setCell (aG.setCell (aG.refl _ _).drew (.inl ?_) _) (.inl ?_) _
  ·show A.tg A.ib≠0;rw[h.ti];decide
  ·show A.tg A.mb≠0;rw[h.tm];decide
 ·have hol:(s.inn.getD tt []).length=regs:=i2.len;have hne:s.inn.getD tt []≠[]:=fun e=>by rw[e]at hol;simp at hol;omega
  have hOk:gU regs (s.inn.getD tt []):=by
   rcases hok.inn tt htt with h0|h0
   ·exact absurd h0 hne
   ·exact h0
  have hcl:(s.chg.getD tt []).length=regs:=hok.chg tt htt;have hm:cM thr s tt next=if lO (s.inn.getD tt []) next regs then { inn:=s.inn.set tt (iO thr (nI s tt) (s.inn.getD tt []) next regs),chg:=s.chg.set tt (eW (s.inn.getD tt []) next (s.chg.getD tt []) regs),mrk:=s.mrk.set tt true,jn:=s.jn.set tt (nI s tt) } else s:=by
   unfold cM;rw[if_neg hne];have e1:qI (s.inn.getD tt []) next=lO (s.inn.getD tt []) next regs:=by rw[<-hol];rfl
   have e2:iO thr (nI s tt) (s.inn.getD tt []) next regs=fX thr (nI s tt) (s.inn.getD tt []) next:=by rw[<-hol];exact aCc _ _ _ _
   have e3:eW (s.inn.getD tt []) next (s.chg.getD tt []) regs=uE (s.inn.getD tt []) next (s.chg.getD tt []):=by rw[<-hol];rfl
   rw[e1,e2,e3]
  obtain⟨RES,hRES⟩:∃ q,q=cM thr s tt next:=⟨_,rfl⟩
  rw[<-hRES];have HRES:=qd (hRES.trans hm);clear hRES hm;rw[i1]at r0;unfold jF at r0;dsimp only at r0;have hs0:{ s with chg:=s.chg.set tt (eW (s.inn.getD tt []) next (s.chg.getD tt []) 0) }=s:=by
   rw[sH,aAk]
  have H0:Hid (kR N w A n regs { s with chg:=s.chg.set tt (eW (s.inn.getD tt []) next (s.chg.getD tt []) 0) }):=qd (by rw[hs0];exact h);have HOL:=qd hOk;have HNX:=qd hnx;have HT:=qd ht;have HIV:=qd i1;have htgo:=i3;clear h hr hs0 hnx ht hok i2 hOk;generalize hold:s.inn.getD tt []=old at *;generalize hch:s.chg.getD tt []=ch at *;go_enter Tryz.func48,Tryz.ntmps48;go_wp2;go_loopw [9,38] (fun v9 i wr=>∃ j:Nat,j<=regs/\i=.int .i64 j/\v9=.bool (lO old next j)/\Hid (kR N wr A n regs { s with chg:=s.chg.set tt (eW old next ch j) })/\Hid (bF wr b regs c next)/\aG (fun x=>A.tg x≠0) w wr) (fun _ i _=>regs-(intOf i).toNat)
  case atStart=>exact⟨0,Nat.zero_le _,rfl,rfl,H0,HR,aG.refl _ _⟩
  case round =>
   clear H0 H HR s0 s1 s2 s3 s4 s5 s6 s7 s8 r0 r1 r2 r3 z0 z1 z2;obtain⟨j,hj,rfl,rfl,H,HR,hC⟩:=hrel;have hzr:=hC.size;obtain⟨s0,s1,s2,s3,s4,s5,s6,s7,s8⟩:=hU H.out.st;obtain⟨r0,r1,r2,r3⟩:=H.out.rd htt;unfold mX at r1;by_cases hjt:j<regs
   ·have d3:(j:Int)<(regs:Int):=oz
    have hwj:IntKind.i64.wrap ((j:Int)+1)=(j:Int)+1:=IntWalk.i64_in _ oz;obtain⟨oR,-⟩:=H.out.rdS htt HIV.out;dsimp only at oR;rw[hold]at oR;obtain⟨o0,o1,-,-⟩:=oR.cells hjt;obtain⟨n0,n1,-,-⟩:=HR.out.cells hjt;obtain⟨c0,c1⟩:=H.out.rdC htt hjt;have hce:(({ s with chg:=s.chg.set tt (eW old next ch j) }:fF).chg.getD tt []).getD j 0=ch.getD j 0:=by
     dsimp only;rw[bP _ _ _ _ _ (by have:=H.out.lc;dsimp only at this;rw[List.length_set]at this;omega),if_pos rfl];exact aFe old next ch oz
    rw[hce]at c0;have hcvb:(A.cv tt).1≠b:=fun e=>by have:=(H.out.ec tt htt).2;rw[e,hb]at this;omega
    have hcvt:A.tg (A.cv tt).1≠0:=by rw[(H.out.ec tt htt).2];omega
    have hoL:=oR.lt;have hnL:=HR.out.lt;have hcbL:=bJ H.out.rc;have hcvL:(A.cv tt).1<wr.heap.size:=cA (H.out.ec tt htt).1 rfl;have HJ:=qd (fun w=>xX (old.getD j default) (next.getD j default) w);have hgr:lE (old.getD j default) (next.getD j default) = !(decide ((cJ (old.getD j default) (next.getD j default)).lo=(old.getD j default).lo)&&decide ((cJ (old.getD j default) (next.getD j default)).hi=(old.getD j default).hi)):=rfl;have hcy:=qd (fun h=>aCh old next ch (j:=j) oz h);have hcn:=qd (fun h=>aAo old next ch (j:=j) h);have hsm:=pV old next j
    obtain⟨cj,hcj⟩:∃ x,ch.getD j 0=x:=⟨_,rfl⟩
    rw[hcj]at c0 hcy;clear hcj;have HC:=qd hC;clear oR hce;generalize cJ (old.getD j default) (next.getD j default)=jo at *;generalize lE (old.getD j default) (next.getD j default)=gr at *;obtain⟨jlo,jhi⟩:=jo;generalize old.getD j default=po at *;generalize next.getD j default=pn at *;obtain⟨olo,ohi⟩:=po;obtain⟨nlo,nhi⟩:=pn;dsimp only at o0 o1 n0 n1 HJ hgr;cases gr
    case false =>
     have hgr2:jlo=olo/\jhi=ohi:=by simpa using hgr.symm
     obtain⟨rfl,rfl⟩:=hgr2;have hcn2:=hcn.out rfl;rw[Bool.or_false]at hsm;have HCN:=qd hcn2;have HSM:=qd hsm;clear hcn hcy hgr hcn2 hsm;go_upto_region 7 with(fail)
     refine bI 13 kr kr (fun T F hF hall=>?_);simp only[TD];have hFc:=fun t=>(bT (hF t)).1;have hFf:=fun t=>(bT (hF t)).2;have hFs:=fun t=>(hF t).size;have hNE:Nonempty T:=(hall _ (Below.refl _ _)).elim fun t _=>⟨t⟩;repeat(refine aU (fun K hK=>?_);go_simp;refine hK _ ?_;clear hK K)
     (refine aU (fun K hK=>?_);go_simp;refine⟨_,fun t=>bE (hF t) hall (HJ.out (F t)),hK _ ?_⟩;clear hK K)
     repeat(refine aU (fun K hK=>?_);go_simp;refine hK _ ?_;clear hK K)
     refine gX (fun t=>?_);have hft:=hF t;go_wp2;refine⟨⟨j+1,oz,si,by rw[HSM.out],qd (by rw[HCN.out];exact H.out.below hft),qd (HR.out.below hft),HC.out.trans (aG.of hft)⟩,?_⟩;go_light;exact ml
    case true =>
     have hgr2:¬(jlo=olo/\jhi=ohi):=fun⟨e1,e2⟩=>by subst e1;subst e2;simp at hgr
     have hcy2:=hcy.out rfl;rw[Bool.or_true]at hsm;have HCN:=qd hcy2;have HSM:=qd hsm;clear hcn hcy hgr hcy2 hsm;go_upto_region 7 with(fail)
     refine bI 13 kr kr (fun T F hF hall=>?_);simp only[TD];have hFc:=fun t=>(bT (hF t)).1;have hFf:=fun t=>(bT (hF t)).2;have hFs:=fun t=>(hF t).size;have hNE:Nonempty T:=(hall _ (Below.refl _ _)).elim fun t _=>⟨t⟩;repeat(refine aU (fun K hK=>?_);go_simp;refine hK _ ?_;clear hK K)
     (refine aU (fun K hK=>?_);go_simp;refine⟨_,fun t=>bE (hF t) hall (HJ.out (F t)),hK _ ?_⟩;clear hK K)
     repeat(refine aU (fun K hK=>?_);go_simp;refine hK _ ?_;clear hK K)
     refine gX (fun t=>?_);have hft:=hF t;go_wp2
     all_goals refine⟨⟨j+1,oz,si,by rw[HSM.out],qd (by rw[HCN.out];exact(H.out.below hft).setC2 htt j _),qd ((HR.out.below hft).chg (jP _ _ _ _) (fun e=>hcvb e.symm)),(HC.out.trans (aG.of hft)).trans (aG.setCell (aG.refl _ _) (.inl hcvt) _)⟩,?_⟩
     all_goals go_light
     all_goals first|omega|(simp only[intOf];omega)
   ·have hjj:j=regs:=oz
    subst hjj;have d3:¬(j:Int)<(j:Int):=oz
    cases hsr:lO old next j
    ·have hres:RES=s:=by rw[HRES.out,hsr];rfl
     have hce:=sB old next ch j hsr
     have hs1:({ s with chg:=s.chg.set tt (eW old next ch j) }:fF)=s:=by
      rw[hce,<-hch,aAk]
     have HS1:=qd hs1;have HRE:=qd hres;clear hs1 hres hce;go_wp2
     go_end0
     go_light;refine⟨rfl,A.iv,A.tg,?_,hC,fun x _=>rfl⟩;rw[HRE.out];have h9:=H.out;rw[HS1.out]at h9;exact h9
    ·have hjbt:A.tg A.jb≠0:=by rw[H.out.tj];decide
     have hjbb:A.jb≠b:=fun e=>by have:=H.out.tj;rw[e,hb]at this;omega
     have hjL:=bJ H.out.rj;obtain⟨jv0,hjv0⟩:∃ x,s.jn.getD tt 0=x:=⟨_,rfl⟩
     have hjv:nI s tt=wrap64 (jv0+1):=by unfold nI;rw[hjv0]
     dsimp only at r3;rw[hjv0]at r3;obtain⟨jv,hjw⟩:∃ x,wrap64 (jv0+1)=x:=⟨_,rfl⟩
     have hjw':IntKind.i64.wrap (jv0+1)=jv:=by rw[<-oG];exact hjw
     have hlj:=H.out.lj;dsimp only at hlj;have h2:=H.out.setJ tt jv;obtain⟨q2,hs2⟩:∃ q:fF,q=⟨s.inn,s.chg.set tt (eW old next ch j),s.mrk,s.jn.set tt jv⟩:=⟨_,rfl⟩
     have h2':kR N (wr.setCell ⟨A.jb,tt,none⟩ (.int .i64 jv)) A n j q2:=by rw[hs2];exact h2
     have hs2i:q2.inn=s.inn:=by rw[hs2]
     have hs2j:q2.jn.getD tt 0=jv:=by rw[hs2];dsimp only;rw[bP _ _ _ _ _ (by omega),if_pos rfl]
     have hs20:({ q2 with inn:=q2.inn.set tt (iO thr jv old next 0) }:fF)=q2:=by
      rw[aAz,hs2i,<-hold,aAk,<-hs2i]
     have hres:RES=⟨q2.inn.set tt (iO thr jv old next j),q2.chg,q2.mrk.set tt true,q2.jn⟩:=by
      rw[HRES.out,hsr,if_pos rfl,hjv,hjw,hs2]
     have HRE:=qd hres;have H2:Hid (kR N (wr.setCell ⟨A.jb,tt,none⟩ (.int .i64 jv)) A n j { q2 with inn:=q2.inn.set tt (iO thr jv old next 0) }):=qd (by rw[hs20];exact h2');have HR2:=qd (HR.out.chg (jP wr A.jb tt (.int .i64 jv)) (fun e=>hjbb e.symm));have hC2:aG (fun x=>A.tg x≠0) w (wr.setCell ⟨A.jb,tt,none⟩ (.int .i64 jv)):=hC.trans (aG.setCell (aG.refl _ _) (.inl hjbt) _);have HSJ:=qd hs2j;have HSI:=qd hs2i;clear h2 h2' hs20 hres HRES hs2 hs2i hs2j hjv hjw hjv0 hlj;obtain⟨wA,hwA⟩:∃ wA:World,wA=wr:=⟨_,rfl⟩
     subst hwA;obtain⟨-,-,z2⟩:=H.out.fz tt;go_wp2;go_loopw [82] (fun i wr=>∃ k:Nat,k<=j/\i=.int .i64 k/\Hid (kR N wr A n j { q2 with inn:=q2.inn.set tt (iO thr jv old next k) })/\Hid (bF wr b j c next)/\aG (fun x=>A.tg x≠0) w wr) (fun i _=>j-(intOf i).toNat)
     case atStart=>exact⟨0,Nat.zero_le _,rfl,H2,HR2,hC2⟩
     case round =>
      clear H2 H HR HR2 hC hC2 s0 s1 s2 s3 s4 s5 s6 s7 s8 r0 r1 r2 r3 z2 hjL hzr;obtain⟨k,hk,rfl,H,HR,hC⟩:=hrel;have hzr:=hC.size;obtain⟨s0,s1,s2,s3,s4,s5,s6,s7,s8⟩:=hU H.out.st;obtain⟨r0,r1,r2,r3⟩:=H.out.rd htt;obtain⟨-,z1,z2⟩:=H.out.fz tt;dsimp only at r3;rw[HSJ.out]at r3;by_cases hkt:k<j
      ·have d3:(k:Int)<(j:Int):=oz
       have hwj:IntKind.i64.wrap ((k:Int)+1)=(k:Int)+1:=IntWalk.i64_in _ oz;obtain⟨oR,hto⟩:=H.out.rdS htt HIV.out;dsimp only at oR;have hli:=H.out.li;dsimp only at hli;rw[List.length_set]at hli;rw[bP _ _ _ _ _ (by omega),if_pos rfl]at oR;obtain⟨o0,o1,o2,o3⟩:=oR.cells hkt;rw[aFl thr jv old next (by omega)]at o0 o1;obtain⟨n0,n1,-,-⟩:=HR.out.cells hkt;have hos:A.tg ob≠0:=by rw[hto];omega
       have hobb:ob≠b:=fun e=>by rw[e,hb]at hto;omega
       have hoL:=oR.lt;have hnL:=HR.out.lt;have hst:=yY thr jv old next (j:=k) oz
       have hpo:=HOL.out.2 k hkt;have hpn:=HNX.out.2 k hkt;have HC:=qd hC;have HJ:=qd (fun w=>xX (old.getD k default) (next.getD k default) w);have HWd:=qd (fun w h=>aMw (old.getD k default) (next.getD k default) thr ta tl tc w hpo.2.2 hpn.2.2 h);have HTw:=qd (fun w' (hw:Below wr.heap.size wr w')=>(HT.out.same (hC.same (B:=N) hNw (fun x hx e=>absurd (H.out.lo x e) oz))).same (aQ.of' (hw.mono oz)));unfold gR at hst;clear oR hli hpo hpn;by_cases h4:4<jv
       ·rw[if_pos h4]at hst;have HST:=qd hst;clear hst HJ;generalize gY (old.getD k default) (next.getD k default) thr=jo at *;obtain⟨jlo,jhi⟩:=jo;generalize old.getD k default=po at *;generalize next.getD k default=pn at *;obtain⟨olo,ohi⟩:=po;obtain⟨nlo,nhi⟩:=pn;dsimp only at o0 o1 n0 n1 HWd;have hup:∀ w',Below wr.heap.size wr w'->cI w'.heap.size w' ta tl thr:=fun w' hw=>(HTw.out w' hw).monoB (by have:=hw.size;omega);have HUP:=qd hup;clear hup;go_upto_region 17 with(fail)
        refine bI 12 kr kr (fun T F hF hall=>?_);simp only[TD];have hFc:=fun t=>(bT (hF t)).1;have hFf:=fun t=>(bT (hF t)).2;have hFs:=fun t=>(hF t).size;have hNE:Nonempty T:=(hall _ (Below.refl _ _)).elim fun t _=>⟨t⟩;repeat(refine aU (fun K hK=>?_);go_simp;refine hK _ ?_;clear hK K)
        (refine aU (fun K hK=>?_);go_simp;refine⟨_,fun t=>bE (hF t) hall (HWd.out (F t) (HUP.out _ (hF t))),hK _ ?_⟩;clear hK K)
        exact aTw
       ·rw[if_neg h4]at hst;have HST:=qd hst;clear hst HWd HTw;generalize cJ (old.getD k default) (next.getD k default)=jo at *;obtain⟨jlo,jhi⟩:=jo;generalize old.getD k default=po at *;generalize next.getD k default=pn at *;obtain⟨olo,ohi⟩:=po;obtain⟨nlo,nhi⟩:=pn;dsimp only at o0 o1 n0 n1 HJ;go_upto_region 18 with(fail)
        refine bI 11 kr kr (fun T F hF hall=>?_);simp only[TD];have hFc:=fun t=>(bT (hF t)).1;have hFf:=fun t=>(bT (hF t)).2;have hFs:=fun t=>(hF t).size;have hNE:Nonempty T:=(hall _ (Below.refl _ _)).elim fun t _=>⟨t⟩;repeat(refine aU (fun K hK=>?_);go_simp;refine hK _ ?_;clear hK K)
        (refine aU (fun K hK=>?_);go_simp;refine⟨_,fun t=>bE (hF t) hall (HJ.out (F t)),hK _ ?_⟩;clear hK K)
        exact aTw
      ·have hkj:k=j:=oz
       subst hkj;have d4:¬(k:Int)<(k:Int):=oz
       have hmt:A.tg A.mb≠0:=by rw[H.out.tm];decide
       go_wp2
       go_end0
       go_light;refine⟨rfl,A.iv,A.tg,?_,hC.trans (aG.setCell (aG.refl _ _) (.inl hmt) _),fun x _=>rfl⟩;rw[HRE.out];exact H.out.setM tt true
section
def gG (ops:Array Oper) (i:Nat):Option Nat:=(ops[i]?).bind (·.dst)
def jO (ops:Array Oper) (a0:Act) (L:Array Bool) (V:Nat->Value) (a:Act):Prop :=
 a.tmps.size=a0.tmps.size/\a.defers=a0.defers/\(∀ j,(∀ i,gG ops i=some j->L.getD i false≠true)->a.eval (.tmp j)=a0.eval (.tmp j))/\∀ i d,gG ops i=some d->L.getD i false=true->a.eval (.tmp d)=V i
theorem cT (L:Array Bool) (i j:Nat) (hi:i<L.size):(L.setIfInBounds i true).getD j false=if j=i then true else L.getD j false:=by
 by_cases e:j=i
 ·simp_all
 ·rw[if_neg e,getD_set_ne false (fun h=>e h.symm)]
theorem jO.start (ops:Array Oper) (a0:Act) (V:Nat->Value) (k:Nat):jO ops a0 (Array.replicate k false) V a0:=by
 refine⟨rfl,rfl,fun _ _=>rfl,fun i d _ h=>?_⟩;by_cases hi:i<k<;>simp[ hi]at h
theorem jO.put {ops:Array Oper}{a0 a:Act}{L:Array Bool}{V:Nat->Value}(h:jO ops a0 L V a) (hinj:∀ i j d,gG ops i=some d->gG ops j=some d->i=j) (hsz:∀ i d,gG ops i=some d->d<a0.tmps.size) {i:Nat}{o:Oper}(ho:ops[i]? = some o) (hi:i<L.size) (v:Value) (V':Nat->Value) (hv:V' i=v) (hV:∀ j,j≠i->L.getD j false=true->V' j=V j) :
 jO ops a0 (L.setIfInBounds i true) V' (a.put o.dst v):=by
 obtain⟨h1,h2,h3,h4⟩:=h;have hdi:gG ops i=o.dst:=by unfold gG;rw[ho];rfl
 have hdf:(a.put o.dst v).defers=a0.defers:=by cases o.dst<;>exact h2
 refine⟨by rw[aBo];exact h1,hdf,fun j hj=>?_,fun j d hjd hjl=>?_⟩
 ·cases hd:o.dst with
  | none =>
   refine h3 j (fun k hk hl=>hj k hk ?_);rw[cT _ _ _ hi];split
   ·rfl
   ·exact hl
  | some e =>
   have hne:e≠j:=fun e2=>hj i (by rw[hdi,hd,e2]) (by rw[cT _ _ _ hi,if_pos rfl]);rw[rG _ _ _ _ (by grind),if_neg hne];refine h3 j (fun k hk hl=>hj k hk ?_);rw[cT _ _ _ hi];split
   ·rfl
   ·exact hl
 ·by_cases e:j=i
  ·subst e;rw[hdi]at hjd;rw[hjd,rG _ _ _ _ (by grind),if_pos rfl,hv]
  ·rw[cT _ _ _ hi,if_neg e]at hjl;rw[hV j e hjl];cases hd:o.dst with
   | none=>exact h4 j d hjd hjl
   | some e2 =>
    rw[rG _ _ _ _ (by grind)]
    grind
theorem aSk {a b:Act}(hs:a.tmps.size=b.tmps.size) (hd:a.defers=b.defers) (he:∀ j,a.eval (.tmp j)=b.eval (.tmp j)):a=b:=by
 obtain⟨t,d⟩:=a;obtain⟨t2,d2⟩:=b;subst hd;have:t=t2:=by
  apply Array.ext hs;intro i h1 h2;have h3:=he i;simp only[Act.eval,h1,h2,dif_pos]at h3;simpa using h3
 rw[this]
theorem jO.uniq {ops:Array Oper}{a0 a b:Act}{L M:Array Bool}{V:Nat->Value}(h:jO ops a0 L V a) (k:jO ops a0 M V b) (hL:∀ i,i<ops.size->L.getD i false=true) (hM:∀ i,i<ops.size->M.getD i false=true):a=b:=by
 obtain⟨h1,h2,h3,h4⟩:=h;obtain⟨k1,k2,k3,k4⟩:=k;refine aSk (by rw[h1,k1]) (by rw[h2,k2]) (fun j=>?_);by_cases hj:∃ i,gG ops i=some j
 ·obtain⟨i,hi⟩:=hj;have hlt:i<ops.size:=by
   unfold gG at hi;cases ho:ops[i]? with
   | none=>rw[ho]at hi;cases hi
   | some o=>exact(Array.getElem?_eq_some_iff.1 ho).1
  grind
 ·grind
theorem aRx {p:Prop}(h:p:=by
 have hw:Region.wanted o (yielded ops a.tmps)=true:=by simp[Region.wanted,hg]
 unfold wpOp;simp only[ho,hw];left;unfold Oper.wp;rw[hr];exact h):p:=h
theorem aP8 {P:Program}{ops:Array Oper}{Q:Exit->Act->World->Prop}{i:Nat}{o:Oper}{K:Act->World->Prop}{a:Act}{w:World}(ho:ops[i]? = some o) (hg:o.guard=none) (v:Value) (w2:World) (hr:(execOp a.eval o).run P w=.ok (.value v) w2) (h:K (a.put o.dst v) w2):wpOp P ops Q i K a w:=by
 exact aRx
theorem aKm {P:Program}{ops:Array Oper}{Q:Exit->Act->World->Prop}{i:Nat}{o:Oper}{K:Act->World->Prop}{a:Act}{w:World}(ho:ops[i]? = some o) (hg:o.guard=none) (w2:World) (hr:(execOp a.eval o).run P w=.ok .skip w2) (h:K (a.put o.dst undef) w2):wpOp P ops Q i K a w:=by
 exact aRx
def aHc (ops:Array Oper):Bool:=(List.range ops.size).all fun i=>(List.range ops.size).all fun j=>decide (i=j)||decide (gG ops i=none)||decide (gG ops i≠gG ops j)
def aM9 (ops:Array Oper) (n:Nat):Bool:=(List.range ops.size).all fun i=>match gG ops i with|some d=>decide (d<n)|none=>true
theorem uA {ops:Array Oper}{i d:Nat}(h:gG ops i=some d):i<ops.size:=by
 unfold gG at h;cases ho:ops[i]? with
 | none=>rw[ho]at h;cases h
 | some o=>exact(Array.getElem?_eq_some_iff.1 ho).1
theorem wW {ops:Array Oper}(h:aHc ops=true):∀ i j d,gG ops i=some d->gG ops j=some d->i=j:=fun i j d hi hj=>by
 have h1:=List.all_eq_true.1 (List.all_eq_true.1 h i (List.mem_range.2 (uA hi))) j (List.mem_range.2 (uA hj))
 grind
theorem yL {ops:Array Oper}{n:Nat}(h:aM9 ops n=true):∀ i d,gG ops i=some d->d<n:=fun i d hi=>by
 have h1:=List.all_eq_true.1 h i (List.mem_range.2 (uA hi))
 grind
def qG (ops:Array Oper) (V:Nat->Value) (a0:Act) (k:Nat):Act:=(List.range k).foldl (fun a i=>a.put (gG ops i) (V i)) a0
def sG (n k:Nat):Array Bool:=(List.range k).foldl (fun L i=>L.setIfInBounds i true) (Array.replicate n false)
theorem qA (n k:Nat):sG n (k+1)=(sG n k).setIfInBounds k true:=by unfold sG;rw[List.range_succ,List.foldl_append];rfl
theorem wX (n k:Nat):(sG n k).size=n:=by
 induction k with
 | zero=>simp[sG]
 | succ k ih=>rw[qA,Array.size_setIfInBounds,ih]
theorem aBr (n:Nat):∀ k i,i<k->k<=n->(sG n k).getD i false=true
 | k+1,i,hi,hk=>by
  rw[qA,cT _ _ _ (by rw[wX];omega)];split
  ·rfl
  ·exact aBr n k i oz oz
theorem aBv (ops:Array Oper) (V:Nat->Value) (a0:Act) (hinj:aHc ops=true) (hsz:aM9 ops a0.tmps.size=true):∀ k,k<=ops.size->jO ops a0 (sG ops.size k) V (qG ops V a0 k)
 | 0,_=>jO.start ops a0 V ops.size
 | k+1,hk=>by
  have h:=aBv ops V a0 hinj hsz k oz;have ho:ops[k]? = some (ops[k]'(oz)):=by grind
  rw[qA];have e:qG ops V a0 (k+1)=(qG ops V a0 k).put (ops[k]'(oz)).dst (V k):=by
   unfold qG;rw[List.range_succ,List.foldl_append];simp only[List.foldl_cons];unfold gG;rw[ho];rfl
  rw[e];exact h.put (wW hinj) (yL hsz) ho (by rw[wX];omega) _ V rfl (fun _ _ _=>rfl)
def aV2 (ops:Array Oper) (j:Nat):Bool:=(List.range ops.size).all fun i=>decide (gG ops i≠some j)
theorem aIa {ops:Array Oper}{j:Nat}(h:aV2 ops j=true):∀ i,gG ops i≠some j:=fun i hi=>by
 have h1:=List.all_eq_true.1 h i (List.mem_range.2 (uA hi))
 grind
def xO (V:Nat->Value):Nat->List (Option Nat)->Act->Act
 | _,[],a=>a
 | i,d::ds,a=>xO V (i+1) ds (a.put d (V i))
theorem yI (V:Nat->Value) (d:Option Nat):∀ (ds:List (Option Nat)) (i:Nat) (a:Act),xO V i (ds++[d]) a=(xO V i ds a).put d (V (i+ds.length))
 | [],i,a=>rfl
 | e::ds,i,a=>by
  show xO V (i+1) (ds++[d]) _=(xO V (i+1) ds _).put d _;rw[yI V d ds (i+1),List.length_cons,show i+1+ds.length=i+(ds.length+1) by omega]
theorem aEu (ops:Array Oper) (V:Nat->Value) (a0:Act):∀ k,qG ops V a0 k=xO V 0 ((List.range k).map (gG ops)) a0
 | 0=>rfl
 | k+1=>by
  have e:qG ops V a0 (k+1)=(qG ops V a0 k).put (gG ops k) (V k):=by unfold qG;rw[List.range_succ,List.foldl_append];rfl
  rw[e,aEu ops V a0 k,List.range_succ,List.map_append,List.map_cons,List.map_nil,yI,List.length_map,List.length_range,Nat.zero_add]
/-- a region of operations that each yield a value, whatever order they come in -/
theorem aDa {P:Program}{ops:Array Oper}{Q:Exit->Act->World->Prop}{id:Nat}{a:Act}{w:World}(hm:P.follows .mixedOrders=true) (hord:xW ops=true) (hinj:aHc ops=true) (hsz:aM9 ops a.tmps.size=true) (ds:List (Option Nat)) (hds:(List.range ops.size).map (gG ops)=ds) (hg:(List.range ops.size).all (fun i=>match ops[i]? with|some o=>o.guard.isNone|none=>true)=true)
 (F:Array Bool->(Nat->Value)->World->Prop) (h0:∀ V,F (Array.replicate ops.size false) V w.drew)
 (hstep:∀ (i:Nat) (o:Oper) (L:Array Bool) (V:Nat->Value) (ev:Operand->Value) (W:World),ops[i]? = some o->i<L.size->L.getD i false≠true->(∀ e∈o.after,Region.binds .any e=true->L.getD e.on false=true)->aDn ops L ->
   (∀ v,ev (.const v)=v)->(∀ j,(∀ i,gG ops i≠some j)->ev (.tmp j)=a.eval (.tmp j))->(∀ i d,gG ops i=some d->L.getD i false=true->ev (.tmp d)=V i)->F L V W ->
   (∃ v W',(execOp ev o).run P W=.ok (.value v) W'/\F (L.setIfInBounds i true) (cV V i v) W')\/(∃ W',(execOp ev o).run P W=.ok .skip W'/\F (L.setIfInBounds i true) (cV V i undef) W'))
 (hend:∀ L V W,(∀ i,i<ops.size->L.getD i false=true)->F L V W->Q .normal (xO V 0 ds a) W):(Code.region id ops true).wp P Q a w:=by
 refine aFf hm hord (fun L a' W=>∃ V,jO ops a L V a'/\F L V W) ⟨fun _=>undef,jO.start ops a _ ops.size,h0 _⟩ (fun i o L a' W ho hlt hne hd hc hI=>?_) (fun L a' W hL hI=>?_)
 ·obtain⟨V,hf,hF⟩:=hI;have hgo:o.guard=none:=by
   have h1:=List.all_eq_true.1 hg i (List.mem_range.2 (Array.getElem?_eq_some_iff.1 ho).1);rw[ho]at h1;simpa using h1
  have hput:=fun v=>hf.put (wW hinj) (yL hsz) ho hlt v _ (cD _ _ _) (fun j hj _=>bN _ _ hj);rcases hstep i o L V a'.eval W ho hlt hne hd hc (fun _=>rfl) (fun j hj=>hf.2.2.1 j (fun k hk=>absurd hk (hj k))) hf.2.2.2 hF with⟨v,W',hr,hF'⟩|⟨W',hr,hF'⟩
  ·exact aP8 ho hgo v W' hr ⟨_,hput v,hF'⟩
  ·exact aKm ho hgo W' hr ⟨_,hput undef,hF'⟩
 ·obtain⟨V,hf,hF⟩:=hI;have e:=hf.uniq (aBv ops V a hinj hsz ops.size lr) hL (fun i hi=>aBr _ _ _ hi lr);rw[e,aEu]
  grind
theorem aDl (n:Nat) (z:Value):madeCells #[z] n=(List.replicate n z).toArray:=by
 apply Array.ext
 ·simp[madeCells]
 ·intro i h1 h2;simp[madeCells,Nat.mod_one]
def mF (W:World) (e:TypeId) (z:Value) (n:Nat) (v:Value) (tg:Nat->Nat) (t:Nat):Prop:=∃ b,v=.slice (some ⟨b,0,none⟩) n n/\W.ownsRow 0 e 1 v n (List.replicate n z)/\tg b=t
theorem mF.up {W W':World}{e:TypeId}{z:Value}{n:Nat}{v:Value}{tg tg':Nat->Nat}{t:Nat}(h:mF W e z n v tg t) (hb:Below W.heap.size W W') (ht:∀ b,b<W.heap.size->tg' b=tg b):mF W' e z n v tg' t:=by
 obtain⟨b,h1,h2,h3⟩:=h;subst h1;exact⟨b,rfl,aA hb h2,by rw[ht b (bJ h2)];exact h3⟩
theorem mF.new (W:World) (e:TypeId) (z:Value) (n t:Nat) (tg:Nat->Nat) (hn:n<=maxLen):mF (W.alloc (.cells (List.replicate n z).toArray e)) e z n (.slice (some ⟨W.heap.size,0,none⟩) n n) (cV tg W.heap.size t) t:=by
 refine⟨W.heap.size,rfl,?_,cD _ _ _⟩;have:=World.ownsRow_lit W (base:=0) (e:=e) (size:=1) (List.replicate n z).toArray n (Nat.zero_le _) hn si
 grind
/-- what holds, whatever has come -/
structure gA (n:Nat) (W5:World) (L:Array Bool) (V:Nat->Value) (W:World) (tg:Nat->Nat):Prop where
 bel:Below W5.heap.size W5 W
 num:∀ i,(i=0\/i=2\/i=5\/i=7)->L.getD i false=true->V i=.int .i64 n
 b4:L.getD 4 false=true->V 4=.agg #[V 1,V 3]
 b9:L.getD 9 false=true->V 9=.agg #[V 1,V 3,V 6,V 8]
 fr:∀ b,W.heap.size<=b->tg b=0
 lo:∀ b,tg b≠0->W5.heap.size<=b
 r1:L.getD 1 false=true->mF W 39 (.slice none 0 0) n (V 1) tg 2
 r3:L.getD 3 false=true->mF W 50 (.slice none 0 0) n (V 3) tg 3
 r6:L.getD 6 false=true->mF W 4 (.bool false) n (V 6) tg 4
 r8:L.getD 8 false=true->mF W 3 (.int .i64 0) n (V 8) tg 5
 st:L.getD 10 false=true->∃ k,V 10=.pointer (some ⟨k,0,none⟩)/\aF W k [V 1,V 3,V 6,V 8]/\tg k=1
 pt:L.getD 11 false=true->∃ p,V 11=.pointer (some ⟨p,0,none⟩)/\tg p=6/\aF W p [if L.getD 12 false=true then V 10 else .pointer none]
section
variable {n : Nat} {W5 W W' : World} {L : Array Bool} {V : Nat -> Value} {tg : Nat -> Nat}
theorem gA.start (n:Nat) (W5:World) (V:Nat->Value) (hW:Below W5.heap.size W5 W):gA n W5 (Array.replicate 13 false) V W (fun _=>0):=by
 have no:∀ i,¬((Array.replicate 13 false).getD i false=true):=fun i h=>by
  by_cases hi:i<13<;>simp[ hi]at h
 exact⟨hW,fun i _ h=>absurd h (no i),fun h=>absurd h (no _),fun h=>absurd h (no _),fun _ _=>rfl,fun _ h=>absurd rfl h,fun h=>absurd h (no _),fun h=>absurd h (no _),fun h=>absurd h (no _),fun h=>absurd h (no _),fun h=>absurd h (no _),fun h=>absurd h (no _)⟩
theorem aN5 {p:Prop}(h:p:=by
 exact fun hq=>by
  rw[lk 11 (by decide)]at hq;obtain⟨p,h1,h2,h3⟩:=h.pt hq
  grind):p:=h
theorem aCn {p:Prop}(h:p:=by
 rw[lk j e]at hq;rw[vk j e];exact h.num j hj hq):p:=h
theorem aRd {p:Prop}(h:p:=by
 exact fun hq=>by
  rw[lk 10 (by decide)]at hq;obtain⟨k,h1,h2,h3⟩:=h.st hq
  grind):p:=h
theorem gA.s0 (h:gA n W5 L V W tg) (hs:0<L.size) (hl:L.getD 12 false=true->False)  : gA n W5 (L.setIfInBounds 0 true) (cV V 0 (.int .i64 n)) W tg:=by
 have lk:∀ j,j≠0->(L.setIfInBounds 0 true).getD j false=L.getD j false:=fun j hj=>by rw[cT _ _ _ hs,if_neg hj]
 have vk:∀ j,j≠0->cV V 0 (.int .i64 n) j=V j:=fun j hj=>bN _ _ hj;refine⟨?_,?_,?_,?_,?_,?_,?_,?_,?_,?_,?_,?_⟩
 ·exact h.bel
 ·exact fun j hj hq=>by
   by_cases e:j=0
   ·subst e;exact cD _ _ _
   ·exact aCn
 ·exact fun hq=>by rw[lk 4 (by decide)]at hq;exact h.b4 hq
 ·exact fun hq=>by rw[lk 9 (by decide)]at hq;exact h.b9 hq
 ·exact h.fr
 ·exact h.lo
 ·exact fun hq=>by rw[lk 1 (by decide)]at hq;exact h.r1 hq
 ·exact fun hq=>by rw[lk 3 (by decide)]at hq;exact h.r3 hq
 ·exact fun hq=>by rw[lk 6 (by decide)]at hq;exact h.r6 hq
 ·exact fun hq=>by rw[lk 8 (by decide)]at hq;exact h.r8 hq
 ·exact aRd
 ·exact aN5
theorem gA.s2 (h:gA n W5 L V W tg) (hs:2<L.size) (hl:L.getD 12 false=true->False)  : gA n W5 (L.setIfInBounds 2 true) (cV V 2 (.int .i64 n)) W tg:=by
 have lk:∀ j,j≠2->(L.setIfInBounds 2 true).getD j false=L.getD j false:=fun j hj=>by rw[cT _ _ _ hs,if_neg hj]
 have vk:∀ j,j≠2->cV V 2 (.int .i64 n) j=V j:=fun j hj=>bN _ _ hj;refine⟨?_,?_,?_,?_,?_,?_,?_,?_,?_,?_,?_,?_⟩
 ·exact h.bel
 ·exact fun j hj hq=>by
   by_cases e:j=2
   ·subst e;exact cD _ _ _
   ·exact aCn
 ·exact fun hq=>by rw[lk 4 (by decide)]at hq;exact h.b4 hq
 ·exact fun hq=>by rw[lk 9 (by decide)]at hq;exact h.b9 hq
 ·exact h.fr
 ·exact h.lo
 ·exact fun hq=>by rw[lk 1 (by decide)]at hq;exact h.r1 hq
 ·exact fun hq=>by rw[lk 3 (by decide)]at hq;exact h.r3 hq
 ·exact fun hq=>by rw[lk 6 (by decide)]at hq;exact h.r6 hq
 ·exact fun hq=>by rw[lk 8 (by decide)]at hq;exact h.r8 hq
 ·exact aRd
 ·exact aN5
theorem aJs {p:Prop}(h:p:=by
 exact fun hq=>by
  rw[lk 11 (by decide)]at hq;rw[vk 11 (by decide),lk 12 (by decide),if_neg hl];obtain⟨p,h1,h2,h3⟩:=h.pt hq;rw[if_neg hl]at h3;exact⟨p,h1,h2,h3⟩):p:=h
theorem aJ7 {p:Prop}(h:p:=by
 exact fun hq=>by
  rw[lk 10 (by decide)]at hq;rw[vk 10 (by decide),vk 1 (by decide),vk 3 (by decide),vk 6 (by decide),vk 8 (by decide)];obtain⟨k,h1,h2,h3⟩:=h.st hq;exact⟨k,h1,h2,h3⟩):p:=h
theorem aDm {p:Prop}(h:p:=by
 exact fun hq=>by rw[lk 8 (by decide)]at hq;rw[vk 8 (by decide)];exact h.r8 hq):p:=h
theorem wI {p:Prop}(h:p:=by
 exact fun hq=>by rw[lk 4 (by decide)]at hq;rw[vk 4 (by decide),vk 1 (by decide),vk 3 (by decide)];exact h.b4 hq):p:=h
theorem aCg {p:Prop}(h:p:=by
 exact fun hq=>by rw[lk 9 (by decide)]at hq;rw[vk 9 (by decide),vk 1 (by decide),vk 3 (by decide),vk 6 (by decide),vk 8 (by decide)];exact h.b9 hq):p:=h
theorem aC0 {p:Prop}(h:p:=by
 exact fun hq=>by rw[lk 6 (by decide)]at hq;rw[vk 6 (by decide)];exact h.r6 hq):p:=h
theorem aCv {p:Prop}(h:p:=by
 exact fun hq=>by rw[lk 3 (by decide)]at hq;rw[vk 3 (by decide)];exact h.r3 hq):p:=h
theorem aD0 {p:Prop}(h:p:=by
 exact fun hq=>by rw[lk 1 (by decide)]at hq;rw[vk 1 (by decide)];exact h.r1 hq):p:=h
theorem gA.s5 (h:gA n W5 L V W tg) (hs:5<L.size) (hl:L.getD 12 false=true->False)  : gA n W5 (L.setIfInBounds 5 true) (cV V 5 (.int .i64 n)) W tg:=by
 have lk:∀ j,j≠5->(L.setIfInBounds 5 true).getD j false=L.getD j false:=fun j hj=>by rw[cT _ _ _ hs,if_neg hj]
 have vk:∀ j,j≠5->cV V 5 (.int .i64 n) j=V j:=fun j hj=>bN _ _ hj;refine⟨?_,?_,?_,?_,?_,?_,?_,?_,?_,?_,?_,?_⟩
 ·exact h.bel
 ·exact fun j hj hq=>by
   by_cases e:j=5
   ·subst e;exact cD _ _ _
   ·exact aCn
 ·exact wI
 ·exact aCg
 ·exact h.fr
 ·exact h.lo
 ·exact aD0
 ·exact aCv
 ·exact aC0
 ·exact aDm
 ·exact aJ7
 ·exact aJs
theorem gA.s7 (h:gA n W5 L V W tg) (hs:7<L.size) (hl:L.getD 12 false=true->False)  : gA n W5 (L.setIfInBounds 7 true) (cV V 7 (.int .i64 n)) W tg:=by
 have lk:∀ j,j≠7->(L.setIfInBounds 7 true).getD j false=L.getD j false:=fun j hj=>by rw[cT _ _ _ hs,if_neg hj]
 have vk:∀ j,j≠7->cV V 7 (.int .i64 n) j=V j:=fun j hj=>bN _ _ hj;refine⟨?_,?_,?_,?_,?_,?_,?_,?_,?_,?_,?_,?_⟩
 ·exact h.bel
 ·exact fun j hj hq=>by
   by_cases e:j=7
   ·subst e;exact cD _ _ _
   ·exact aCn
 ·exact wI
 ·exact aCg
 ·exact h.fr
 ·exact h.lo
 ·exact aD0
 ·exact aCv
 ·exact aC0
 ·exact aDm
 ·exact aJ7
 ·exact aJs
theorem aE9 {p:Prop}(h:p:=by
 exact fun hq=>by
  rw[lk 11 (by decide)]at hq;rw[vk 11 (by decide),lk 12 (by decide),if_neg hl];obtain⟨p,h1,h2,h3⟩:=h.pt hq;rw[if_neg hl]at h3;exact⟨p,h1,by rw[ht p h3.1];exact h2,h3.below hb⟩):p:=h
theorem aDi {p:Prop}(h:p:=by
 exact fun hq=>absurd (by rw[lk 10 (by decide)]at hq;exact hq) nb10):p:=h
theorem uJ {p:Prop}(h:p:=by
 exact fun j hj hq=>by rw[lk j (by omega)]at hq;rw[vk j (by omega)];exact h.num j hj hq):p:=h
theorem aEk {p:Prop}(h:p:=by
 exact fun hq=>by rw[lk 8 (by decide)]at hq;rw[vk 8 (by decide)];exact(h.r8 hq).up hb ht):p:=h
theorem aC1 {p:Prop}(h:p:=by
 exact fun hq=>absurd (by rw[lk 9 (by decide)]at hq;exact hq) nb9):p:=h
theorem aB8 {p:Prop}(h:p:=by
 exact fun b hq=>by rw[bN _ _ (by omega)];exact h.fr b oz):p:=h
theorem aF1 {p:Prop}(h:p:=by
 exact fun hq=>by rw[lk 6 (by decide)]at hq;rw[vk 6 (by decide)];exact(h.r6 hq).up hb ht):p:=h
theorem aBy {p:Prop}(h:p:=by
 exact fun b hq=>by
  by_cases e:b=W.heap.size
  ·omega
  ·rw[bN _ _ e]at hq;exact h.lo b hq):p:=h
theorem aEl {p:Prop}(h:p:=by
 exact fun hq=>by rw[lk 3 (by decide)]at hq;rw[vk 3 (by decide)];exact(h.r3 hq).up hb ht):p:=h
theorem gA.s1 (h:gA n W5 L V W tg) (hs:1<L.size) (hl:¬L.getD 12 false=true)  (nb9:¬L.getD 9 false=true) (nb10:¬L.getD 10 false=true) (nb4:¬L.getD 4 false=true) (hn:n<=maxLen):gA n W5 (L.setIfInBounds 1 true) (cV V 1 (.slice (some ⟨W.heap.size,0,none⟩) n n)) (W.alloc (.cells (List.replicate n (.slice none 0 0)).toArray 39)) (cV tg W.heap.size 2):=by
 have lk:∀ j,j≠1->(L.setIfInBounds 1 true).getD j false=L.getD j false:=fun j hj=>by rw[cT _ _ _ hs,if_neg hj]
 have vk:∀ j,j≠1->cV V 1 (.slice (some ⟨W.heap.size,0,none⟩) n n) j=V j:=fun j hj=>bN _ _ hj;have hb:Below W.heap.size W (W.alloc (.cells (List.replicate n (.slice none 0 0)).toArray 39)):=eN;have hz:(W.alloc (.cells (List.replicate n (.slice none 0 0)).toArray 39)).heap.size=W.heap.size+1:=si
 have ht:∀ b,b<W.heap.size->cV tg W.heap.size 2 b=tg b:=fun b hbl=>bN _ _ oz;have hsz:=h.bel.size;refine⟨?_,?_,?_,?_,?_,?_,?_,?_,?_,?_,?_,?_⟩
 ·exact h.bel.trans (hb.mono hsz)
 ·exact uJ
 ·exact fun hq=>absurd (by rw[lk 4 (by decide)]at hq;exact hq) nb4
 ·exact aC1
 ·exact aB8
 ·exact aBy
 ·exact fun _=>by rw[show cV V 1 (.slice (some ⟨W.heap.size,0,none⟩) n n) 1=_ from cD _ _ _];exact mF.new W _ _ n 2 tg hn
 ·exact aEl
 ·exact aF1
 ·exact aEk
 ·exact aDi
 ·exact aE9
theorem aF5 {p:Prop}(h:p:=by
 exact fun hq=>by rw[lk 1 (by decide)]at hq;rw[vk 1 (by decide)];exact(h.r1 hq).up hb ht):p:=h
theorem gA.s3 (h:gA n W5 L V W tg) (hs:3<L.size) (hl:¬L.getD 12 false=true)  (nb9:¬L.getD 9 false=true) (nb10:¬L.getD 10 false=true) (nb4:¬L.getD 4 false=true) (hn:n<=maxLen):gA n W5 (L.setIfInBounds 3 true) (cV V 3 (.slice (some ⟨W.heap.size,0,none⟩) n n)) (W.alloc (.cells (List.replicate n (.slice none 0 0)).toArray 50)) (cV tg W.heap.size 3):=by
 have lk:∀ j,j≠3->(L.setIfInBounds 3 true).getD j false=L.getD j false:=fun j hj=>by rw[cT _ _ _ hs,if_neg hj]
 have vk:∀ j,j≠3->cV V 3 (.slice (some ⟨W.heap.size,0,none⟩) n n) j=V j:=fun j hj=>bN _ _ hj;have hb:Below W.heap.size W (W.alloc (.cells (List.replicate n (.slice none 0 0)).toArray 50)):=eN;have hz:(W.alloc (.cells (List.replicate n (.slice none 0 0)).toArray 50)).heap.size=W.heap.size+1:=si
 have ht:∀ b,b<W.heap.size->cV tg W.heap.size 3 b=tg b:=fun b hbl=>bN _ _ oz;have hsz:=h.bel.size;refine⟨?_,?_,?_,?_,?_,?_,?_,?_,?_,?_,?_,?_⟩
 ·exact h.bel.trans (hb.mono hsz)
 ·exact uJ
 ·exact fun hq=>absurd (by rw[lk 4 (by decide)]at hq;exact hq) nb4
 ·exact aC1
 ·exact aB8
 ·exact aBy
 ·exact aF5
 ·exact fun _=>by rw[show cV V 3 (.slice (some ⟨W.heap.size,0,none⟩) n n) 3=_ from cD _ _ _];exact mF.new W _ _ n 3 tg hn
 ·exact aF1
 ·exact aEk
 ·exact aDi
 ·exact aE9
theorem gA.s6 (h:gA n W5 L V W tg) (hs:6<L.size) (hl:¬L.getD 12 false=true)  (nb9:¬L.getD 9 false=true) (nb10:¬L.getD 10 false=true) (hn:n<=maxLen):gA n W5 (L.setIfInBounds 6 true) (cV V 6 (.slice (some ⟨W.heap.size,0,none⟩) n n)) (W.alloc (.cells (List.replicate n (.bool false)).toArray 4)) (cV tg W.heap.size 4):=by
 have lk:∀ j,j≠6->(L.setIfInBounds 6 true).getD j false=L.getD j false:=fun j hj=>by rw[cT _ _ _ hs,if_neg hj]
 have vk:∀ j,j≠6->cV V 6 (.slice (some ⟨W.heap.size,0,none⟩) n n) j=V j:=fun j hj=>bN _ _ hj;have hb:Below W.heap.size W (W.alloc (.cells (List.replicate n (.bool false)).toArray 4)):=eN;have hz:(W.alloc (.cells (List.replicate n (.bool false)).toArray 4)).heap.size=W.heap.size+1:=si
 have ht:∀ b,b<W.heap.size->cV tg W.heap.size 4 b=tg b:=fun b hbl=>bN _ _ oz;have hsz:=h.bel.size;refine⟨?_,?_,?_,?_,?_,?_,?_,?_,?_,?_,?_,?_⟩
 ·exact h.bel.trans (hb.mono hsz)
 ·exact uJ
 ·exact wI
 ·exact aC1
 ·exact aB8
 ·exact aBy
 ·exact aF5
 ·exact aEl
 ·exact fun _=>by rw[show cV V 6 (.slice (some ⟨W.heap.size,0,none⟩) n n) 6=_ from cD _ _ _];exact mF.new W _ _ n 4 tg hn
 ·exact aEk
 ·exact aDi
 ·exact aE9
theorem gA.s8 (h:gA n W5 L V W tg) (hs:8<L.size) (hl:¬L.getD 12 false=true)  (nb9:¬L.getD 9 false=true) (nb10:¬L.getD 10 false=true) (hn:n<=maxLen):gA n W5 (L.setIfInBounds 8 true) (cV V 8 (.slice (some ⟨W.heap.size,0,none⟩) n n)) (W.alloc (.cells (List.replicate n (.int .i64 0)).toArray 3)) (cV tg W.heap.size 5):=by
 have lk:∀ j,j≠8->(L.setIfInBounds 8 true).getD j false=L.getD j false:=fun j hj=>by rw[cT _ _ _ hs,if_neg hj]
 have vk:∀ j,j≠8->cV V 8 (.slice (some ⟨W.heap.size,0,none⟩) n n) j=V j:=fun j hj=>bN _ _ hj;have hb:Below W.heap.size W (W.alloc (.cells (List.replicate n (.int .i64 0)).toArray 3)):=eN;have hz:(W.alloc (.cells (List.replicate n (.int .i64 0)).toArray 3)).heap.size=W.heap.size+1:=si
 have ht:∀ b,b<W.heap.size->cV tg W.heap.size 5 b=tg b:=fun b hbl=>bN _ _ oz;have hsz:=h.bel.size;refine⟨?_,?_,?_,?_,?_,?_,?_,?_,?_,?_,?_,?_⟩
 ·exact h.bel.trans (hb.mono hsz)
 ·exact uJ
 ·exact wI
 ·exact aC1
 ·exact aB8
 ·exact aBy
 ·exact aF5
 ·exact aEl
 ·exact aF1
 ·exact fun _=>by rw[show cV V 8 (.slice (some ⟨W.heap.size,0,none⟩) n n) 8=_ from cD _ _ _];exact mF.new W _ _ n 5 tg hn
 ·exact aDi
 ·exact aE9
theorem gA.s4 (h:gA n W5 L V W tg) (hs:4<L.size) (hl:¬L.getD 12 false=true) (d1:L.getD 1 false=true) (d3:L.getD 3 false=true)   : gA n W5 (L.setIfInBounds 4 true) (cV V 4 (.agg #[V 1,V 3])) (W) (tg):=by
 have lk:∀ j,j≠4->(L.setIfInBounds 4 true).getD j false=L.getD j false:=fun j hj=>by rw[cT _ _ _ hs,if_neg hj]
 have vk:∀ j,j≠4->cV V 4 (.agg #[V 1,V 3]) j=V j:=fun j hj=>bN _ _ hj;refine⟨?_,?_,?_,?_,?_,?_,?_,?_,?_,?_,?_,?_⟩
 ·exact h.bel
 ·exact uJ
 ·exact fun _=>by rw[cD,vk 1 (by decide),vk 3 (by decide)]
 ·exact aCg
 ·exact h.fr
 ·exact h.lo
 ·exact aD0
 ·exact aCv
 ·exact aC0
 ·exact aDm
 ·exact aJ7
 ·exact aJs
theorem gA.s9 (h:gA n W5 L V W tg) (hs:9<L.size) (hl:¬L.getD 12 false=true)    : gA n W5 (L.setIfInBounds 9 true) (cV V 9 (.agg #[V 1,V 3,V 6,V 8])) (W) (tg):=by
 have lk:∀ j,j≠9->(L.setIfInBounds 9 true).getD j false=L.getD j false:=fun j hj=>by rw[cT _ _ _ hs,if_neg hj]
 have vk:∀ j,j≠9->cV V 9 (.agg #[V 1,V 3,V 6,V 8]) j=V j:=fun j hj=>bN _ _ hj;refine⟨?_,?_,?_,?_,?_,?_,?_,?_,?_,?_,?_,?_⟩
 ·exact h.bel
 ·exact uJ
 ·exact wI
 ·exact fun _=>by rw[cD,vk 1 (by decide),vk 3 (by decide),vk 6 (by decide),vk 8 (by decide)]
 ·exact h.fr
 ·exact h.lo
 ·exact aD0
 ·exact aCv
 ·exact aC0
 ·exact aDm
 ·exact aJ7
 ·exact aJs
theorem gA.s10 (h:gA n W5 L V W tg) (hs:10<L.size) (hl:¬L.getD 12 false=true)    : gA n W5 (L.setIfInBounds 10 true) (cV V 10 (.pointer (some ⟨W.heap.size,0,none⟩))) (W.alloc (.cells #[V 1,V 3,V 6,V 8] 97)) (cV tg W.heap.size 1):=by
 have lk:∀ j,j≠10->(L.setIfInBounds 10 true).getD j false=L.getD j false:=fun j hj=>by rw[cT _ _ _ hs,if_neg hj]
 have vk:∀ j,j≠10->cV V 10 (.pointer (some ⟨W.heap.size,0,none⟩)) j=V j:=fun j hj=>bN _ _ hj;have hb:Below W.heap.size W (W.alloc (.cells #[V 1,V 3,V 6,V 8] 97)):=eN;have hz:(W.alloc (.cells #[V 1,V 3,V 6,V 8] 97)).heap.size=W.heap.size+1:=si
 have ht:∀ b,b<W.heap.size->cV tg W.heap.size 1 b=tg b:=fun b hbl=>bN _ _ oz;have hsz:=h.bel.size;refine⟨?_,?_,?_,?_,?_,?_,?_,?_,?_,?_,?_,?_⟩
 ·exact h.bel.trans (hb.mono hsz)
 ·exact uJ
 ·exact wI
 ·exact aCg
 ·exact aB8
 ·exact aBy
 ·exact aF5
 ·exact aEl
 ·exact aF1
 ·exact aEk
 ·exact fun _=>⟨W.heap.size,cD _ _ _,by rw[vk 1 (by decide),vk 3 (by decide),vk 6 (by decide),vk 8 (by decide)];exact aF.new W [V 1,V 3,V 6,V 8] _,cD _ _ _⟩
 ·exact aE9
theorem gA.s11 (h:gA n W5 L V W tg) (hs:11<L.size) (hl:¬L.getD 12 false=true)    : gA n W5 (L.setIfInBounds 11 true) (cV V 11 (.pointer (some ⟨W.heap.size,0,none⟩))) (W.alloc (.cells #[.pointer none] 95)) (cV tg W.heap.size 6):=by
 have lk:∀ j,j≠11->(L.setIfInBounds 11 true).getD j false=L.getD j false:=fun j hj=>by rw[cT _ _ _ hs,if_neg hj]
 have vk:∀ j,j≠11->cV V 11 (.pointer (some ⟨W.heap.size,0,none⟩)) j=V j:=fun j hj=>bN _ _ hj;have hb:Below W.heap.size W (W.alloc (.cells #[.pointer none] 95)):=eN;have hz:(W.alloc (.cells #[.pointer none] 95)).heap.size=W.heap.size+1:=si
 have ht:∀ b,b<W.heap.size->cV tg W.heap.size 6 b=tg b:=fun b hbl=>bN _ _ oz;have hsz:=h.bel.size;refine⟨?_,?_,?_,?_,?_,?_,?_,?_,?_,?_,?_,?_⟩
 ·exact h.bel.trans (hb.mono hsz)
 ·exact uJ
 ·exact wI
 ·exact aCg
 ·exact aB8
 ·exact aBy
 ·exact aF5
 ·exact aEl
 ·exact aF1
 ·exact aEk
 ·exact fun hq=>by
   rw[lk 10 (by decide)]at hq;rw[vk 10 (by decide),vk 1 (by decide),vk 3 (by decide),vk 6 (by decide),vk 8 (by decide)];obtain⟨k,h1,h2,h3⟩:=h.st hq;exact⟨k,h1,h2.below hb,by rw[ht k h2.1];exact h3⟩
 ·exact fun _=>⟨W.heap.size,cD _ _ _,cD _ _ _,by rw[lk 12 (by decide),if_neg hl];exact aF.new W [.pointer none] _⟩
theorem gA.s12 {p:Nat}(h:gA n W5 L V W tg) (hs:12<L.size) (hl:¬L.getD 12 false=true) (d11:L.getD 11 false=true) (hp:V 11=.pointer (some ⟨p,0,none⟩)) (x:Value):gA n W5 (L.setIfInBounds 12 true) (cV V 12 x) (W.setCell ⟨p,0,none⟩ (V 10)) tg:=by
 have lk:∀ j,j≠12->(L.setIfInBounds 12 true).getD j false=L.getD j false:=fun j hj=>by rw[cT _ _ _ hs,if_neg hj]
 have vk:∀ j,j≠12->cV V 12 x j=V j:=fun j hj=>bN _ _ hj;obtain⟨q,g1,g2,g3⟩:=h.pt d11;rw[hp]at g1;cases g1;rw[if_neg hl]at g3;have hlo:=h.lo p oz;have hc:aG (· = p) W (W.setCell ⟨p,0,none⟩ (V 10)):=jP W p 0 (V 10);have no:∀ {e:TypeId}{z v:Value}{t:Nat},t≠6->mF W e z n v tg t->mF (W.setCell ⟨p,0,none⟩ (V 10)) e z n v tg t:=fun hne ⟨b,h1,h2,h3⟩=>by
  subst h1;exact⟨b,rfl,aT hc h2 (fun e=>hne (by rw[<-h3,e,g2])),h3⟩
 refine⟨?_,?_,?_,?_,?_,?_,?_,?_,?_,?_,?_,?_⟩
 ·exact h.bel.setCell (p:=⟨p,0,none⟩) hlo _
 ·exact uJ
 ·exact wI
 ·exact aCg
 ·exact fun b hq=>h.fr b (Nat.le_trans hc.size hq)
 ·exact h.lo
 ·exact fun hq=>by rw[lk 1 (by decide)]at hq;rw[vk 1 (by decide)];exact no dc (h.r1 hq)
 ·exact fun hq=>by rw[lk 3 (by decide)]at hq;rw[vk 3 (by decide)];exact no dc (h.r3 hq)
 ·exact fun hq=>by rw[lk 6 (by decide)]at hq;rw[vk 6 (by decide)];exact no dc (h.r6 hq)
 ·exact fun hq=>by rw[lk 8 (by decide)]at hq;rw[vk 8 (by decide)];exact no dc (h.r8 hq)
 ·exact fun hq=>by
   rw[lk 10 (by decide)]at hq;rw[vk 10 (by decide),vk 1 (by decide),vk 3 (by decide),vk 6 (by decide),vk 8 (by decide)];obtain⟨k,h1,h2,h3⟩:=h.st hq;exact⟨k,h1,hc.own h2 (fun e=>by rw[e,g2]at h3;omega),h3⟩
 ·exact fun _=>⟨p,by rw[vk 11 (by decide)];exact hp,g2,by
   rw[cT _ _ _ hs,if_pos rfl,if_pos rfl,vk 10 (by decide)];exact g3.set 0 _ si⟩
end
end
section
/-- the state, with the changes' rows of the first j instructions -/
structure oA (N:Nat) (W:World) (A:yU) (n regs j:Nat):Prop where
 st:aF W A.k (A.cells n)
 ri:W.ownsRow 0 39 1 (.slice (some ⟨A.ib,0,none⟩) n A.ic) n (List.replicate n (.slice none 0 0))
 rc:W.ownsRow 0 50 1 (.slice (some ⟨A.cb,0,none⟩) n A.cc) n ((List.range n).map fun v=>if v<j then mX regs (A.cv v)else .slice none 0 0)
 rm:W.ownsRow 0 4 1 (.slice (some ⟨A.mb,0,none⟩) n A.mc) n (List.replicate n (.bool false))
 rj:W.ownsRow 0 3 1 (.slice (some ⟨A.jb,0,none⟩) n A.jc) n (List.replicate n (.int .i64 0))
 ec:∀ v,v<j->W.ownsRow 0 3 1 (mX regs (A.cv v)) regs (aR (List.replicate regs 0))/\A.tg (A.cv v).1=7+2*v
 tk:A.tg A.k=1
 ti:A.tg A.ib=2
 tc:A.tg A.cb=3
 tm:A.tg A.mb=4
 tj:A.tg A.jb=5
 fr:∀ b,W.heap.size<=b->A.tg b=0
 lo:∀ b,A.tg b≠0->N<=b
 hj:j<=n
section
variable {N : Nat} {W W' : World} {A : yU} {n regs j : Nat} {S : Nat -> Prop}
theorem oA.keep (h:oA N W A n regs j) (hc:aG S W W') (hS:∀ x,S x->A.tg x=0):oA N W' A n regs j:=by
 have no:∀ (b t:Nat),A.tg b=t->t≠0->¬S b:=fun b t hb ht e=>ht (by rw[<-hb,hS b e]);refine⟨hc.own h.st (no _ _ h.tk oz),aT hc h.ri (no _ _ h.ti oz),aT hc h.rc (no _ _ h.tc oz),aT hc h.rm (no _ _ h.tm oz),aT hc h.rj (no _ _ h.tj oz),fun v hv=>?_,h.tk,h.ti,h.tc,h.tm,h.tj,fun b hb=>h.fr b (Nat.le_trans hc.size hb),h.lo,h.hj⟩;obtain⟨h1,h2⟩:=h.ec v hv;exact⟨aT hc h1 (no _ _ h2 oz),h2⟩
theorem oA.below (h:oA N W A n regs j) (hb:Below W.heap.size W W'):oA N W' A n regs j:=h.keep (S:=fun _=>False) (aG.of hb) (fun _ e=>e.elim)
theorem aOj (n j regs:Nat) (cv:Nat->Nat×Nat) (p:Nat×Nat) (hj:j<n):((List.range n).map fun v=>if v<j then mX regs (cv v)else Value.slice none 0 0).set j (mX regs p)=(List.range n).map fun v=>if v<j+1 then mX regs (cV cv j p v)else .slice none 0 0:=by
 apply List.ext_getElem?;intro i;by_cases e:i=j
 ·subst e;rw[List.getElem?_set_self (by simpa using hj),List.getElem?_map,List.getElem?_range hj];simp only[Option.map_some];rw[if_pos (by omega),cD]
 ·rw[List.getElem?_set_ne (by omega)];by_cases hi:i<n
  ·rw[List.getElem?_map,List.getElem?_map,List.getElem?_range hi];simp only[Option.map_some];rw[bN _ _ e];have:(i<j+1)↔i<j:=oz
   simp only[this]
  ·exact aHm
/-- a row of changes more: it lies in b, which is nobody's -/
theorem oA.row (h:oA N W A n regs j) (hj:j<n) {b c:Nat}(hr:W.ownsRow 0 3 1 (.slice (some ⟨b,0,none⟩) regs c) regs (aR (List.replicate regs 0))) (hb:A.tg b=0) (hN:N<=b):oA N (W.setCell ⟨A.cb,j,none⟩ (.slice (some ⟨b,0,none⟩) regs c)) { A with cv:=cV A.cv j (b,c),tg:=cV A.tg b (7+2*j) } n regs (j+1):=by
 have hc:=jP W A.cb j (.slice (some ⟨b,0,none⟩) regs c);have no:∀ (x t:Nat),A.tg x=t->t≠3->¬(x=A.cb):=fun x t hx ht e=>ht (by rw[<-hx,e,h.tc]);have tn:∀ (x t:Nat),A.tg x=t->t≠0->cV A.tg b (7+2*j) x=t:=fun x t hx ht=>by rw[bN _ _ (fun e=>ht (by rw[<-hx,e,hb])),hx]
 have hm:=cH h.rc j (.slice (some ⟨b,0,none⟩) regs c);have e:=aOj n j regs A.cv (b,c) hj;rw[show mX regs (b,c)=.slice (some ⟨b,0,none⟩) regs c from rfl]at e;rw[e]at hm;have hbl:=bJ hr;refine⟨hc.own h.st (no _ _ h.tk oz),aT hc h.ri (no _ _ h.ti oz),hm,aT hc h.rm (no _ _ h.tm oz),aT hc h.rj (no _ _ h.tj oz),fun u hu=>?_,tn _ _ h.tk oz,tn _ _ h.ti oz,tn _ _ h.tc oz,tn _ _ h.tm oz,tn _ _ h.tj oz,fun x hx=>?_,fun x hx=>?_,oz⟩
 ·dsimp only;by_cases e:u=j
  ·subst e;rw[cD];exact⟨aT hc hr (no _ _ hb oz),cD _ _ _⟩
  ·rw[bN _ _ e];obtain⟨h1,h2⟩:=h.ec u oz;exact⟨aT hc h1 (no _ _ h2 oz),tn _ _ h2 oz⟩
 ·exact aNq
 ·dsimp only at hx;by_cases e:x=b
  ·subst e;exact hN
  ·rw[bN _ _ e]at hx;exact h.lo x hx
def eI (n regs:Nat):fF:={ inn:=List.replicate n [],chg:=List.replicate n (List.replicate regs 0),mrk:=List.replicate n false,jn:=List.replicate n 0 }
theorem qL {α:Type}(n i:Nat) (a d:α) (hi:i<n):(List.replicate n a).getD i d=a:=by
 simp[List.getD_eq_getElem?_getD,List.getElem?_replicate,hi]
theorem oA.done (h:oA N W A n regs n):kR N W { A with iv:=fun _=>none } n regs (eI n regs):=by
 have e1:fS n regs (fun _=>none)=List.replicate n (.slice none 0 0):=by
  unfold fS jF;simp[List.eq_replicate_iff]
 have e2:lC n regs A.cv=(List.range n).map fun v=>if v<n then mX regs (A.cv v)else .slice none 0 0:=by
  unfold lC;refine List.map_congr_left fun v hv=>?_;rw[if_pos (List.mem_range.1 hv)]
 refine⟨h.st,by dsimp only;rw[e1];exact h.ri,by dsimp only;rw[e2];exact h.rc,by simpa[eI,bQ]using h.rm,by simpa[eI,aR]using h.rj,fun v hv=>.inl ⟨rfl,?_⟩,fun v hv=>?_,h.tk,h.ti,h.tc,h.tm,h.tj,h.fr,h.lo,by simp[eI],by simp[eI]⟩
 ·unfold eI;dsimp only;exact qL n v _ _ hv
 ·have e3:(eI n regs).chg.getD v []=List.replicate regs 0:=by unfold eI;dsimp only;exact qL n v _ _ hv
  rw[e3];exact h.ec v hv
end
/-- Run's other cells: the module, the result, the function, the state's address -/
structure oC (W:World) (tg:Nat->Nat) (mb ab fx p k:Nat) (mv fv:List Value):Prop where
 cm:aF W mb mv
 ca:aF W ab [.slice none 0 0,.slice none 0 0]
 cf:aF W fx fv
 cp:aF W p [.pointer (some ⟨k,0,none⟩)]
 tm:tg mb=0
 ta:tg ab=0
 tf:tg fx=0
 tp:tg p=0
theorem oC.keep {W W':World}{tg:Nat->Nat}{mb ab fx p k:Nat}{mv fv:List Value}{S:Nat->Prop}(h:oC W tg mb ab fx p k mv fv) (hc:aG S W W') (hS:∀ x,S x->tg x≠0):oC W' tg mb ab fx p k mv fv :=
 ⟨hc.own h.cm (fun e=>hS _ e h.tm),hc.own h.ca (fun e=>hS _ e h.ta),hc.own h.cf (fun e=>hS _ e h.tf),hc.own h.cp (fun e=>hS _ e h.tp),h.tm,h.ta,h.tf,h.tp⟩
theorem oC.below {W W':World}{tg:Nat->Nat}{mb ab fx p k:Nat}{mv fv:List Value}(h:oC W tg mb ab fx p k mv fv) (hb:Below W.heap.size W W'):oC W' tg mb ab fx p k mv fv:=h.keep (S:=fun _=>False) (aG.of hb) (fun _ e=>e.elim)
/-- a block that is new is tagged -/
theorem oC.tag1 {W W':World}{tg:Nat->Nat}{mb ab fx p k:Nat}{mv fv:List Value}(h:oC W tg mb ab fx p k mv fv) (h':oC W' tg mb ab fx p k mv fv) {b:Nat}(hb:W.heap.size<=b) (t:Nat):oC W' (cV tg b t) mb ab fx p k mv fv:=by
 have h1:=h.cm.1;have h2:=h.ca.1;have h3:=h.cf.1;have h4:=h.cp.1;exact⟨h'.cm,h'.ca,h'.cf,h'.cp,by rw[bN _ _ (by omega)];exact h.tm,by rw[bN _ _ (by omega)];exact h.ta,by rw[bN _ _ (by omega)];exact h.tf,by rw[bN _ _ (by omega)];exact h.tp⟩
end
theorem wU {m:bA}(h:(dS m).e=0) {k:Nat}(hk:k<m.funcs.length) {i:Nat}(hi:i<(bX m k).params.length):((bX m k).params.getD i default).lo<=((bX m k).params.getD i default).hi:=by
 unfold dS at h;split at h
 ·simp at h
 ·split at h
  ·simp at h
  ·split at h
   ·simp at h
   ·unfold eX at h;split at h
    ·rename_i f hf;have:=(mW hf).2.1;simp at this;exact absurd h this
    ·rename_i hw;have hw2:=rO hw;have h1:(cX m k).1=0:=by simpa using hw2 k hk
     unfold cX at h1;have e:m.funcs.getD k default=bX m k:=rfl;rw[e]at h1;generalize bX m k=f at *;unfold iK at h1;split at h1
     ·simp at h1
     ·split at h1
      ·simp at h1
      ·split at h1
       ·simp at h1
       ·cases hf:f.params.findIdx? dU with
        | some j=>rw[hf]at h1;simp at h1
        | none =>
         rw[List.findIdx?_eq_none_iff]at hf;have hm:f.params.getD i default∈f.params:=by
          rw[List.getD_eq_getElem?_getD,List.getElem?_eq_getElem hi];exact List.getElem_mem hi
         have:=hf _ hm;unfold dU at this;simpa using this
theorem aK7 {f:aC}{rg:Nat}(hrg:f.regs=rg) (hp:(f.params.length:Int)<=f.regs):(cL f).length=rg:=by
 unfold cL;rw[List.length_append,List.length_replicate,hrg];simp;omega
theorem aR5 {f:aC}{rg:Nat}(hrg:f.regs=rg) (hp:(f.params.length:Int)<=f.regs) (h64:∀ i,i<f.params.length->dL (f.params.getD i default)):gU rg (cL f):=by
 refine⟨aK7 hrg hp,fun i hi=>?_⟩;unfold cL;by_cases h:i<f.params.length
 ·have e:(f.params++List.replicate (f.regs.toNat-f.params.length) (⟨0,0⟩:aB)).getD i default=f.params.getD i default:=by
   rw[List.getD_eq_getElem?_getD,List.getElem?_append_left h,<-List.getD_eq_getElem?_getD]
  rw[e];exact h64 i h
 ·have e:(f.params++List.replicate (f.regs.toNat-f.params.length) (⟨0,0⟩:aB)).getD i default=⟨0,0⟩:=by
   rw[List.getD_eq_getElem?_getD,List.getElem?_append_right (by omega),List.getElem?_replicate,if_pos (by rw[hrg];simp;omega)];rfl
  rw[e];exact⟨by unfold aM;dsimp only;omega,by unfold aM;dsimp only;omega,Int.le_refl _⟩
theorem aEc (f:aC) {rg n:Nat}(hrg:f.regs=rg) (hn:n=f.code.length):fL f={ (eI n rg)with inn:=(eI n rg).inn.set 0 (cL f),mrk:=(eI n rg).mrk.set 0 true }:=by
 unfold fL eI;rw[hrg,hn];rfl
theorem aEz {f:aC}{rg n:Nat}(hrg:f.regs=rg) (hr0:0<rg) (hn:n=f.code.length) (hn0:0<n) (hp:(f.params.length:Int)<=f.regs) (h64:∀ i,i<f.params.length->dL (f.params.getD i default)):rC n rg (fL f)/\MOk n (fL f):=by
 have hb:=aR5 hrg hp h64;rw[aEc f hrg hn];unfold eI;dsimp only;refine⟨⟨si,si,si,si,fun v hv=>?_,fun v hv=>?_⟩,fun v hv hm=>?_⟩
 ·dsimp only;rw[lH];split
  ·exact .inr hb
  ·exact .inl (qL n v _ _ hv)
 ·dsimp only;rw[qL n v _ _ hv,List.length_replicate]
 ·dsimp only at hm ⊢;rw[lH]at hm ⊢;by_cases h0:v=0/\0<(List.replicate n ([]:List aB)).length
  ·rw[if_pos h0];intro e;have:=hb.1;rw[e]at this;simp at this;omega
  ·rw[if_neg (by simpa using h0),qL n v _ _ hv]at hm;cases hm
theorem aO9 {p:Prop}(h:p:=by
 obtain⟨pa,pl,pc,cb,co,cc,rfl,hcm,hcB,⟨g0,g1,g2,g3,g4⟩,hcbl,hcb1,hcb2,hcb3,hfr,hwf⟩:=dW hB hf hfl hn1 hx;clear hf;unfold aI;dsimp only;have hbl:=hr.lt;obtain⟨op,xa,xb,xc,xn⟩:=x;obtain⟨v1,v2,v3,v4,v5,v6,v7,v8,v9,v10⟩:=hi;dsimp only at *;subst hop;have hmf:=@mkF Tryz.prog;go_enter Tryz.func47,Tryz.ntmps47;go_upto_region 2 with(fail)
 generalize hW0:World.alloc _ _=W0;obtain⟨hb0,OM,OF,OR,OX,hz0⟩:=eS hW0;clear hW0 g0 g1 g2 g3 g4;have hr0:=hr.below hb0;have x5:=aX OX;have o1:=dG OR;go_cut [12] (fun v wx=>v=.bool (decide (to_=xn)&&decide (xn≠(frm:Int)+1))/\wx=W0)
 case first =>
  exact tM
 case rest =>
  exact aVx):p:=h
theorem aQf (x:dJ) (B:Nat) (m:bA) (hh:HF) (f:aC) (ta fa:Option Addr) (tl tc fl fc:Nat) (frm:Nat) (to_:Int) (b n c:Nat) (r:List aB) (w:World) (hB:B<=w.heap.size) (hf:aZ B w hh f) (hfl:frm<f.code.length) (hn1:f.code.length<=1024) (hx:f.code.getD frm default=x) (hi:cY m f x) (hr:bF w b n c r) (hrg:(n:Int)=f.regs) (hn:n<=64) (hop:x.op=0):Calls Tryz.prog 47 #[.agg #[.slice ta tl tc,.slice fa fl fc],aI hh f,.int .i64 frm,.int .i64 to_,.slice (some ⟨b,0,none⟩) n c] w (dX b n c w (some r)):=by
 exact aO9
theorem aKn (x:dJ) (B:Nat) (m:bA) (hh:HF) (f:aC) (ta fa:Option Addr) (tl tc fl fc:Nat) (frm:Nat) (to_:Int) (b n c:Nat) (r:List aB) (w:World) (hB:B<=w.heap.size) (hf:aZ B w hh f) (hfl:frm<f.code.length) (hn1:f.code.length<=1024) (hx:f.code.getD frm default=x) (hi:cY m f x) (hr:bF w b n c r) (hrg:(n:Int)=f.regs) (hn:n<=64) (hop:x.op=14):Calls Tryz.prog 47 #[.agg #[.slice ta tl tc,.slice fa fl fc],aI hh f,.int .i64 frm,.int .i64 to_,.slice (some ⟨b,0,none⟩) n c] w (dX b n c w (some r)):=by
 exact aO9
theorem aK6 (x:dJ) (B:Nat) (m:bA) (hh:HF) (f:aC) (ta fa:Option Addr) (tl tc fl fc:Nat) (frm:Nat) (to_:Int) (b n c:Nat) (r:List aB) (w:World) (hB:B<=w.heap.size) (hf:aZ B w hh f) (hfl:frm<f.code.length) (hn1:f.code.length<=1024) (hx:f.code.getD frm default=x) (hi:cY m f x) (hr:bF w b n c r) (hrg:(n:Int)=f.regs) (hn:n<=64) (hop:x.op=2):Calls Tryz.prog 47 #[.agg #[.slice ta tl tc,.slice fa fl fc],aI hh f,.int .i64 frm,.int .i64 to_,.slice (some ⟨b,0,none⟩) n c] w (dX b n c w (some (eC r x.a (fI r x.b)))):=by
 obtain⟨pa,pl,pc,cb,co,cc,rfl,hcm,hcB,⟨g0,g1,g2,g3,g4⟩,hcbl,hcb1,hcb2,hcb3,hfr,hwf⟩:=dW hB hf hfl hn1 hx;clear hf;unfold aI;dsimp only;have hbl:=hr.lt;obtain⟨op,xa,xb,xc,xn⟩:=x;obtain⟨v1,v2,v3,v4,v5,v6,v7,v8,v9,v10⟩:=hi;dsimp only at *;subst hop;have hmf:=@mkF Tryz.prog;go_enter Tryz.func47,Tryz.ntmps47;go_upto_region 2 with(fail)
 generalize hW0:World.alloc _ _=W0;obtain⟨hb0,OM,OF,OR,OX,hz0⟩:=eS hW0;clear hW0 g0 g1 g2 g3 g4;have hr0:=hr.below hb0;have x5:=aX OX;have o1:=dG OR;go_cut [12] (fun v wx=>v=.bool (decide (to_=xn)&&decide (xn≠(frm:Int)+1))/\wx=W0)
 case first =>
  exact tM
 case rest =>
  obtain⟨rfl,rfl⟩:=hcut;obtain⟨wb,hwb⟩:∃ wb:World,wb=wc:=⟨_,rfl⟩
  subst hwb;generalize hfar:(decide (to_=xn)&&decide (xn≠(frm:Int)+1))=far;have HFAR:=qd hfar;clear hfar;obtain⟨ka,rfl⟩:=Int.eq_ofNat_of_zero_le v3;have hka:ka<n:=oz
  have hka2:(ka:Int)<(n:Int):=oz
  obtain⟨r0,r1,r2,r3⟩:=hr0.cells hka;obtain⟨kb,rfl⟩:=Int.eq_ofNat_of_zero_le v5;have hkb:kb<n:=oz
  have hkb2:(kb:Int)<(n:Int):=oz
  obtain⟨t0,t1,t2,t3⟩:=hr0.cells hkb;obtain⟨⟨pl',ph'⟩,hp⟩:∃ p,r.getD kb default=p:=⟨_,rfl⟩
  rw[hp]at t0 t1;dsimp only at t0 t1;go_upto_region 8 with(fail)
  refine bC 9 kr kr ?_;simp only[TD];repeat(refine bS (fun K hK=>?_);go_simp;refine hK _ ?_;clear hK K)
  refine cF ?_;go_wp2;go_ret;go_light;refine⟨rfl,(aG.of hb0.drew).trans (jX _ _ _ _ _ _),fun out ho=>?_⟩;cases ho;unfold eC fI;rw[Int.toNat_natCast,Int.toNat_natCast,hp];exact(hr0.below ((Below.refl _ _).drew)).set hka ⟨pl',ph'⟩
theorem aBn {p:Prop}(h:p:=by
 show ¬(_=b);omega):p:=h
theorem aMd (x:dJ) (B:Nat) (m:bA) (hh:HF) (f:aC) (ta fa:Option Addr) (tl tc fl fc:Nat) (frm:Nat) (to_:Int) (b n c:Nat) (r:List aB) (w:World) (hB:B<=w.heap.size) (hf:aZ B w hh f) (hfl:frm<f.code.length) (hn1:f.code.length<=1024) (hx:f.code.getD frm default=x) (hi:cY m f x) (hr:bF w b n c r) (hrg:(n:Int)=f.regs) (hn:n<=64) (hop:x.op=18) (hrok:gU n r):Calls Tryz.prog 47 #[.agg #[.slice ta tl tc,.slice fa fl fc],aI hh f,.int .i64 frm,.int .i64 to_,.slice (some ⟨b,0,none⟩) n c] w (dX b n c w (some (eC r x.a (aS 3 (fI r x.a) ⟨1,1⟩).1))):=by
 obtain⟨pa,pl,pc,cb,co,cc,rfl,hcm,hcB,⟨g0,g1,g2,g3,g4⟩,hcbl,hcb1,hcb2,hcb3,hfr,hwf⟩:=dW hB hf hfl hn1 hx;clear hf;unfold aI;dsimp only;have hbl:=hr.lt;obtain⟨op,xa,xb,xc,xn⟩:=x;obtain⟨v1,v2,v3,v4,v5,v6,v7,v8,v9,v10⟩:=hi;dsimp only at *;subst hop;have hmf:=@mkF Tryz.prog;go_enter Tryz.func47,Tryz.ntmps47;go_upto_region 2 with(fail)
 generalize hW0:World.alloc _ _=W0;obtain⟨hb0,OM,OF,OR,OX,hz0⟩:=eS hW0;clear hW0 g0 g1 g2 g3 g4;have hr0:=hr.below hb0;have x5:=aX OX;have o1:=dG OR;go_cut [12] (fun v wx=>v=.bool (decide (to_=xn)&&decide (xn≠(frm:Int)+1))/\wx=W0)
 case first =>
  exact tM
 case rest =>
  obtain⟨rfl,rfl⟩:=hcut;obtain⟨wb,hwb⟩:∃ wb:World,wb=wc:=⟨_,rfl⟩
  subst hwb;generalize hfar:(decide (to_=xn)&&decide (xn≠(frm:Int)+1))=far;have HFAR:=qd hfar;clear hfar;obtain⟨ka,rfl⟩:=Int.eq_ofNat_of_zero_le v3;have hka:ka<n:=oz
  have hka2:(ka:Int)<(n:Int):=oz
  obtain⟨r0,r1,r2,r3⟩:=hr0.cells hka;have hcf:∀ (args:Array Value) (w:World),(callFunc 85 args).run Tryz.prog w=.ok (.enter 85 args) w:=fun _ _=>rfl;have HD:=qd (fun w=>aEy 3 (r.getD ka default) ⟨1,1⟩ w oz (hrok.2 ka oz) ⟨by unfold aM;dsimp only;omega,by unfold aM;dsimp only;omega,Int.le_refl _⟩);have HRES:=qd (show some (eC r ka (aS 3 (fI r ka) ⟨1,1⟩).1)=some (r.set ka (aS 3 (r.getD ka default) ⟨1,1⟩).1) by unfold eC fI;simp);generalize aS 3 (r.getD ka default) ⟨1,1⟩=res at *;obtain⟨⟨rlo,rhi⟩,rok⟩:=res;obtain⟨pa,hpa⟩:∃ p,r.getD ka default=p:=⟨_,rfl⟩
  rw[hpa]at HD r0 r1;clear hpa;obtain⟨alo,ahi⟩:=pa;dsimp only at HD HRES r0 r1;have HSS:Hid (∀ w',aG (· = b) wb w'->w'.cell? ⟨w.heap.size+1+1,0,none⟩=some (.slice (some ⟨b,0,none⟩) n c)/\w'.cell? ⟨w.heap.size+1+1+1,1,none⟩=some (.int .i64 ka)):=qd (fun w' hw=>by
   obtain⟨_,s0,_⟩:=dG (hw.own OR aBn);have x5:=aX (hw.own OX aBn);exact⟨s0,x5.2.2.1⟩)
  go_upto_region 24 with(fail)
  clear x5 o1 OM OF OR OX hr hmf hx hrg hfr hwf v1 v2 v4 v5 v6 v7 v8 v9 v10 hcm hcB hcbl hcb1 hcb2 hcb3 hfl hn1;generalize hA0:(Act.mk _ _:Act)=a0;have Ee:a0.eval (.tmp 9)=.pointer (some ⟨w.heap.size+1+1,0,none⟩)/\a0.eval (.tmp 11)=.pointer (some ⟨w.heap.size+1+1+1,0,none⟩)/\a0.tmps.size=290:=qB
  refine aE (fun w'=>aG (· = b) wb w') kr ((aG.refl _ wb).drew) ?_;intro K0 hK0 hHeld
  try dsimp only at hHeld
  refine aL 0 rfl ?_;refine aL 1 rfl ?_;refine aL 2 rfl ?_;refine aL 3 rfl ?_;refine aL 4 rfl ?_;refine aL 5 rfl ?_;refine aL 6 rfl ?_;refine aL 8 rfl ?_;generalize hA1:(Act.put _ _ _:Act)=a1;replace Ee:a1.eval (.tmp 127)=.pointer (some ⟨b,ka*2,none⟩)/\a1.eval (.tmp 129)=.agg #[.int .i64 1,.int .i64 1]/\a1.eval (.tmp 121)=.slice (some ⟨b,0,none⟩) n c/\a1.eval (.tmp 123)=.int .i64 ka/\a1.tmps.size=290:=oZ;refine fD 7 rfl fun K hK=>?_;refine sX ?_;refine hK.out _ _ (chq) fun hHeld=>?_;clear hK K;generalize hA2:(Act.put _ _ _:Act)=a2;replace Ee:a2.eval (.tmp 128)=.agg #[.int .i64 alo,.int .i64 ahi]/\a2.eval (.tmp 129)=.agg #[.int .i64 1,.int .i64 1]/\a2.eval (.tmp 121)=.slice (some ⟨b,0,none⟩) n c/\a2.eval (.tmp 123)=.int .i64 ka/\a2.tmps.size=290:=mQ;refine fD 9 rfl fun K hK=>?_;refine aP rfl 85 [.const (.int .i64 3),.tmp 128,.tmp 129] #[3,47,47] rfl hcf [.int .i64 3,.agg #[.int .i64 alo,.int .i64 ahi],.agg #[.int .i64 1,.int .i64 1]] iD _ (HD.out _) ?_;rintro v wM ⟨rfl,hbM⟩;have hwM:aG (· = b) wb wM:=hHeld.trans (aG.of hbM);have hzM:=hwM.size;have hrM:bF wM b n c r:=(hr0.below ((Below.refl _ _).drew)).below hbM;obtain⟨q0,q1,q2,q3⟩:=hrM.cells hka;refine hK.out _ _ (hwM) fun hHeld=>?_;clear hK K;refine aL 10 rfl ?_;refine aL 11 rfl ?_;refine aL 12 rfl ?_;refine aL 13 rfl ?_;generalize hA3:(Act.put _ _ _:Act)=a3;replace Ee:a3.eval (.tmp 131)=.agg #[.int .i64 rlo,.int .i64 rhi]/\a3.eval (.tmp 133)=.pointer (some ⟨b,ka*2,none⟩)/\a3.tmps.size=290:=rV;refine fD 14 rfl fun K hK=>?_;refine pA ?_;refine hK.out _ _ (chq) fun hHeld=>?_;clear hK K;refine aO kr ?_;refine hK0.out _ _ ?_;subst hA3;subst hA2;subst hA1;subst hA0
  try clear Ee
  simp only[GE,Act.put,SU];go_wp2;go_ret;go_light;rw[HRES.out];exact⟨rfl,((aG.of hb0).trans hwM).trans (jX _ _ _ _ _ _),fun out ho=>by cases ho;exact hrM.set hka ⟨rlo,rhi⟩⟩
theorem aDk {r:List aB}{b:Nat}{ps:List aB}{k:Nat}{q:List aB}(h:dN r b ps k=some q):dN r b ps (k+1)=if(fQ q (b+k) (ps.getD k default)).2 then some (fQ q (b+k) (ps.getD k default)).1 else none:=by
 show(dN r b ps k).bind _=_;rw[h];rfl
theorem tW {r:List aB}{b:Nat}{ps:List aB}{k:Nat}(h:dN r b ps k=none):∀ j,k<=j->dN r b ps j=none
 | 0, hj => by have : k = 0 := oz
               subst this;exact h
 | j+1,hj=>by
  by_cases e:k=j+1
  ·subst e;exact h
  ·show(dN r b ps j).bind _=_;rw[tW h j (by omega)];rfl
theorem aR1 {p:Prop}(h:p:=by
 have E1:=qd e1;have E2:=qd e2;clear e1 e2;go_wp2;go_meet
 all_goals exact⟨by simp[E1.out,E2.out],rfl⟩):p:=h
theorem aK1 (x:dJ) (B:Nat) (m:bA) (hh:HF) (f:aC) (ta fa:Option Addr) (tl tc fl fc:Nat) (frm:Nat) (to_:Int) (b n c:Nat) (r:List aB) (w:World) (hB:B<=w.heap.size) (hf:aZ B w hh f) (hfl:frm<f.code.length) (hn1:f.code.length<=1024) (hx:f.code.getD frm default=x) (hi:cY m f x) (hr:bF w b n c r) (hrg:(n:Int)=f.regs) (hn:n<=64) (hmo:cP B w (.agg #[.slice ta tl tc,.slice fa fl fc]) m) (hBb:B<=b) (hop:x.op=19):Calls Tryz.prog 47 #[.agg #[.slice ta tl tc,.slice fa fl fc],aI hh f,.int .i64 frm,.int .i64 to_,.slice (some ⟨b,0,none⟩) n c] w (dX b n c w ((dN r x.b.toNat (eD m x.n) (eD m x.n).length).map fun q=>eC q x.a kO)):=by
 have HMo:=qd hmo;clear hmo;obtain⟨RES,hRES⟩:∃ q,q=((dN r x.b.toNat (eD m x.n) (eD m x.n).length).map fun q=>eC q x.a kO):=⟨_,rfl⟩
 rw[<-hRES];have HRES:=qd hRES;clear hRES;obtain⟨pa,pl,pc,cb,co,cc,rfl,hcm,hcB,⟨g0,g1,g2,g3,g4⟩,hcbl,hcb1,hcb2,hcb3,hfr,hwf⟩:=dW hB hf hfl hn1 hx;clear hf;unfold aI;dsimp only;have hbl:=hr.lt;obtain⟨op,xa,xb,xc,xn⟩:=x;obtain⟨v1,v2,v3,v4,v5,v6,v7,v8,v9,v10⟩:=hi;dsimp only at *;subst hop;have hmf:=@mkF Tryz.prog;go_enter Tryz.func47,Tryz.ntmps47;go_upto_region 2 with(fail)
 generalize hW0:World.alloc _ _=W0;obtain⟨hb0,OM,OF,OR,OX,hz0⟩:=eS hW0;clear hW0 g0 g1 g2 g3 g4;have hr0:=hr.below hb0;have x5:=aX OX;have o1:=dG OR;go_cut [12] (fun v wx=>v=.bool (decide (to_=xn)&&decide (xn≠(frm:Int)+1))/\wx=W0)
 case first =>
  by_cases e1:to_=xn
  ·have q1:(to_==xn)=true:=by simpa using e1
   by_cases e2:xn=(frm:Int)+1
   ·have q2:(xn != (frm:Int)+1)=false:=by simpa using e2
    exact aR1
   ·have q2:(xn != (frm:Int)+1)=true:=by simpa using e2
    exact aR1
  ·have q1:(to_==xn)=false:=by simpa using e1
   go_wp2;go_meet
   all_goals exact⟨by simp[e1],rfl⟩
 case rest =>
  obtain⟨rfl,rfl⟩:=hcut;obtain⟨wb,hwb⟩:∃ wb:World,wb=wc:=⟨_,rfl⟩
  subst hwb;generalize hfar:(decide (to_=xn)&&decide (xn≠(frm:Int)+1))=far;have HFAR:=qd hfar;clear hfar;obtain⟨ka,rfl⟩:=Int.eq_ofNat_of_zero_le v3;have hka:ka<n:=oz
  have hka2:(ka:Int)<(n:Int):=oz
  obtain⟨r0,r1,r2,r3⟩:=hr0.cells hka;obtain⟨kb,rfl⟩:=Int.eq_ofNat_of_zero_le v5;obtain⟨c1,c2,c3⟩:=v10 rfl;obtain⟨kn,rfl⟩:=Int.eq_ofNat_of_zero_le c1;obtain⟨_,_,_,_,_,_,hv,-,hfs⟩:=HMo.out;cases hv;obtain⟨hfl1,hfl2,fb,fo,hfb,H,hH⟩:=hfs;have hkn:kn<fl:=oz
  have hkn2:(kn:Int)<(fl:Int):=oz
  obtain⟨rfl,hfbB⟩:=hfb oz;obtain⟨⟨-,i1,-,-,-⟩,-,⟨hpl,hpm,pb,po,hpb,hpc⟩,-,-,-⟩:=hH kn hkn;have hP:eD m kn=(m.funcs.getD kn default).params:=by unfold eD;rw[Int.toNat_natCast]
  have hP2:(bX m (kn:Int).toNat).params=(m.funcs.getD kn default).params:=by unfold bX;rw[Int.toNat_natCast]
  rw[hP2]at c3;have hres:=HRES.out;rw[hP,Int.toNat_natCast]at hres;have HR9:=qd hres;clear hP hres HRES hP2 hH hfb;generalize (m.funcs.getD kn default).params=ps at *;generalize H kn=hk at *;obtain⟨qa,ql,qc,_,_,_⟩:=hk;dsimp only at i1 hpl hpm hpb hpc;subst hpl;have j1:=(hb0.cell (p:=⟨fb,fo+kn*5+1,none⟩) (by show fb<_;omega)).trans i1;have m5:=aD OM;have hpsl:kb+ps.length<=n:=oz
  have hpm':ps.length<=9223372036854775807:=hpm;have HPB:=qd hpb;have HPC:=qd hpc;have HOX:=qd OX;have HOR:=qd OR;have HR0:=qd hr0;have hne:b≠w.heap.size+1+1:=oz
  clear OX OR hr0 hr hmf hx hrg hwf v1 v2 v4 v6 v7 v8 v9 v10 hcm hcB hcbl hcb1 hcb2 hcb3 hn1 r0 r1 r2 r3 hpb hpc i1 c1 c2 c3 hpm;go_wp2;go_loopw [183] (fun i wx=>∃ (k:Nat) (q:List aB),k<=ps.length/\i=.int .i64 k/\dN r kb ps k=some q/\Hid (bF wx b n c q)/\Hid (aF wx (w.heap.size+1+1) [.slice (some ⟨b,0,none⟩) n c])/\Hid (aF wx (w.heap.size+1+1+1) [.int .i64 19,.int .i64 ka,.int .i64 kb,.int .i64 xc,.int .i64 kn])/\aG (· = b) wb wx) (fun i _=>ps.length-(intOf i).toNat)
  case atStart=>exact⟨0,r,Nat.zero_le _,rfl,rfl,HR0,HOR,HOX,aG.refl _ _⟩
  case round =>
   clear HOX HOR x5 o1 m5 OM OF j1;obtain⟨k,q,hk,rfl,hmq,HR,HOR,HOX,hC⟩:=hrel;have hzr:=hC.size;have x5:=aX HOX.out;have o1:=dG HOR.out;obtain⟨r0,r1,r2,r3⟩:=HR.out.cells hka;by_cases hkt:k<ps.length
   ·have d3:(k:Int)<(ps.length:Int):=oz
    have hwk:IntKind.i64.wrap ((k:Int)+1)=(k:Int)+1:=IntWalk.i64_in _ oz;have hwb:IntKind.i64.wrap ((kb:Int)+(k:Int))=(kb:Int)+(k:Int):=IntWalk.i64_in _ oz;obtain⟨rfl,hpbB⟩:=HPB.out oz;obtain⟨p0,p1,-,-⟩:=HPC.out k hkt;have y0:=(hC.cellAt (po+k*2) (b:=pb) oz aBn).trans ((hb0.cell (p:=⟨pb,po+k*2,none⟩) (by show pb<_;omega)).trans p0);have y1:=(hC.cellAt (po+k*2+1) (b:=pb) oz aBn).trans ((hb0.cell (p:=⟨pb,po+k*2+1,none⟩) (by show pb<_;omega)).trans p1);have hms:=aDk hmq;have HMe:=qd (fun w' h1 h2=>nW (kb+k) (ps.getD k default) (w.heap.size+1+1) b n c q w' h1 h2 oz hne hn);rw[show((kb+k:Nat):Int)=(kb:Int)+(k:Int) by omega]at HMe;clear p0 p1;generalize fQ q (kb+k) (ps.getD k default)=mq at *;obtain⟨mq,mok⟩:=mq;generalize ps.getD k default=pp at *;obtain⟨plo,phi⟩:=pp;unfold aJ at HMe;dsimp only at HMe y0 y1 hms;clear r0 r1 r2 r3;go_upto_region 38 with(fail)
    generalize hW3:World.alloc _ _=W3;have hb3:Below wr.heap.size wr W3:=by rw[<-hW3];exact bel
    have OS:aF W3 wr.heap.size [.int .i64 plo,.int .i64 phi]:=by rw[<-hW3];exact aF.new _ _ _
    have HM2:=qd (HMe.out W3 (HOR.out.below hb3) (HR.out.below hb3));have g3:=aD OS;have x3:=aX (HOX.out.below hb3);clear x5 o1 hW3;cases mok
    ·go_wp2_with (first|(go_at_call 83;refine HM2.out.mono ?_;rintro e w9 ⟨rfl,hr9,hc9⟩)|fail)
     try rw[Exit.noGoto_ret]
     go_ret;go_light;rw[HR9.out,tW (k:=k+1) (by rw[hms];rfl) _ (by omega)];exact⟨rfl,((aG.of hb0).trans (hC.trans (aG.of hb3))).trans hc9,fun out ho=>by cases ho⟩
    ·go_wp2_with (first|(go_at_call 83;refine HM2.out.mono ?_;rintro e w9 ⟨rfl,hr9,hc9⟩;have hz9:=hc9.size)|fail)
     refine⟨⟨k+1,mq,oz,si,by rw[hms];rfl,qd hr9,qd (hc9.own (HOR.out.below hb3) aBn),qd (hc9.own (HOX.out.below hb3) aBn),(hC.trans (aG.of hb3)).trans hc9⟩,?_⟩;go_light;exact ml
   ·have hkk:k=ps.length:=oz
    subst hkk;have d3:¬(ps.length:Int)<(ps.length:Int):=oz
    have HMQ:=qd hmq;have HAl:=qd tA;unfold aJ at HAl;have hbL:=HR.out.lt;go_upto_region 41 with(fail)
    refine bI 4 kr kr (fun T F hF hall=>?_);simp only[TD];have hFc:=fun t=>(bT (hF t)).1;have hFf:=fun t=>(bT (hF t)).2;have hFs:=fun t=>(hF t).size;have hNE:Nonempty T:=(hall _ (Below.refl _ _)).elim fun t _=>⟨t⟩;repeat(refine aU (fun K hK=>?_);go_simp;refine hK _ ?_;clear hK K)
    (refine aU (fun K hK=>?_);go_simp;refine⟨_,fun t=>bE (hF t) hall (HAl.out (F t)),hK _ ?_⟩;clear hK K)
    repeat(refine aU (fun K hK=>?_);go_simp;refine hK _ ?_;clear hK K)
    refine gX (fun t=>?_);have hft:=hF t;go_wp2
    try rw[Exit.noGoto_ret]
    go_ret;go_light;rw[HR9.out,HMQ.out];refine⟨rfl,((aG.of hb0).trans (hC.trans (aG.of hft))).trans (jX _ _ _ _ _ _),fun out ho=>?_⟩;cases ho;unfold eC;rw[Int.toNat_natCast];exact(HR.out.below hft).set hka kO
def sI (p:aB):List Value:=[.int .i64 p.lo,.int .i64 p.hi]
theorem aVi (W:World) (a b:Nat) (u v x y:Value):aG (fun k=>k=a\/k=b) W ((((W.setCell ⟨a,0,none⟩ u).setCell ⟨a,1,none⟩ v).setCell ⟨b,0,none⟩ x).setCell ⟨b,1,none⟩ y) :=
 aG.setCell (aG.setCell (aG.setCell (aG.setCell (aG.refl _ _) (.inl (.inl rfl)) _) (.inl (.inl rfl)) _) (.inl (.inr rfl)) _) (.inl (.inr rfl)) _
theorem aEg (lb cb hb:Nat) (low high:aB) (x:dJ) (b n c:Nat) (r:List aB) (w:World) (ol:aF w lb (sI low)) (oh:aF w hb (sI high)) (oc:aF w cb [.int .i64 x.op,.int .i64 x.a,.int .i64 x.b,.int .i64 x.c,.int .i64 x.n]) (hr:bF w b n c r)
 (ha0:0<=x.a) (ha1:x.a<(n:Int)) (hb0:0<=x.b) (hb1:x.b<(n:Int)) (hn:n<=64) (hne:lb≠hb) :
 Calls Tryz.prog 18 #[.slice (some ⟨b,0,none⟩) n c,.pointer (some ⟨lb,0,none⟩),.pointer (some ⟨cb,0,none⟩),.pointer (some ⟨hb,0,none⟩)] w fun e w'=>e=.returned (.tuple #[])/\aF w' lb (sI (tY x (low,high) r).1)/\aF w' hb (sI (tY x (low,high) r).2)/\aG (fun k=>k=lb\/k=hb) w w':=by
 obtain⟨op,xa,xb,xc,xn⟩:=x;dsimp only at *;obtain⟨ka,rfl⟩:=Int.eq_ofNat_of_zero_le ha0;obtain⟨kb,rfl⟩:=Int.eq_ofNat_of_zero_le hb0;have hka:ka<n:=oz
 have hkb:kb<n:=oz
 obtain⟨a0,a1,-,-⟩:=hr.cells hka;obtain⟨b0,b1,-,-⟩:=hr.cells hkb;have HOL:=qd ol;have HOH:=qd oh;have l2:=aD ol;have h2:=aD oh;have c5:=aX oc;have hbl:=hr.lt;have HJ1:=qd (fun w=>xX low (r.getD ka default) w);have HJ2:=qd (fun w=>xX high (r.getD kb default) w);unfold tY fI;dsimp only;rw[Int.toNat_natCast,Int.toNat_natCast];generalize cJ low (r.getD ka default)=j1 at *;generalize cJ high (r.getD kb default)=j2 at *;obtain⟨j1l,j1h⟩:=j1;obtain⟨j2l,j2h⟩:=j2;generalize r.getD ka default=pa at *;generalize r.getD kb default=pb at *;obtain⟨pal,pah⟩:=pa;obtain⟨pbl,pbh⟩:=pb;obtain⟨ll,lh⟩:=low;obtain⟨hl,hh⟩:=high;unfold sI at *;dsimp only at *;clear ol oh oc hr;have hne2:hb≠lb:=fun e=>hne e.symm;go_enter Tryz.func18,Tryz.ntmps18;refine bI 14 kr kr (fun T F hF hall=>?_);simp only[TD];have hFc:=fun t=>(bT (hF t)).1;have hFf:=fun t=>(bT (hF t)).2;have hFs:=fun t=>(hF t).size;have hNE:Nonempty T:=(hall _ (Below.refl _ _)).elim fun t _=>⟨t⟩;repeat(refine aU (fun K hK=>?_);go_simp;refine hK _ ?_;clear hK K)
 (refine aU (fun K hK=>?_);go_simp;refine⟨_,fun t=>bE (hF t) hall (HJ1.out (F t)),hK _ ?_⟩;clear hK K)
 repeat(refine aU (fun K hK=>?_);go_simp;refine hK _ ?_;clear hK K)
 (refine aU (fun K hK=>?_);go_simp;refine⟨_,fun t=>bE (hF t) hall (HJ2.out (F t)),hK _ ?_⟩;clear hK K)
 repeat(refine aU (fun K hK=>?_);go_simp;refine hK _ ?_;clear hK K)
 refine gX (fun t=>?_);have hft:=hF t;go_wp2
 go_end0
 go_light;have h1:=(((HOL.out.below hft).set 0 (.int .i64 j1l) si).set 1 (.int .i64 j1h) si)
 have h2:=(HOH.out.below hft)
 refine⟨rfl,?_,?_,(aG.of hft).trans (aVi _ _ _ _ _ _ _)⟩
 ·exact(h1.setOther (p:=⟨hb,0,none⟩) _ hne2).setOther (p:=⟨hb,1,none⟩) _ hne2
 ·exact(((h2.setOther (p:=⟨lb,0,none⟩) _ hne).setOther (p:=⟨lb,1,none⟩) _ hne).set 0 (.int .i64 j2l) si).set 1 (.int .i64 j2h) si
end Go.Proofs.YteebpnbdihcfmaaGreatDoor
