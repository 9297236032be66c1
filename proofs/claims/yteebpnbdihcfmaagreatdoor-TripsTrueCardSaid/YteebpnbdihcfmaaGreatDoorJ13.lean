/- Package bounds; Package bounds; Package bounds; append([]T{}, xs; Package slices; Package bounds; Package bounds; Package bounds; Package bounds; Plain law; Plain law; Package bounds -/
import Derived.Test.YteebpnbdihcfmaaGreatDoorJ12
import Derived.Test.YteebpnbdihcfmaaGreatDoorJ05
import Derived.Test.YteebpnbdihcfmaaGreatDoorJ01
import Derived.Deep.AppendSrc
import Derived.Test.YteebpnbdihcfmaaGreatDoorJ08
import Derived.Lib.AppendZerosOnto
import Derived.Lib.SliceRun
import Derived.Test.YteebpnbdihcfmaaGreatDoorJ06
import Derived.Test.YteebpnbdihcfmaaGreatDoorJ09
import Derived.Test.YteebpnbdihcfmaaGreatDoorJ02
set_option linter.unusedVariables false
set_option linter.unusedSimpArgs false
set_option maxRecDepth 100000
set_option maxHeartbeats 20000000
namespace Go.Proofs.YteebpnbdihcfmaaGreatDoor
open Go.RowKit
section
def chgTo (old next:List PSpan) (c:List Int) (j:Nat):List Int:=(List.range c.length).map fun i=>if i<j/\growB (old.getD i default) (next.getD i default)=true then wrap64 (c.getD i 0+1)else c.getD i 0
def someTo (old next:List PSpan) (j:Nat):Bool:=(List.range j).any fun i=>growB (old.getD i default) (next.getD i default)
def innTo (thr:List Int) (jv:Int) (old next:List PSpan) (j:Nat):List PSpan:=(List.range old.length).map fun i=>if i<j then mergeOne thr jv (old.getD i default) (next.getD i default)else old.getD i default
theorem range_getD {α:Type}(l:List α) (d:α):(List.range l.length).map (fun i=>l.getD i d)=l:=by
 apply List.ext_getElem?;intro i;by_cases h:i<l.length
 ·simp[h,List.getD_eq_getElem?_getD]
 ·simp[h]
theorem chgTo_zero (old next:List PSpan) (c:List Int):chgTo old next c 0=c:=by
 unfold chgTo;simp only[Nat.not_lt_zero,false_and,if_false];exact range_getD c 0
theorem innTo_zero (thr:List Int) (jv:Int) (old next:List PSpan):innTo thr jv old next 0=old:=by
 unfold innTo;simp only[Nat.not_lt_zero,if_false];exact range_getD old default
theorem chgTo_len (old next:List PSpan) (c:List Int) (j:Nat):(chgTo old next c j).length=c.length:=by simp[chgTo]
theorem innTo_len (thr:List Int) (jv:Int) (old next:List PSpan) (j:Nat):(innTo thr jv old next j).length=old.length:=by simp[innTo]
theorem chgTo_at (old next:List PSpan) (c:List Int) {j:Nat}(hj:j<c.length):(chgTo old next c j).getD j 0=c.getD j 0:=by
 unfold chgTo;rw[getD_mapR _ _ _ _ hj,if_neg (by omega)]
theorem innTo_at (thr:List Int) (jv:Int) (old next:List PSpan) {j:Nat}(hj:j<old.length):(innTo thr jv old next j).getD j default=old.getD j default:=by
 unfold innTo;rw[getD_mapR _ _ _ _ hj,if_neg (by omega)]
theorem chgTo_yes (old next:List PSpan) (c:List Int) {j:Nat}(hj:j<c.length) (hg:growB (old.getD j default) (next.getD j default)=true):chgTo old next c (j+1)=(chgTo old next c j).set j (wrap64 (c.getD j 0+1)):=by
 apply List.ext_getElem?;intro i;by_cases e:i=j
 ·subst e;rw[List.getElem?_set_self (by rw[chgTo_len];exact hj)];unfold chgTo;rw[List.getElem?_map,List.getElem?_range hj];simp only[Option.map_some];rw[if_pos ⟨by omega,hg⟩]
 ·rw[List.getElem?_set_ne (by omega)];unfold chgTo;by_cases h:i<c.length
  ·rw[List.getElem?_map,List.getElem?_map,List.getElem?_range h];simp only[Option.map_some];have:(i<j+1)↔i<j:=oz
   simp only[this]
  ·rw[List.getElem?_eq_none (by simp;omega),List.getElem?_eq_none (by simp;omega)]
theorem chgTo_no (old next:List PSpan) (c:List Int) {j:Nat}(hg:growB (old.getD j default) (next.getD j default)=false):chgTo old next c (j+1)=chgTo old next c j:=by
 unfold chgTo;apply List.map_congr_left;intro i _;by_cases e:i=j
 ·subst e;rw[if_neg (fun h=>by rw[hg]at h;exact absurd h.2 (by decide)),if_neg (fun h=>by omega)]
 ·have:(i<j+1)↔i<j:=oz
  simp only[this]
theorem someTo_succ (old next:List PSpan) (j:Nat):someTo old next (j+1)=(someTo old next j||growB (old.getD j default) (next.getD j default)):=by
 unfold someTo;rw[List.range_succ,List.any_append];simp
theorem chgTo_none (old next:List PSpan) (c:List Int):∀ j:Nat,someTo old next j=false->chgTo old next c j=c
 | 0,_=>chgTo_zero old next c
 | j+1,h=>by
  rw[someTo_succ,Bool.or_eq_false_iff]at h;rw[chgTo_no old next c h.2];exact chgTo_none old next c j h.1
theorem innTo_step (thr:List Int) (jv:Int) (old next:List PSpan) {j:Nat}(hj:j<old.length):innTo thr jv old next (j+1)=(innTo thr jv old next j).set j (mergeOne thr jv (old.getD j default) (next.getD j default)):=by
 apply List.ext_getElem?;intro i;by_cases e:i=j
 ·subst e;rw[List.getElem?_set_self (by rw[innTo_len];exact hj)];unfold innTo;rw[List.getElem?_map,List.getElem?_range hj];simp only[Option.map_some];rw[if_pos (by omega)]
 ·rw[List.getElem?_set_ne (by omega)];unfold innTo;by_cases h:i<old.length
  ·rw[List.getElem?_map,List.getElem?_map,List.getElem?_range h];simp only[Option.map_some];have:(i<j+1)↔i<j:=oz
   simp only[this]
  ·rw[List.getElem?_eq_none (by simp;omega),List.getElem?_eq_none (by simp;omega)]
theorem innTo_end (thr:List Int) (jv:Int) (old next:List PSpan):innTo thr jv old next old.length=innNext thr jv old next:=by
 unfold innTo innNext;apply List.map_congr_left;intro i hi;rw[if_pos (List.mem_range.1 hi)]
section
variable {N : Nat} {W : World} {A : BAd} {n regs : Nat} {s : PBS}
theorem BAt.setC2 {v:Nat}{L:List Int}(h:BAt N W A n regs { s with chg:=s.chg.set v L }) (hv:v<n) (i:Nat) (x:Int):BAt N (W.setCell ⟨(A.cv v).1,i,none⟩ (.int .i64 x)) A n regs { s with chg:=s.chg.set v (L.set i x) }:=by
 have h1:=h.setC hv i x;have hl:=h.lc;dsimp only at h1 hl;rw[List.length_set]at hl;rw[getD_set _ _ _ _ _ (by omega),if_pos rfl,List.set_set]at h1;exact h1
theorem BAt.setS2 {v:Nat}{L:List PSpan}(h:BAt N W A n regs { s with inn:=s.inn.set v L }) (hv:v<n) {b c:Nat}(hb:A.iv v=some (b,c)) {i:Nat}(hi:i<regs) (p:PSpan):BAt N ((W.setCell ⟨b,i*2,none⟩ (.int .i64 p.lo)).setCell ⟨b,i*2+1,none⟩ (.int .i64 p.hi)) A n regs { s with inn:=s.inn.set v (L.set i p) }:=by
 have h1:=h.setS hv hb hi p;have hl:=h.li;dsimp only at h1 hl;rw[List.length_set]at hl;rw[getD_set _ _ _ _ _ (by omega),if_pos rfl,List.set_set]at h1;exact h1
theorem set_getD {α:Type}(l:List α) (i:Nat) (d:α):l.set i (l.getD i d)=l:=by
 apply List.ext_getElem?;intro j;by_cases e:j=i
 ·subst e;by_cases h:j<l.length
  ·rw[List.getElem?_set_self h,List.getD_eq_getElem?_getD,List.getElem?_eq_getElem h];rfl
  ·rw[List.set_eq_of_length_le (by omega)]
 ·rw[List.getElem?_set_ne (by omega)]
end
end
section
/-- the state, with the changes' rows of the first j instructions -/
structure MInit (N:Nat) (W:World) (A:BAd) (n regs j:Nat):Prop where
 st:Own W A.k (A.cells n)
 ri:W.ownsRow 0 39 1 (.slice (some ⟨A.ib,0,none⟩) n A.ic) n (List.replicate n (.slice none 0 0))
 rc:W.ownsRow 0 50 1 (.slice (some ⟨A.cb,0,none⟩) n A.cc) n ((List.range n).map fun v=>if v<j then cvVal regs (A.cv v)else .slice none 0 0)
 rm:W.ownsRow 0 4 1 (.slice (some ⟨A.mb,0,none⟩) n A.mc) n (List.replicate n (.bool false))
 rj:W.ownsRow 0 3 1 (.slice (some ⟨A.jb,0,none⟩) n A.jc) n (List.replicate n (.int .i64 0))
 ec:∀ v,v<j->W.ownsRow 0 3 1 (cvVal regs (A.cv v)) regs (Nums (List.replicate regs 0))/\A.tg (A.cv v).1=7+2*v
 tk:A.tg A.k=1
 ti:A.tg A.ib=2
 tc:A.tg A.cb=3
 tm:A.tg A.mb=4
 tj:A.tg A.jb=5
 fr:∀ b,W.heap.size<=b->A.tg b=0
 lo:∀ b,A.tg b≠0->N<=b
 hj:j<=n
section
variable {N : Nat} {W W' : World} {A : BAd} {n regs j : Nat} {S : Nat -> Prop}
theorem MInit.keep (h:MInit N W A n regs j) (hc:Chg S W W') (hS:∀ x,S x->A.tg x=0):MInit N W' A n regs j:=by
 have no:∀ (b t:Nat),A.tg b=t->t≠0->¬S b:=fun b t hb ht e=>ht (by rw[<-hb,hS b e]);refine⟨hc.own h.st (no _ _ h.tk oz),rowB_chg hc h.ri (no _ _ h.ti oz),rowB_chg hc h.rc (no _ _ h.tc oz),rowB_chg hc h.rm (no _ _ h.tm oz),rowB_chg hc h.rj (no _ _ h.tj oz),fun v hv=>?_,h.tk,h.ti,h.tc,h.tm,h.tj,fun b hb=>h.fr b (Nat.le_trans hc.size hb),h.lo,h.hj⟩;obtain⟨h1,h2⟩:=h.ec v hv;exact⟨rowB_chg hc h1 (no _ _ h2 oz),h2⟩
theorem MInit.below (h:MInit N W A n regs j) (hb:Below W.heap.size W W'):MInit N W' A n regs j:=h.keep (S:=fun _=>False) (Chg.of hb) (fun _ e=>e.elim)
theorem rows_set (n j regs:Nat) (cv:Nat->Nat×Nat) (p:Nat×Nat) (hj:j<n):((List.range n).map fun v=>if v<j then cvVal regs (cv v)else Value.slice none 0 0).set j (cvVal regs p)=(List.range n).map fun v=>if v<j+1 then cvVal regs (updF cv j p v)else .slice none 0 0:=by
 apply List.ext_getElem?;intro i;by_cases e:i=j
 ·subst e;rw[List.getElem?_set_self (by simpa using hj),List.getElem?_map,List.getElem?_range hj];simp only[Option.map_some];rw[if_pos (by omega),updF_self]
 ·rw[List.getElem?_set_ne (by omega)];by_cases hi:i<n
  ·rw[List.getElem?_map,List.getElem?_map,List.getElem?_range hi];simp only[Option.map_some];rw[updF_ne _ _ e];have:(i<j+1)↔i<j:=oz
   simp only[this]
  ·rw[List.getElem?_eq_none (by simp;omega),List.getElem?_eq_none (by simp;omega)]
/-- a row of changes more: it lies in b, which is nobody's -/
theorem MInit.row (h:MInit N W A n regs j) (hj:j<n) {b c:Nat}(hr:W.ownsRow 0 3 1 (.slice (some ⟨b,0,none⟩) regs c) regs (Nums (List.replicate regs 0))) (hb:A.tg b=0) (hN:N<=b):MInit N (W.setCell ⟨A.cb,j,none⟩ (.slice (some ⟨b,0,none⟩) regs c)) { A with cv:=updF A.cv j (b,c),tg:=updF A.tg b (7+2*j) } n regs (j+1):=by
 have hc:=chgSet W A.cb j (.slice (some ⟨b,0,none⟩) regs c);have no:∀ (x t:Nat),A.tg x=t->t≠3->¬(x=A.cb):=fun x t hx ht e=>ht (by rw[<-hx,e,h.tc]);have tn:∀ (x t:Nat),A.tg x=t->t≠0->updF A.tg b (7+2*j) x=t:=fun x t hx ht=>by rw[updF_ne _ _ (fun e=>ht (by rw[<-hx,e,hb])),hx]
 have hm:=row_set h.rc j (.slice (some ⟨b,0,none⟩) regs c);have e:=rows_set n j regs A.cv (b,c) hj;rw[show cvVal regs (b,c)=.slice (some ⟨b,0,none⟩) regs c from rfl]at e;rw[e]at hm;have hbl:=row_ltB hr;refine⟨hc.own h.st (no _ _ h.tk oz),rowB_chg hc h.ri (no _ _ h.ti oz),hm,rowB_chg hc h.rm (no _ _ h.tm oz),rowB_chg hc h.rj (no _ _ h.tj oz),fun u hu=>?_,tn _ _ h.tk oz,tn _ _ h.ti oz,tn _ _ h.tc oz,tn _ _ h.tm oz,tn _ _ h.tj oz,fun x hx=>?_,fun x hx=>?_,oz⟩
 ·dsimp only;by_cases e:u=j
  ·subst e;rw[updF_self];exact⟨rowB_chg hc hr (no _ _ hb oz),updF_self _ _ _⟩
  ·rw[updF_ne _ _ e];obtain⟨h1,h2⟩:=h.ec u oz;exact⟨rowB_chg hc h1 (no _ _ h2 oz),tn _ _ h2 oz⟩
 ·have h3:W.heap.size<=x:=Nat.le_trans hc.size hx;dsimp only;rw[updF_ne _ _ (by omega)];exact h.fr x h3
 ·dsimp only at hx;by_cases e:x=b
  ·subst e;exact hN
  ·rw[updF_ne _ _ e]at hx;exact h.lo x hx
def zeroPS (n regs:Nat):PBS:={ inn:=List.replicate n [],chg:=List.replicate n (List.replicate regs 0),mrk:=List.replicate n false,jn:=List.replicate n 0 }
theorem getD_rep {α:Type}(n i:Nat) (a d:α) (hi:i<n):(List.replicate n a).getD i d=a:=by
 simp[List.getD_eq_getElem?_getD,List.getElem?_replicate,hi]
theorem MInit.done (h:MInit N W A n regs n):BAt N W { A with iv:=fun _=>none } n regs (zeroPS n regs):=by
 have e1:ivCells n regs (fun _=>none)=List.replicate n (.slice none 0 0):=by
  unfold ivCells ivVal;simp[List.eq_replicate_iff]
 have e2:cvCells n regs A.cv=(List.range n).map fun v=>if v<n then cvVal regs (A.cv v)else .slice none 0 0:=by
  unfold cvCells;refine List.map_congr_left fun v hv=>?_;rw[if_pos (List.mem_range.1 hv)]
 refine⟨h.st,by dsimp only;rw[e1];exact h.ri,by dsimp only;rw[e2];exact h.rc,by simpa[zeroPS,Bools]using h.rm,by simpa[zeroPS,Nums]using h.rj,fun v hv=>.inl ⟨rfl,?_⟩,fun v hv=>?_,h.tk,h.ti,h.tc,h.tm,h.tj,h.fr,h.lo,by simp[zeroPS],by simp[zeroPS]⟩
 ·unfold zeroPS;dsimp only;exact getD_rep n v _ _ hv
 ·have e3:(zeroPS n regs).chg.getD v []=List.replicate regs 0:=by unfold zeroPS;dsimp only;exact getD_rep n v _ _ hv
  rw[e3];exact h.ec v hv
end
/-- Run's other cells: the module, the result, the function, the state's address -/
structure Boxes (W:World) (tg:Nat->Nat) (mb ab fx p k:Nat) (mv fv:List Value):Prop where
 cm:Own W mb mv
 ca:Own W ab [.slice none 0 0,.slice none 0 0]
 cf:Own W fx fv
 cp:Own W p [.pointer (some ⟨k,0,none⟩)]
 tm:tg mb=0
 ta:tg ab=0
 tf:tg fx=0
 tp:tg p=0
theorem Boxes.keep {W W':World}{tg:Nat->Nat}{mb ab fx p k:Nat}{mv fv:List Value}{S:Nat->Prop}(h:Boxes W tg mb ab fx p k mv fv) (hc:Chg S W W') (hS:∀ x,S x->tg x≠0):Boxes W' tg mb ab fx p k mv fv :=
 ⟨hc.own h.cm (fun e=>hS _ e h.tm),hc.own h.ca (fun e=>hS _ e h.ta),hc.own h.cf (fun e=>hS _ e h.tf),hc.own h.cp (fun e=>hS _ e h.tp),h.tm,h.ta,h.tf,h.tp⟩
theorem Boxes.below {W W':World}{tg:Nat->Nat}{mb ab fx p k:Nat}{mv fv:List Value}(h:Boxes W tg mb ab fx p k mv fv) (hb:Below W.heap.size W W'):Boxes W' tg mb ab fx p k mv fv:=h.keep (S:=fun _=>False) (Chg.of hb) (fun _ e=>e.elim)
/-- a block that is new is tagged -/
theorem Boxes.tag1 {W W':World}{tg:Nat->Nat}{mb ab fx p k:Nat}{mv fv:List Value}(h:Boxes W tg mb ab fx p k mv fv) (h':Boxes W' tg mb ab fx p k mv fv) {b:Nat}(hb:W.heap.size<=b) (t:Nat):Boxes W' (updF tg b t) mb ab fx p k mv fv:=by
 have h1:=h.cm.1;have h2:=h.ca.1;have h3:=h.cf.1;have h4:=h.cp.1;exact⟨h'.cm,h'.ca,h'.cf,h'.cp,by rw[updF_ne _ _ (by omega)];exact h.tm,by rw[updF_ne _ _ (by omega)];exact h.ta,by rw[updF_ne _ _ (by omega)];exact h.tf,by rw[updF_ne _ _ (by omega)];exact h.tp⟩
end
theorem params_fine {m:PMod}(h:(mayP m).e=0) {k:Nat}(hk:k<m.funcs.length) {i:Nat}(hi:i<(fnAt m k).params.length):((fnAt m k).params.getD i default).lo<=((fnAt m k).params.getD i default).hi:=by
 unfold mayP at h;split at h
 ·simp at h
 ·split at h
  ·simp at h
  ·split at h
   ·simp at h
   ·unfold mayWholes at h;split at h
    ·rename_i f hf;have:=(firstI_spec hf).2.1;simp at this;exact absurd h this
    ·rename_i hw;have hw2:=firstI_no hw;have h1:(wholeP m k).1=0:=by simpa using hw2 k hk
     unfold wholeP at h1;have e:m.funcs.getD k default=fnAt m k:=rfl;rw[e]at h1;generalize fnAt m k=f at *;unfold wholeQ at h1;split at h1
     ·simp at h1
     ·split at h1
      ·simp at h1
      ·split at h1
       ·simp at h1
       ·cases hf:f.params.findIdx? emptyB with
        | some j=>rw[hf]at h1;simp at h1
        | none =>
         rw[List.findIdx?_eq_none_iff]at hf;have hm:f.params.getD i default∈f.params:=by
          rw[List.getD_eq_getElem?_getD,List.getElem?_eq_getElem hi];exact List.getElem_mem hi
         have:=hf _ hm;unfold emptyB at this;simpa using this
theorem begin_len {f:PFunc}{rg:Nat}(hrg:f.regs=rg) (hp:(f.params.length:Int)<=f.regs):(beginP f).length=rg:=by
 unfold beginP;rw[List.length_append,List.length_replicate,hrg];simp;omega
theorem begin_ok {f:PFunc}{rg:Nat}(hrg:f.regs=rg) (hp:(f.params.length:Int)<=f.regs) (h64:∀ i,i<f.params.length->SpOk (f.params.getD i default)):LOk rg (beginP f):=by
 refine⟨begin_len hrg hp,fun i hi=>?_⟩;unfold beginP;by_cases h:i<f.params.length
 ·have e:(f.params++List.replicate (f.regs.toNat-f.params.length) (⟨0,0⟩:PSpan)).getD i default=f.params.getD i default:=by
   rw[List.getD_eq_getElem?_getD,List.getElem?_append_left h,<-List.getD_eq_getElem?_getD]
  rw[e];exact h64 i h
 ·have e:(f.params++List.replicate (f.regs.toNat-f.params.length) (⟨0,0⟩:PSpan)).getD i default=⟨0,0⟩:=by
   rw[List.getD_eq_getElem?_getD,List.getElem?_append_right (by omega),List.getElem?_replicate,if_pos (by rw[hrg];simp;omega)];rfl
  rw[e];exact⟨by unfold In64;dsimp only;omega,by unfold In64;dsimp only;omega,Int.le_refl _⟩
theorem start_is (f:PFunc) {rg n:Nat}(hrg:f.regs=rg) (hn:n=f.code.length):startS f={ (zeroPS n rg)with inn:=(zeroPS n rg).inn.set 0 (beginP f),mrk:=(zeroPS n rg).mrk.set 0 true }:=by
 unfold startS zeroPS;rw[hrg,hn];rfl
theorem start_ok {f:PFunc}{rg n:Nat}(hrg:f.regs=rg) (hr0:0<rg) (hn:n=f.code.length) (hn0:0<n) (hp:(f.params.length:Int)<=f.regs) (h64:∀ i,i<f.params.length->SpOk (f.params.getD i default)):SOk n rg (startS f)/\MOk n (startS f):=by
 have hb:=begin_ok hrg hp h64;rw[start_is f hrg hn];unfold zeroPS;dsimp only;refine⟨⟨si,si,si,si,fun v hv=>?_,fun v hv=>?_⟩,fun v hv hm=>?_⟩
 ·dsimp only;rw[getD_ext];split
  ·exact .inr hb
  ·exact .inl (getD_rep n v _ _ hv)
 ·dsimp only;rw[getD_rep n v _ _ hv,List.length_replicate]
 ·dsimp only at hm ⊢;rw[getD_ext]at hm ⊢;by_cases h0:v=0/\0<(List.replicate n ([]:List PSpan)).length
  ·rw[if_pos h0];intro e;have:=hb.1;rw[e]at this;simp at this;omega
  ·rw[if_neg (by simpa using h0),getD_rep n v _ _ hv]at hm;cases hm
section
section
variable {P : Program} (w : World)
theorem run_append_copy (t ty e:TypeId) (i:TypeInfo) (z:Value) (size bytes:Nat) (ht:P.underlying t=some (.slice e)) (hi:P.info? e=some i) (hz:i.zero=some z)
 (hsize:i.size=size) (hby:i.bytes=bytes) (hzs:z.cells.size=size) (hsz:0<size)
 (g:Nat) (hown:w.ownsRow 0 e size (.slice (some ⟨g,0,none⟩) 0 0) 0 [])
 (ta:Option Addr) (n c:Nat) (news:List Value) (hl:news.length=n*size) (hsrc:0<n->∃ b o,ta=some ⟨b,o,none⟩/\∀ j u,news[j]? = some u->w.cell? ⟨b,o+j,none⟩=some u) (h1:∀ u∈news,u.oneCell'=true)
 (h63:n<=maxLen) (hbytes:n*bytes<=140737488355328) :
 ∃ v' w',(Builtin.append_ #[t,t] ty #[.slice (some ⟨g,0,none⟩) 0 0,.slice ta n c]).run P w=.ok v' w'/\w'.ownsRow 0 e size v' n news/\Below w.heap.size w w'/\∃ b cap,v'=.slice (some ⟨b,0,none⟩) n cap/\(b=g\/b=w.heap.size):=by
 by_cases hn:n=0
 ·subst hn;have hnil:news=[]:=List.eq_nil_of_length_eq_zero (by simpa using hl);subst hnil;have hs:Src P i.size t (.slice ta 0 c) 0 [] w:=by
   cases ta with
   | none=>exact Src.ofNil w ht c
   | some a=>exact Src.ofSlice w ht a 0 c [] si (fun j u h=>by simp at h) (fun u h=>by cases h)
  have hr:=run_append_room_src (P:=P) w t t ty e i ht hi g 0 0 0 (.slice ta 0 c) 0 [] hs lr (fun j h=>absurd h (Nat.not_lt_zero j)) (fun j h=>absurd h (Nat.not_lt_zero j));have hw:w.setCells g (0+0*i.size) []=w:=by simp[World.setCells]
  rw[hw]at hr;exact⟨_,_,hr,hown,Below.refl _ _,g,0,rfl,.inl rfl⟩
 ·obtain⟨b,o,rfl,hc⟩:=hsrc oz;have hnews:∀ j u,news[j]? = some u->w.cell? ((⟨b,o,none⟩:Addr).add j)=some u:=fun j u h=>by
   have:=hc j u h;unfold Addr.add;split
   ·rename_i e;subst e;simpa using this
   ·exact this
  obtain⟨v',w',hr,h2,_,_⟩:=run_append2 (P:=P) w t ty e i z size bytes ht hi hz hsize hby hzs hsz _ 0 [] hown ⟨b,o,none⟩ n c news hl hnews h1 oz (by simpa using hbytes);have hr2:=run_append_grow (P:=P) w t ty e i z ht hi hz ⟨g,0,none⟩ 0 0 [] si (fun j u h=>by simp at h) ⟨b,o,none⟩ n c news (by rw[hl,hsize]) hnews oz (by unfold maxLen at h63;omega) (growslice_fits oz (by rw[hby];simpa using hbytes));rw[hr2]at hr;cases hr;simp only[Nat.zero_add,List.nil_append]at h2 hr2;exact⟨_,_,by rw[hr2],h2,(Below.drew (Below.refl _ _)).alloc lr _,_,_,rfl,.inr rfl⟩
theorem wpList_append_copy {ops:Array Oper}{rest:List Oper}{o:Oper}{a:Act}{Q:Exit->Act->World->Prop}(hgd:o.guard=none) (s x:Operand) (t:TypeId)
 (ho:o.op=.call { callee:=.builtin .append,args:=#[s,x],argTypes:=#[t,t] })
 (e:TypeId) (i:TypeInfo) (z:Value) (size bytes:Nat) (ht:P.underlying t=some (.slice e)) (hi:P.info? e=some i) (hz:i.zero=some z)
 (hsize:i.size=size) (hby:i.bytes=bytes) (hzs:z.cells.size=size) (hsz:0<size)
 (g:Nat) (hs:a.eval s=.slice (some ⟨g,0,none⟩) 0 0) (hown:w.ownsRow 0 e size (.slice (some ⟨g,0,none⟩) 0 0) 0 [])
 (ta:Option Addr) (n c:Nat) (news:List Value) (hx:a.eval x=.slice ta n c) (hl:news.length=n*size) (hsrc:0<n->∃ b o,ta=some ⟨b,o,none⟩/\∀ j u,news[j]? = some u->w.cell? ⟨b,o+j,none⟩=some u) (h1:∀ u∈news,u.oneCell'=true)
 (h63:n<=maxLen) (hbytes:n*bytes<=140737488355328)
 (h:∀ b cap w',w'.ownsRow 0 e size (.slice (some ⟨b,0,none⟩) n cap) n news->Below w.heap.size w w'->(b=g\/b=w.heap.size)->wpList P ops Q rest (a.put o.dst (.slice (some ⟨b,0,none⟩) n cap)) w'):wpList P ops Q (o::rest) a w :=
 wpList_plain hgd fun _ hK=>by
  obtain⟨v',w',hr,h2,h3,b,cap,rfl,h4⟩:=run_append_copy (P:=P) w t o.type e i z size bytes ht hi hz hsize hby hzs hsz g hown ta n c news hl hsrc h1 h63 hbytes;unfold Oper.wp execOp;simp only[ho,resolve,invoke,builtin,Sem.run_bind,Sem.run_pure,Result.andThen_ok,List.map_toArray,List.map_cons,List.map_nil,hs,hx,hr];exact hK _ _ (h b cap w' h2 h3 h4)
end
end
theorem Tryz.infoSp:(Tryz.prog.info? 47).map (fun i=>(i.zero,i.size,i.bytes))=some (some (.agg #[.int .i64 0,.int .i64 0]),2,16):=kr
theorem made_row (w:World) (e:TypeId) (z:Value) (size:Nat) (hzs:z.cells.size=size) (n k old:Nat) (olds:List Value) (hl:olds.length=n*size) (h63:n+k<=maxLen) :
 (w.drew.alloc (.cells (olds.toArray++Builtin.zeroCells z.cells k++Builtin.zeroCells z.cells (grownCap w (n+k) old e-(n+k))) e)).ownsRow 0 e size (.slice (some ⟨w.heap.size,0,none⟩) (n+k) (grownCap w (n+k) old e)) (n+k) (olds++(Builtin.zeroCells z.cells k).toList):=by
 have hge:=grownCap_ge w (n+k) old e;have hcm:=grownCap_le_maxLen w (n+k) old e h63;have hlen:(olds++(Builtin.zeroCells z.cells k).toList).length=(n+k)*size:=by rw[List.length_append,hl,Array.length_toList,size_zeroCells,hzs,Nat.add_mul]
 refine⟨hlen,.inr ⟨w.heap.size,_,_,rfl,Nat.zero_le _,heap_alloc_new w.drew _,hge,hcm,?_,?_⟩⟩
 ·simp only[Array.size_append,List.size_toArray,size_zeroCells,hzs,hl,<-Nat.add_mul];congr 1;omega
 ·simp only[Array.toList_append,List.append_assoc];rw[<-List.append_assoc,<-hlen];exact List.take_left
theorem zeros_sp (k:Nat):(Builtin.zeroCells (Value.agg #[.int .i64 0,.int .i64 0]).cells k).toList=spCells (List.replicate k ⟨0,0⟩):=by
 have h1:(Builtin.zeroCells (Value.agg #[.int .i64 0,.int .i64 0]).cells k).toList=List.replicate (k*2) (.int .i64 0):=by
  rw[List.eq_replicate_iff];refine⟨by rw[Array.length_toList,size_zeroCells];rfl,fun v hv=>?_⟩;simp[Builtin.zeroCells,Value.cells]at hv;obtain⟨i,_,rfl⟩:=hv;have h2:i%2=0\/i%2=1:=oz
  rcases h2 with h|h<;>rw[h]<;>rfl
 have h2:spCells (List.replicate k ⟨0,0⟩)=List.replicate (k*2) (.int .i64 0):=by
  rw[List.eq_replicate_iff];refine⟨by rw[spCells_len,List.length_replicate],fun v hv=>?_⟩;obtain⟨p,hp,hv⟩:=List.mem_flatMap.1 hv;have:=(List.mem_replicate.1 hp).2;subst this;simp[spCell]at hv;exact hv
 rw[h1,h2]
/-- append of zero spans onto a slice without room -/
theorem append_zeros (w:World) (ty:TypeId) (a:Option Addr) (n k:Nat) (r:List PSpan) (hl:r.length=n) (hs:0<n->∃ b,a=some ⟨b,0,none⟩/\∀ j u,(spCells r)[j]? = some u->w.cell? ⟨b,j,none⟩=some u) (hk:0<k) (hn:n+k<=64) :
 ∃ cap,∃ w',(Builtin.append_ #[39,3] ty #[.slice a n n,.int .i64 k]).run Tryz.prog w=.ok (.slice (some ⟨w.heap.size,0,none⟩) (n+k) cap) w'/\SpRow w' w.heap.size (n+k) cap (r++List.replicate k ⟨0,0⟩)/\Below w.heap.size w w':=by
 obtain⟨i0,hi,hz0,hz1,hz2⟩:=info_parts Tryz.infoSp;have hfit:Builtin.nextslicecap (n+k) n*i0.bytes<=281474976710656:=growslice_fits oz (by rw[hz2];omega);have hol:(spCells r).length=n*2:=by rw[spCells_len,hl]
 have hold:(Builtin.firstCells i0.size n (.slice a n n)).run Tryz.prog w.drew=.ok (spCells r).toArray w.drew:=by
  by_cases h0:n=0
  ·subst h0;have:r=[]:=List.eq_nil_of_length_eq_zero hl;subst this;cases a with
   | none=>exact run_firstCells_none w.drew i0.size 0 0 0
   | some a=>exact run_firstCells_some w.drew i0.size 0 a 0 0 [] si (fun j u h=>by simp at h)
  ·obtain⟨b,rfl,hc⟩:=hs oz;refine run_firstCells_some w.drew i0.size n ⟨b,0,none⟩ n n (spCells r) (by rw[hol,hz1]) (fun j u h=>?_);have:=hc j u h;unfold Addr.add;split
   ·rename_i e;subst e;exact this
   ·simpa using this
 have hr:=Lib.run_append_grow_zeros (P:=Tryz.prog) w 39 3 ty 47 i0 _ .i64 .i64 Tryz.underlying39 kr hi hz0 a n n (spCells r) hold k hk (by rw[hz1];decide) oz oz (by rw[hz2];omega) hfit;refine⟨_,_,hr,?_,(Below.refl _ _).drew.alloc lr _⟩;have h1:=made_row w 47 (.agg #[.int .i64 0,.int .i64 0]) 2 rfl n k n (spCells r) hol (by unfold maxLen;omega);rw[zeros_sp,<-spCells_append]at h1;exact⟨_,h1⟩
theorem ownsRow_none0 {w:World}{e size k:Nat}(hk:k=w.heap.size):(w.alloc (.cells #[] e)).ownsRow 0 e size (.slice (some ⟨k,0,none⟩) 0 0) 0 []:=by
 subst hk;exact World.ownsRow_made (w:=w) #[] 0 (Nat.zero_le _) (Nat.zero_le _) si
theorem clone_any (a:Option Addr) (n c:Nat) (r:List PSpan) (w:World) (hl:r.length=n) (hs:0<n->∃ b o,a=some ⟨b,o,none⟩/\b<w.heap.size/\∀ j u,(spCells r)[j]? = some u->w.cell? ⟨b,o+j,none⟩=some u) (hn:n<=64) :
 Calls Tryz.prog 21 #[.slice a n c] w fun e w'=>∃ v,e=.returned v/\w'.ownsRow 0 47 2 v n (spCells r)/\Below w.heap.size w w'/\∀ k,v.ownBlock=some k->w.heap.size<=k:=by
 have hnil:∀ (w:World) (a:Option Addr) (n c:Nat),(binOp .eql 39 (.slice a n c) (.slice none 0 0)).run Tryz.prog w=.ok (.bool a.isNone) w:=fun w a n c=>Lib.run_eql_slice_nil w _ 47 a n c 0 0 kr;obtain⟨i0,hi,hz0,hz1,hz2⟩:=info_parts Tryz.infoSp;cases a with
 | none =>
  have h0:n=0:=Classical.byContradiction fun h=>by obtain⟨b,o,h1,_⟩:=hs oz;cases h1
  subst h0;have hr:r=[]:=List.eq_nil_of_length_eq_zero hl;subst hr;go_enter Tryz.func21,Tryz.ntmps21;go_wp2;go_ret;go_light;exact⟨_,rfl,World.ownsRow_nil _ _ _ _,Below.refl _ _,by simp[Value.ownBlock]⟩
 | some ad =>
  have HS:=qd hs;have hol:(spCells r).length=n*2:=by rw[spCells_len,hl]
  clear hs;go_enter Tryz.func21,Tryz.ntmps21;go_wp2_with (at_builtin;refine wpList_append_copy _ rfl (.tmp 5) (.tmp 6) 39 rfl 47 i0 _ 2 16 Tryz.underlying39 hi hz0 hz1 hz2 rfl dc w.heap.size rfl ?own (some ad) n c (spCells r) rfl ?c1 ?c2 ?c3 ?c4 ?c5 ?_)
  case own=>exact ownsRow_none0 rfl
  case c1=>exact hol
  case c2 =>
   intro h;obtain⟨b,o,h1,h3,h2⟩:=HS.out h;exact⟨b,o,h1,fun j u hu=>(((Below.refl w.heap.size w).alloc lr _).cell (p:=⟨b,o+j,none⟩) h3).trans (h2 j u hu)⟩
  case c3=>exact spCells_one r
  case c4=>unfold maxLen;omega
  case c5=>omega
  intro g cap w1 hr1 hb1 hg1;go_wp2;go_ret;go_light;exact⟨_,rfl,hr1,((Below.refl w.heap.size w).alloc lr _).trans (hb1.mono si),fun k hk=>by
   have e:g=k:=by simpa[Value.ownBlock]using hk
   subst e;rcases hg1 with h|h
   ·omega
   ·(try simp at h);omega⟩
theorem clip_any (a:Option Addr) (n c:Nat) (w:World) (hnc:n<=c) (hc:(c:Int)<=9223372036854775807) (ha:a=none->n=0/\c=0):Calls Tryz.prog 20 #[.slice a n c] w fun e w'=>e=.returned (.slice a n n)/\w'=w:=by
 have hnc2:(n:Int)<=(c:Int):=oz
 have hn0:(0:Int)<=(n:Int):=oz
 cases a with
 | none =>
  obtain⟨rfl,rfl⟩:=ha rfl;go_enter Tryz.func20,Tryz.ntmps20;go_wp2;exact bodyPost_ret (v:=.slice none 0 0) (by simp[results,Tryz.results20,go_sem]) rfl ⟨rfl,rfl⟩
 | some ad =>
  go_enter Tryz.func20,Tryz.ntmps20;go_wp2;go_ret;exact⟨rfl,rfl⟩
theorem contains_bool (b n c:Nat) (l:List Bool) (w:World) (h:w.ownsRow 0 4 1 (.slice (some ⟨b,0,none⟩) n c) n (Bools l)) (hn:n<=1024):Calls Tryz.prog 81 #[.slice (some ⟨b,0,none⟩) n c,.bool true] w fun e w'=>e=.returned (.bool (l.contains true))/\w'=w:=by
 obtain⟨cb,hcb⟩:∃ q,l.contains true=q:=⟨_,rfl⟩
 rw[hcb];have HCB:=qd hcb;clear hcb;have hl:l.length=n:=by have:=h.1;simpa[Bools]using this
 have HI:Hid (Calls Tryz.prog 106 #[.slice (some ⟨b,0,none⟩) n c,.bool true] w fun e w'=>∃ v:Int,e=.returned (.int .i64 v)/\(decide (0<=v)=cb)/\w'=w):=qd (by
  have HC:=qd (fun j (hj:j<n)=>row_cell h (Bools_some (show l[j]? = some (l.getD j false) by rw[List.getD_eq_getElem?_getD,List.getElem?_eq_getElem (by omega)];rfl)));clear h;go_enter Tryz.func106,Tryz.ntmps106;go_wp2;go_loopw [8] (fun i wr=>∃ k:Nat,k<=n/\i=.int .i64 k/\wr=w/\∀ j,j<k->l.getD j false=false) (fun i _=>n-(intOf i).toNat)
  case atStart=>exact⟨0,Nat.zero_le _,rfl,(by first|rfl|trivial),fun j hj=>by omega⟩
  case round =>
   obtain⟨k,hk,rfl,rfl,hno⟩:=hrel;by_cases hkt:k<n
   ·have d3:(k:Int)<(n:Int):=oz
    have hwk:IntKind.i64.wrap ((k:Int)+1)=(k:Int)+1:=IntWalk.i64_in _ oz;have c0:=HC.out k hkt;have HNO:=qd hno;clear hno;cases hm:l.getD k false
    ·rw[hm]at c0;have HM:=qd hm;clear hm;go_wp2
     go_roundw
     case rel=>exact⟨k+1,oz,si,(by first|rfl|trivial),fun j hj=>by
      by_cases e:j=k
      ·subst e;exact HM.out
      ·exact HNO.out j oz⟩
     case measure=>go_light;exact ml
    ·rw[hm]at c0;have hin:l.contains true=true:=by
      rw[List.contains_iff_mem];have e:l[k]? = some true:=by rw[<-hm,List.getD_eq_getElem?_getD,List.getElem?_eq_getElem (by omega)];rfl
      exact List.mem_of_getElem? e
     have HIN:=qd hin;clear hm hin;go_wp2
     try rw[Exit.noGoto_ret]
     go_ret;refine⟨_,rfl,?_,?_⟩
     ·rw[<-HCB.out,HIN.out];simp
     ·first|rfl|trivial
   ·have hkk:n=k:=oz
    subst hkk;have d3:¬(n:Int)<(n:Int):=oz
    have hin:l.contains true=false:=by
     rw[<-Bool.not_eq_true,List.contains_iff_mem];intro hm;obtain⟨j,hj,e⟩:=List.getElem_of_mem hm;have:=hno j oz;rw[List.getD_eq_getElem?_getD,List.getElem?_eq_getElem hj,e]at this;cases this
    have HIN:=qd hin;clear hin hno;go_wp2
    try rw[Exit.noGoto_ret]
    go_ret;refine⟨_,rfl,?_,?_⟩
    ·rw[<-HCB.out,HIN.out];rfl
    ·first|rfl|trivial)
 clear h;go_enter Tryz.func81,Tryz.ntmps81;go_wp2_with (first|(go_at_call 106;refine HI.out.mono ?_;rintro e w1 ⟨v,rfl,hv,rfl⟩)|fail)
 go_ret;exact⟨by first|rfl|rw[<-hv]|simp[<-hv],rfl⟩
theorem contains_int (a:Option Addr) (n c:Nat) (l:List Int) (x:Int) (B:Nat) (w:World) (h:NumsAt B w a n l):Calls Tryz.prog 23 #[.slice a n c,.int .i64 x] w fun e w'=>e=.returned (.bool (l.contains x))/\w'=w:=by
 obtain⟨cb,hcb⟩:∃ q,l.contains x=q:=⟨_,rfl⟩
 rw[hcb];have HCB:=qd hcb;clear hcb;have HI:Hid (Calls Tryz.prog 58 #[.slice a n c,.int .i64 x] w fun e w'=>∃ v:Int,e=.returned (.int .i64 v)/\(decide (0<=v)=cb)/\w'=w):=qd (by
  obtain⟨hl,hnm,b,o,hb,hc⟩:=h;have hnm':n<=9223372036854775807:=hnm;have HB:=qd hb;have HC:=qd hc;clear hb hc hnm;go_enter Tryz.func58,Tryz.ntmps58;go_wp2;go_loopw [8] (fun i wr=>∃ k:Nat,k<=n/\i=.int .i64 k/\wr=w/\∀ j,j<k->l.getD j 0≠x) (fun i _=>n-(intOf i).toNat)
  case atStart=>exact⟨0,Nat.zero_le _,rfl,(by first|rfl|trivial),fun j hj=>by omega⟩
  case round =>
   obtain⟨k,hk,rfl,rfl,hno⟩:=hrel;by_cases hkt:k<n
   ·have d3:(k:Int)<(n:Int):=oz
    have hwk:IntKind.i64.wrap ((k:Int)+1)=(k:Int)+1:=IntWalk.i64_in _ oz;obtain⟨rfl,-⟩:=HB.out oz;have c0:=(HC.out k hkt).1;have HNO:=qd hno;clear hno;obtain⟨y,hy⟩:∃ y,l.getD k 0=y:=⟨_,rfl⟩
    rw[hy]at c0;have HY:=qd hy;clear hy;by_cases hm:x=y
    ·have q1:(x==y)=true:=by simpa using hm
     have HIN:=qd (contains_at (l:=l) (i:=k) oz (HY.out.trans hm.symm));clear hm;go_wp2
     try rw[Exit.noGoto_ret]
     go_ret;refine⟨_,rfl,?_,?_⟩
     ·rw[<-HCB.out,HIN.out];simp
     ·first|rfl|trivial
    ·have q1:(x==y)=false:=by simpa using hm
     have HM:=qd hm;clear hm;go_wp2
     go_roundw
     case rel=>exact⟨k+1,oz,si,(by first|rfl|trivial),fun j hj=>by
      by_cases e:j=k
      ·subst e;rw[HY.out];exact fun h=>HM.out h.symm
      ·exact HNO.out j oz⟩
     case measure=>go_light;exact ml
   ·have hkk:n=k:=oz
    subst hkk;have d3:¬(n:Int)<(n:Int):=oz
    have HIN:=qd (contains_no (l:=l) (x:=x) (fun i hi=>hno i oz));clear hno;go_wp2
    try rw[Exit.noGoto_ret]
    go_ret;refine⟨_,rfl,?_,?_⟩
    ·rw[<-HCB.out,HIN.out];rfl
    ·first|rfl|trivial)
 clear h;go_enter Tryz.func23,Tryz.ntmps23;go_wp2_with (first|(go_at_call 58;refine HI.out.mono ?_;rintro e w1 ⟨v,rfl,hv,rfl⟩)|fail)
 go_ret;exact⟨by first|rfl|rw[<-hv]|simp[<-hv],rfl⟩
/-- the analysis' memory, when some instructions have come -/
def RMem (m:PMod) (f:PFunc) (N:Nat) (A:BAd) (n regs bx:Nat) (s:PBS) (W:World):Prop:=(∃ iv tg,BAt N W { A with iv:=iv,tg:=tg } n regs s)/\Own W bx [.pointer (some ⟨A.k,0,none⟩)]/\SOk n regs s/\MOk n s
def stAt (m:PMod) (f:PFunc) (s0:PBS) (pre:List Nat):PBS:=pre.foldl (stepS m f) s0
theorem stAt_snoc (m:PMod) (f:PFunc) (s0:PBS) (pre:List Nat) (x:Nat):stAt m f s0 (pre++[x])=stepS m f (stAt m f s0 pre) x:=by unfold stAt;rw[List.foldl_append];rfl
theorem stAt_pass (m:PMod) (f:PFunc) (s0:PBS) (pre:List Nat):stAt m f s0 (pre++List.range f.code.length)=passS m f (stAt m f s0 pre):=by unfold stAt passS;rw[List.foldl_append]
theorem rounds_seq (nf:Nat) (m:PMod) (f:PFunc) (N:Nat) (A:BAd) (n regs bx l:Nat) (s0:PBS) (W:World) (J:List Nat->World->Prop) (hn:n=f.code.length) (hn0:0<n) (hn1:n<=1024)
 (hJ:∀ pre W,J pre W->RMem m f N A n regs bx (stAt m f s0 pre) W) (hJB:∀ pre W W',J pre W->Below W.heap.size W W'->J pre W')
 (hY:∀ pre x W1,J pre W1->x<n->YieldAt Fence.wide (nf-1) Tryz.prog l #[.int .i64 x] W1 fun e W'=>e=.returned (.bool true)/\J (pre++[x]) W')
 (hP:∀ s,SOk n regs s->MOk n s->s.mrk.contains true=true->potT n regs (passS m f s)<potT n regs s)
 (h0:J [] W):CallsIn Fence.wide nf Tryz.prog 80 #[.func (.yield l) #[] #[],.pointer (some ⟨bx,0,none⟩)] W fun e W'=>(∃ v,e=.returned v)/\∃ xs,RunsS m f s0 (stAt m f s0 xs)/\J xs W':=by
 have HN:=qd hn;clear hn;have HJ:=qd h0;have HJJ:=qd hJ;have HYY:=qd hY;have HPP:=qd hP;clear h0 hJ hY hP;refine callsIn_of_wp Tryz.func80 rfl trivial ?_ rfl;simp only[Tryz.ntmps80,List.size_toArray,List.length_cons,List.length_nil,Nat.reduceAdd,Nat.reduceSub,Array.replicate_succ,Array.replicate_zero,List.push_toArray,List.append_toArray,List.nil_append,List.cons_append];gi_wp2;gi_loopw [] (fun wr=>∃ pre,Hid (J pre wr/\∀ t,RunsS m f (stAt m f s0 pre) t->RunsS m f s0 t)) (fun wr=>infN fun k=>∃ pre,Hid (J pre wr/\∀ t,RunsS m f (stAt m f s0 pre) t->RunsS m f s0 t)/\potT n regs (stAt m f s0 pre)=k)
 case atStart=>exact⟨[],qd ⟨HJ.out,fun t h=>h⟩⟩
 case round =>
  clear HJ;obtain⟨pre,hpre,hmin⟩:=infN_is (p:=fun k=>∃ pre,Hid (J pre wr/\∀ t,RunsS m f (stAt m f s0 pre) t->RunsS m f s0 t)/\potT n regs (stAt m f s0 pre)=k) (by obtain⟨pre,h⟩:=hrel;exact⟨_,pre,h,rfl⟩);clear hrel;obtain⟨hj,hrs⟩:=hpre.out;obtain⟨⟨iv,tg,hb⟩,hbox,hsok,hmok⟩:=HJJ.out pre wr hj;have HRS:=qd hrs;have HJ:=qd hj;have HMIN:=qd hmin;have HPO:=qd (fun h=>HPP.out _ hsok hmok h);have hst:=hb.st;unfold BAd.cells at hst;dsimp only at hst;obtain⟨s0',s1,s2,s3,s4,s5,s6,s7,s8⟩:=own4 hst;have b1:=own1 hbox;have HC:=qd (contains_bool A.mb n A.mc (stAt m f s0 pre).mrk wr hb.rm oz);have hml:=hb.lm;clear hb hbox hst hj hrs hpre hmin hsok hmok;obtain⟨cb,hcb⟩:∃ q,(stAt m f s0 pre).mrk.contains true=q:=⟨_,rfl⟩
  rw[hcb]at HC HPO;have HCB:=qd hcb;clear hcb;cases cb
  ·gi_wp2_with (refine⟨trivial,(fun h=>absurd h dc),?_⟩;gi_at_call 81;refine(callsIn_wide.2 HC.out).mono ?_;rintro e w1 ⟨rfl,rfl⟩)
   go_end0
   first|exact⟨⟨_,rfl⟩,pre,HRS.out _ (.stop _ HCB.out),HJ.out⟩|exact⟨⟨⟨_,rfl⟩,pre,HRS.out _ (.stop _ HCB.out),HJ.out⟩⟩
  ·gi_wp2_with (refine⟨trivial,(fun h=>absurd h dc),?_⟩;gi_at_call 81;refine(callsIn_wide.2 HC.out).mono ?_;rintro e w1 ⟨rfl,rfl⟩)
   have hpo:=HPO.out (by first|rfl|trivial);have HPO2:=qd hpo;clear HPO hpo HC b1 s0' s1 s2 s3 s4 s5 s6 s7 s8 hml;have hn9:n<=9223372036854775807:=oz
   obtain⟨wA,hwA⟩:∃ wA:World,wA=w1:=⟨_,rfl⟩
   subst hwA;gi_loopw [14] (fun i wx=>∃ k:Nat,k<=n/\i=.int .i64 k/\Hid (J (pre++List.range k) wx)) (fun i _=>n-(intOf i).toNat)
   case atStart=>exact⟨0,Nat.zero_le _,rfl,qd (by simpa using HJ.out)⟩
   case round =>
    clear HJ;obtain⟨k,hk,rfl,hJ⟩:=hrel;by_cases hkt:k<n
    ·have d3:(k:Int)<(n:Int):=oz
     have hwk:IntKind.i64.wrap ((k:Int)+1)=(k:Int)+1:=IntWalk.i64_in _ oz;obtain⟨fn,tmps,assign,body,hy,hRd⟩:=HYY.out _ k wr hJ.out hkt;have HRd:=qd hRd;clear hRd;gi_wp2;refine⟨fun h=>absurd h dc,HRd.out.mono ?_⟩;rintro e W3 ⟨rfl,hJ3⟩;have HJ3:=qd hJ3;clear hJ3;gi_wp2
     go_roundw
     case rel=>exact⟨k+1,oz,si,qd (by rw[List.range_succ,<-List.append_assoc];exact HJ3.out)⟩
     case measure=>go_light;exact ml
    ·have hkk:n=k:=oz
     subst hkk;have d3:¬(n:Int)<(n:Int):=oz
     have hst:stAt m f s0 (pre++List.range n)=passS m f (stAt m f s0 pre):=by rw[HN.out];exact stAt_pass m f s0 pre
     have HR2:Hid (J (pre++List.range n) wr/\∀ t,RunsS m f (stAt m f s0 (pre++List.range n)) t->RunsS m f s0 t):=qd ⟨hJ.out,fun t h=>HRS.out t (.pass _ _ HCB.out (by rw[hst]at h;exact h))⟩;have hle:=infN_le (p:=fun k=>∃ pre,Hid (J pre wr/\∀ t,RunsS m f (stAt m f s0 pre) t->RunsS m f s0 t)/\potT n regs (stAt m f s0 pre)=k) ⟨_,HR2,rfl⟩;rw[hst]at hle;have hlt:=HPO2.out;have heq:=HMIN.out;have HLT:=qd (Nat.lt_of_le_of_lt hle (by rw[heq]at hlt;exact hlt));clear hst hle hlt heq;gi_wp2
     go_roundw
     case rel=>exact⟨_,HR2⟩
     case measure=>exact HLT.out
theorem rounds_any (k:Nat) (w:World):Calls Tryz.prog 45 #[.pointer (some ⟨k,0,none⟩)] w fun e w'=>e=.returned (.func (.func 80) #[] #[.pointer (some ⟨w.heap.size,0,none⟩)])/\w'=w.alloc (.cells #[.pointer (some ⟨k,0,none⟩)] 95):=by
 have hmf:=@mkF Tryz.prog;go_enter Tryz.func45,Tryz.ntmps45;go_wp2;go_ret;exact⟨rfl,rfl⟩
theorem BAt.turn {b N:Nat}{W W':World}{A:BAd}{n regs:Nat}{s:PBS}(h:BAt N W A n regs s) (c:Turn b W W') (hk:A.k<b):BAt N W' A n regs s:=by
 have rt:∀ {e size n g cc m:Nat}{xs:List Value},W.ownsRow 0 e size (.slice (some ⟨g,0,none⟩) n cc) m xs->W'.ownsRow 0 e size (.slice (some ⟨g,0,none⟩) n cc) m xs:=fun h=>row_turn c h;refine⟨h.st.turn c hk,rt h.ri,rt h.rc,rt h.rm,rt h.rj,fun v hv=>?_,fun v hv=>?_,h.tk,h.ti,h.tc,h.tm,h.tj,fun x hx=>h.fr x (by rw[<-c.size];exact hx),h.lo,h.li,h.lc⟩
 ·rcases h.ei v hv with h1|⟨b,cc,h1,⟨c',h2⟩,h3⟩
  ·exact .inl h1
  ·exact .inr ⟨b,cc,h1,⟨c',rt h2⟩,h3⟩
 ·obtain⟨h1,h2⟩:=h.ec v hv;exact⟨rt h1,h2⟩
theorem range_rounds {g:Operand}{ps:Array Tmp}{assign body:Code}{Q:Exit->Act->World->Prop}{a:Act}{w:World}(m:PMod) (f:PFunc) (N:Nat) (A:BAd) (n regs bx:Nat) (s0:PBS) (I:List Nat->World->Prop)
 (hg:a.eval g=.func (.func 80) #[] #[.pointer (some ⟨bx,0,none⟩)]) (hps:ps.size=1) (hn:n=f.code.length) (hn0:0<n) (hn1:n<=1024)
 (hI:∀ pre W,I pre W->RMem m f N A n regs bx (stAt m f s0 pre) W) (hIB:∀ pre W W',I pre W->Below W.heap.size W W'->I pre W') (hIT:∀ pre W W',I pre W->Turn w.heap.size W W'->I pre W')
 (hP:∀ s,SOk n regs s->MOk n s->s.mrk.contains true=true->potT n regs (passS m f s)<potT n regs s) (h0:I [] w)
 (hround:∃ a₁:Nat->Act,(∀ (l:Nat) (x:Nat) (W:World) (K:Act->World->Prop),K (a₁ x) W ->
   assign.wpIn (Fence.wide.inRound l) 0 Tryz.prog (Exit.then K (fun _ _ _=>False)) { tmps:=(ps.zip #[.int .i64 x]).foldl (fun t (p,v)=>t.setIfInBounds p v) a.tmps,defers:=[] } W) /\
   (∀ (l:Nat) (pre:List Nat) (x:Nat) (W:World),I pre W->x<n->w.heap.size+1<W.heap.size ->
   body.wpIn (Fence.wide.inRound l) 0 Tryz.prog (roundT fun W'=>(∀ k,w.heap.size<=k->k<w.heap.size+2->W'.heap[k]? = W.heap[k]?)/\I (pre++[x]) W') (a₁ x) W))
 (hdone:∀ (xs:List Nat) (W:World),RunsS m f s0 (stAt m f s0 xs)->I xs W->W.heap[w.heap.size]? = some (.deferred (some []))->Q .normal { a with defers:={ target:=.collected w.heap.size,args:=#[] }::a.defers } W) :
 (Code.rangeFunc g ps assign body).wp Tryz.prog Q a w:=by
 obtain⟨a₁,hassign,hbody⟩:=hround;refine(wpIn_wide (n:=2)).1 ?_;refine range_law (α:=Nat) 80 #[.pointer (some ⟨bx,0,none⟩)] hg (fun _ _=>rfl) (fun x=>#[.int .i64 x]) (fun x=>by rw[hps];rfl) I hIB hIT h0 (fun xs=>RunsS m f s0 (stAt m f s0 xs)) (fun pre x=>x<n) (fun pre x W W'=>I (pre++[x]) W') ?_ ?_ a₁ hassign ?_ ?_
 ·intro pre x W Wb W3 W' hi tb hkp te _ _;exact hIT _ _ _ hkp te
 ·intro l W J hJI hJB hbel hY hJ0;refine rounds_seq (2-1) m f N A n regs bx l s0 W J hn hn0 hn1 (fun pre W h=>hI pre W (hJI _ _ h)) hJB ?_ hP hJ0;intro pre x W1 h1 h2;obtain⟨fn,tmps,assign,body,hy,hr⟩:=hY pre x W1 h1 h2;exact⟨fn,tmps,assign,body,hy,hr.mono fun e W' h=>⟨h.1,h.2.1⟩⟩
 ·intro l pre x W h1 h2 h3;refine wpIn_mono (hbody l pre x W h1 h2 h3) ?_;rintro e a3 W3 hp;cases e with
  | normal=>exact⟨hp.1,hp.2,hp.2⟩
  | ret=>exact hp
  | exit id=>exact hp
  | goto t=>exact hp
  | panic ch=>exact hp
  | outgrown=>exact hp
 ·intro xs W hS hi hd;exact hdone xs W hS hi hd
theorem join_is (a b:PSpan) (w:World):Calls Tryz.prog 19 #[.agg #[.int .i64 a.lo,.int .i64 a.hi],.agg #[.int .i64 b.lo,.int .i64 b.hi]] w fun e w'=>e=.returned (.agg #[.int .i64 (joinP a b).lo,.int .i64 (joinP a b).hi])/\Below w.heap.size w w':=sjoin_any a b w
theorem widen_is (a b:PSpan) (thr:List Int) (ta:Option Addr) (tl tc:Nat) (w:World) (ha:a.lo<=a.hi) (hb:b.lo<=b.hi) (ht:NumsAt w.heap.size w ta tl thr):Calls Tryz.prog 90 #[.agg #[.int .i64 a.lo,.int .i64 a.hi],.agg #[.int .i64 b.lo,.int .i64 b.hi],.slice ta tl tc] w fun e w'=>e=.returned (.agg #[.int .i64 (widenP a b thr).lo,.int .i64 (widenP a b thr).hi])/\Below w.heap.size w w':=swiden_any a b thr ta tl tc w ha hb ht
theorem NumsAt.monoB {B B':Nat}{w:World}{a:Option Addr}{n:Nat}{zs:List Int}(h:NumsAt B w a n zs) (hB:B<=B'):NumsAt B' w a n zs:=by
 obtain⟨h1,h2,b,o,h3,h4⟩:=h;exact⟨h1,h2,b,o,fun h0=>⟨(h3 h0).1,by have:=(h3 h0).2;omega⟩,h4⟩
/-- what merge leaves -/
def MergePost (N:Nat) (A:BAd) (n regs b:Nat) (s':PBS) (w:World) (e:Ending) (w':World):Prop:=e=.returned (.tuple #[])/\∃ iv tg,BAt N w' { A with iv:=iv,tg:=tg } n regs s'/\Chg (fun x=>A.tg x≠0) w w'/\∀ x,x≠b->tg x=A.tg x
theorem merge_any (N:Nat) (A:BAd) (n regs:Nat) (s:PBS) (thr:List Int) (ta:Option Addr) (tl tc tt b c:Nat) (next:List PSpan) (w:World) (h:BAt N w A n regs s) (hr:SpRow w b regs c next) (htt:tt<n) (hb:A.tg b=0) (hN:N<=b) (hNw:N<=w.heap.size) (ht:NumsAt N w ta tl thr) (hok:SOk n regs s) (hnx:LOk regs next) (hg0:0<regs) (hg:regs<=64) (hn:n<=1024) :
 Calls Tryz.prog 48 #[.pointer (some ⟨A.k,0,none⟩),.int .i64 tt,.slice (some ⟨b,0,none⟩) regs c,.slice ta tl tc] w (MergePost N A n regs b (mergeP thr s tt next) w):=by
 have hnil:∀ (w:World) (a:Option Addr) (n c:Nat),(binOp .eql 39 (.slice a n c) (.slice none 0 0)).run Tryz.prog w=.ok (.bool a.isNone) w:=fun w a n c=>Lib.run_eql_slice_nil w _ 47 a n c 0 0 kr;have H:=qd h;have HR:=qd hr;obtain⟨s0,s1,s2,s3,s4,s5,s6,s7,s8⟩:=own4 h.st;obtain⟨r0,r1,r2,r3⟩:=h.rd htt;obtain⟨z0,z1,z2⟩:=h.fz tt;have htn:(tt:Int)<(n:Int):=oz
 have hne1:A.mb≠A.ib:=fun e=>by have h1:=h.tm;rw[e,h.ti]at h1;omega
 have hne2:A.mb≠A.k:=fun e=>by have h1:=h.tm;rw[e,h.tk]at h1;omega
 have hne3:A.ib≠A.k:=fun e=>by have h1:=h.ti;rw[e,h.tk]at h1;omega
 rcases h.ei tt htt with⟨i1,i2⟩|⟨ob,oc,i1,i2,i3⟩
 ·have hm:mergeP thr s tt next={ s with inn:=s.inn.set tt next,mrk:=s.mrk.set tt true }:=by unfold mergeP;rw[if_pos i2]
  rw[hm];rw[i1]at r0;unfold ivVal at r0;dsimp only at r0;go_enter Tryz.func48,Tryz.ntmps48;go_upto_region 2 with(fail)
  go_region
  all_goals go_wp2
  go_end0
  go_light;have h9:=((h.below ((Below.refl _ w).drew)).setI htt (hr.below ((Below.refl _ w).drew)) hb hN).setM tt true;refine⟨rfl,_,_,h9,?_,fun x hx=>updF_ne _ _ hx⟩;refine Chg.setCell (Chg.setCell (Chg.refl _ _).drew (.inl ?_) _) (.inl ?_) _
  ·show A.tg A.ib≠0;rw[h.ti];decide
  ·show A.tg A.mb≠0;rw[h.tm];decide
 ·have hol:(s.inn.getD tt []).length=regs:=i2.len;have hne:s.inn.getD tt []≠[]:=fun e=>by rw[e]at hol;simp at hol;omega
  have hOk:LOk regs (s.inn.getD tt []):=by
   rcases hok.inn tt htt with h0|h0
   ·exact absurd h0 hne
   ·exact h0
  have hcl:(s.chg.getD tt []).length=regs:=hok.chg tt htt;have hm:mergeP thr s tt next=if someTo (s.inn.getD tt []) next regs then { inn:=s.inn.set tt (innTo thr (jnNext s tt) (s.inn.getD tt []) next regs),chg:=s.chg.set tt (chgTo (s.inn.getD tt []) next (s.chg.getD tt []) regs),mrk:=s.mrk.set tt true,jn:=s.jn.set tt (jnNext s tt) } else s:=by
   unfold mergeP;rw[if_neg hne];have e1:someB (s.inn.getD tt []) next=someTo (s.inn.getD tt []) next regs:=by rw[<-hol];rfl
   have e2:innTo thr (jnNext s tt) (s.inn.getD tt []) next regs=innNext thr (jnNext s tt) (s.inn.getD tt []) next:=by rw[<-hol];exact innTo_end _ _ _ _
   have e3:chgTo (s.inn.getD tt []) next (s.chg.getD tt []) regs=chgNext (s.inn.getD tt []) next (s.chg.getD tt []):=by rw[<-hol];rfl
   rw[e1,e2,e3]
  obtain⟨RES,hRES⟩:∃ q,q=mergeP thr s tt next:=⟨_,rfl⟩
  rw[<-hRES];have HRES:=qd (hRES.trans hm);clear hRES hm;rw[i1]at r0;unfold ivVal at r0;dsimp only at r0;have hs0:{ s with chg:=s.chg.set tt (chgTo (s.inn.getD tt []) next (s.chg.getD tt []) 0) }=s:=by
   rw[chgTo_zero,set_getD]
  have H0:Hid (BAt N w A n regs { s with chg:=s.chg.set tt (chgTo (s.inn.getD tt []) next (s.chg.getD tt []) 0) }):=qd (by rw[hs0];exact h);have HOL:=qd hOk;have HNX:=qd hnx;have HT:=qd ht;have HIV:=qd i1;have htgo:=i3;clear h hr hs0 hnx ht hok i2 hOk;generalize hold:s.inn.getD tt []=old at *;generalize hch:s.chg.getD tt []=ch at *;go_enter Tryz.func48,Tryz.ntmps48;go_wp2;go_loopw [9,38] (fun v9 i wr=>∃ j:Nat,j<=regs/\i=.int .i64 j/\v9=.bool (someTo old next j)/\Hid (BAt N wr A n regs { s with chg:=s.chg.set tt (chgTo old next ch j) })/\Hid (SpRow wr b regs c next)/\Chg (fun x=>A.tg x≠0) w wr) (fun _ i _=>regs-(intOf i).toNat)
  case atStart=>exact⟨0,Nat.zero_le _,rfl,rfl,H0,HR,Chg.refl _ _⟩
  case round =>
   clear H0 H HR s0 s1 s2 s3 s4 s5 s6 s7 s8 r0 r1 r2 r3 z0 z1 z2;obtain⟨j,hj,rfl,rfl,H,HR,hC⟩:=hrel;have hzr:=hC.size;obtain⟨s0,s1,s2,s3,s4,s5,s6,s7,s8⟩:=own4 H.out.st;obtain⟨r0,r1,r2,r3⟩:=H.out.rd htt;unfold cvVal at r1;by_cases hjt:j<regs
   ·have d3:(j:Int)<(regs:Int):=oz
    have hwj:IntKind.i64.wrap ((j:Int)+1)=(j:Int)+1:=IntWalk.i64_in _ oz;obtain⟨oR,-⟩:=H.out.rdS htt HIV.out;dsimp only at oR;rw[hold]at oR;obtain⟨o0,o1,-,-⟩:=oR.cells hjt;obtain⟨n0,n1,-,-⟩:=HR.out.cells hjt;obtain⟨c0,c1⟩:=H.out.rdC htt hjt;have hce:(({ s with chg:=s.chg.set tt (chgTo old next ch j) }:PBS).chg.getD tt []).getD j 0=ch.getD j 0:=by
     dsimp only;rw[getD_set _ _ _ _ _ (by have:=H.out.lc;dsimp only at this;rw[List.length_set]at this;omega),if_pos rfl];exact chgTo_at old next ch oz
    rw[hce]at c0;have hcvb:(A.cv tt).1≠b:=fun e=>by have:=(H.out.ec tt htt).2;rw[e,hb]at this;omega
    have hcvt:A.tg (A.cv tt).1≠0:=by rw[(H.out.ec tt htt).2];omega
    have hoL:=oR.lt;have hnL:=HR.out.lt;have hcbL:=row_ltB H.out.rc;have hcvL:(A.cv tt).1<wr.heap.size:=row_lt (H.out.ec tt htt).1 rfl;have HJ:=qd (fun w=>join_is (old.getD j default) (next.getD j default) w);have hgr:growB (old.getD j default) (next.getD j default) = !(decide ((joinP (old.getD j default) (next.getD j default)).lo=(old.getD j default).lo)&&decide ((joinP (old.getD j default) (next.getD j default)).hi=(old.getD j default).hi)):=rfl;have hcy:=qd (fun h=>chgTo_yes old next ch (j:=j) oz h);have hcn:=qd (fun h=>chgTo_no old next ch (j:=j) h);have hsm:=someTo_succ old next j
    obtain⟨cj,hcj⟩:∃ x,ch.getD j 0=x:=⟨_,rfl⟩
    rw[hcj]at c0 hcy;clear hcj;have HC:=qd hC;clear oR hce;generalize joinP (old.getD j default) (next.getD j default)=jo at *;generalize growB (old.getD j default) (next.getD j default)=gr at *;obtain⟨jlo,jhi⟩:=jo;generalize old.getD j default=po at *;generalize next.getD j default=pn at *;obtain⟨olo,ohi⟩:=po;obtain⟨nlo,nhi⟩:=pn;dsimp only at o0 o1 n0 n1 HJ hgr;cases gr
    case false =>
     have hgr2:jlo=olo/\jhi=ohi:=by simpa using hgr.symm
     obtain⟨rfl,rfl⟩:=hgr2;have hcn2:=hcn.out rfl;rw[Bool.or_false]at hsm;have HCN:=qd hcn2;have HSM:=qd hsm;clear hcn hcy hgr hcn2 hsm;go_upto_region 7 with(fail)
     refine wp_below_tail 13 kr kr (fun T F hF hall=>?_);simp only[TD];have hFc:=fun t=>(bcell (hF t)).1;have hFf:=fun t=>(bcell (hF t)).2;have hFs:=fun t=>(hF t).size;have hNE:Nonempty T:=(hall _ (Below.refl _ _)).elim fun t _=>⟨t⟩;repeat(refine WQ_step (fun K hK=>?_);go_simp;refine hK _ ?_;clear hK K)
     (refine WQ_step (fun K hK=>?_);go_simp;refine⟨_,fun t=>calls_family (hF t) hall (HJ.out (F t)),hK _ ?_⟩;clear hK K)
     repeat(refine WQ_step (fun K hK=>?_);go_simp;refine hK _ ?_;clear hK K)
     refine WQ_nil (fun t=>?_);have hft:=hF t;go_wp2;refine⟨⟨j+1,oz,si,by rw[HSM.out],qd (by rw[HCN.out];exact H.out.below hft),qd (HR.out.below hft),HC.out.trans (Chg.of hft)⟩,?_⟩;go_light;exact ml
    case true =>
     have hgr2:¬(jlo=olo/\jhi=ohi):=fun⟨e1,e2⟩=>by subst e1;subst e2;simp at hgr
     have hcy2:=hcy.out rfl;rw[Bool.or_true]at hsm;have HCN:=qd hcy2;have HSM:=qd hsm;clear hcn hcy hgr hcy2 hsm;go_upto_region 7 with(fail)
     refine wp_below_tail 13 kr kr (fun T F hF hall=>?_);simp only[TD];have hFc:=fun t=>(bcell (hF t)).1;have hFf:=fun t=>(bcell (hF t)).2;have hFs:=fun t=>(hF t).size;have hNE:Nonempty T:=(hall _ (Below.refl _ _)).elim fun t _=>⟨t⟩;repeat(refine WQ_step (fun K hK=>?_);go_simp;refine hK _ ?_;clear hK K)
     (refine WQ_step (fun K hK=>?_);go_simp;refine⟨_,fun t=>calls_family (hF t) hall (HJ.out (F t)),hK _ ?_⟩;clear hK K)
     repeat(refine WQ_step (fun K hK=>?_);go_simp;refine hK _ ?_;clear hK K)
     refine WQ_nil (fun t=>?_);have hft:=hF t;go_wp2
     all_goals refine⟨⟨j+1,oz,si,by rw[HSM.out],qd (by rw[HCN.out];exact(H.out.below hft).setC2 htt j _),qd ((HR.out.below hft).chg (chgSet _ _ _ _) (fun e=>hcvb e.symm)),(HC.out.trans (Chg.of hft)).trans (Chg.setCell (Chg.refl _ _) (.inl hcvt) _)⟩,?_⟩
     all_goals go_light
     all_goals first|omega|(simp only[intOf];omega)
   ·have hjj:j=regs:=oz
    subst hjj;have d3:¬(j:Int)<(j:Int):=oz
    cases hsr:someTo old next j
    ·have hres:RES=s:=by rw[HRES.out,hsr];rfl
     have hce:=chgTo_none old next ch j hsr
     have hs1:({ s with chg:=s.chg.set tt (chgTo old next ch j) }:PBS)=s:=by
      rw[hce,<-hch,set_getD]
     have HS1:=qd hs1;have HRE:=qd hres;clear hs1 hres hce;go_wp2
     go_end0
     go_light;refine⟨rfl,A.iv,A.tg,?_,hC,fun x _=>rfl⟩;rw[HRE.out];have h9:=H.out;rw[HS1.out]at h9;exact h9
    ·have hjbt:A.tg A.jb≠0:=by rw[H.out.tj];decide
     have hjbb:A.jb≠b:=fun e=>by have:=H.out.tj;rw[e,hb]at this;omega
     have hjL:=row_ltB H.out.rj;obtain⟨jv0,hjv0⟩:∃ x,s.jn.getD tt 0=x:=⟨_,rfl⟩
     have hjv:jnNext s tt=wrap64 (jv0+1):=by unfold jnNext;rw[hjv0]
     dsimp only at r3;rw[hjv0]at r3;obtain⟨jv,hjw⟩:∃ x,wrap64 (jv0+1)=x:=⟨_,rfl⟩
     have hjw':IntKind.i64.wrap (jv0+1)=jv:=by rw[<-wrap64_eq];exact hjw
     have hlj:=H.out.lj;dsimp only at hlj;have h2:=H.out.setJ tt jv;obtain⟨q2,hs2⟩:∃ q:PBS,q=⟨s.inn,s.chg.set tt (chgTo old next ch j),s.mrk,s.jn.set tt jv⟩:=⟨_,rfl⟩
     have h2':BAt N (wr.setCell ⟨A.jb,tt,none⟩ (.int .i64 jv)) A n j q2:=by rw[hs2];exact h2
     have hs2i:q2.inn=s.inn:=by rw[hs2]
     have hs2j:q2.jn.getD tt 0=jv:=by rw[hs2];dsimp only;rw[getD_set _ _ _ _ _ (by omega),if_pos rfl]
     have hs20:({ q2 with inn:=q2.inn.set tt (innTo thr jv old next 0) }:PBS)=q2:=by
      rw[innTo_zero,hs2i,<-hold,set_getD,<-hs2i]
     have hres:RES=⟨q2.inn.set tt (innTo thr jv old next j),q2.chg,q2.mrk.set tt true,q2.jn⟩:=by
      rw[HRES.out,hsr,if_pos rfl,hjv,hjw,hs2]
     have HRE:=qd hres;have H2:Hid (BAt N (wr.setCell ⟨A.jb,tt,none⟩ (.int .i64 jv)) A n j { q2 with inn:=q2.inn.set tt (innTo thr jv old next 0) }):=qd (by rw[hs20];exact h2');have HR2:=qd (HR.out.chg (chgSet wr A.jb tt (.int .i64 jv)) (fun e=>hjbb e.symm));have hC2:Chg (fun x=>A.tg x≠0) w (wr.setCell ⟨A.jb,tt,none⟩ (.int .i64 jv)):=hC.trans (Chg.setCell (Chg.refl _ _) (.inl hjbt) _);have HSJ:=qd hs2j;have HSI:=qd hs2i;clear h2 h2' hs20 hres HRES hs2 hs2i hs2j hjv hjw hjv0 hlj;obtain⟨wA,hwA⟩:∃ wA:World,wA=wr:=⟨_,rfl⟩
     subst hwA;obtain⟨-,-,z2⟩:=H.out.fz tt;go_wp2;go_loopw [82] (fun i wr=>∃ k:Nat,k<=j/\i=.int .i64 k/\Hid (BAt N wr A n j { q2 with inn:=q2.inn.set tt (innTo thr jv old next k) })/\Hid (SpRow wr b j c next)/\Chg (fun x=>A.tg x≠0) w wr) (fun i _=>j-(intOf i).toNat)
     case atStart=>exact⟨0,Nat.zero_le _,rfl,H2,HR2,hC2⟩
     case round =>
      clear H2 H HR HR2 hC hC2 s0 s1 s2 s3 s4 s5 s6 s7 s8 r0 r1 r2 r3 z2 hjL hzr;obtain⟨k,hk,rfl,H,HR,hC⟩:=hrel;have hzr:=hC.size;obtain⟨s0,s1,s2,s3,s4,s5,s6,s7,s8⟩:=own4 H.out.st;obtain⟨r0,r1,r2,r3⟩:=H.out.rd htt;obtain⟨-,z1,z2⟩:=H.out.fz tt;dsimp only at r3;rw[HSJ.out]at r3;by_cases hkt:k<j
      ·have d3:(k:Int)<(j:Int):=oz
       have hwj:IntKind.i64.wrap ((k:Int)+1)=(k:Int)+1:=IntWalk.i64_in _ oz;obtain⟨oR,hto⟩:=H.out.rdS htt HIV.out;dsimp only at oR;have hli:=H.out.li;dsimp only at hli;rw[List.length_set]at hli;rw[getD_set _ _ _ _ _ (by omega),if_pos rfl]at oR;obtain⟨o0,o1,o2,o3⟩:=oR.cells hkt;rw[innTo_at thr jv old next (by omega)]at o0 o1;obtain⟨n0,n1,-,-⟩:=HR.out.cells hkt;have hos:A.tg ob≠0:=by rw[hto];omega
       have hobb:ob≠b:=fun e=>by rw[e,hb]at hto;omega
       have hoL:=oR.lt;have hnL:=HR.out.lt;have hst:=innTo_step thr jv old next (j:=k) oz
       have hpo:=HOL.out.2 k hkt;have hpn:=HNX.out.2 k hkt;have HC:=qd hC;have HJ:=qd (fun w=>join_is (old.getD k default) (next.getD k default) w);have HWd:=qd (fun w h=>widen_is (old.getD k default) (next.getD k default) thr ta tl tc w hpo.2.2 hpn.2.2 h);have HTw:=qd (fun w' (hw:Below wr.heap.size wr w')=>(HT.out.same (hC.same (B:=N) hNw (fun x hx e=>absurd (H.out.lo x e) oz))).same (Same.of' (hw.mono oz)));unfold mergeOne at hst;clear oR hli hpo hpn;by_cases h4:4<jv
       ·rw[if_pos h4]at hst;have HST:=qd hst;clear hst HJ;generalize widenP (old.getD k default) (next.getD k default) thr=jo at *;obtain⟨jlo,jhi⟩:=jo;generalize old.getD k default=po at *;generalize next.getD k default=pn at *;obtain⟨olo,ohi⟩:=po;obtain⟨nlo,nhi⟩:=pn;dsimp only at o0 o1 n0 n1 HWd;have hup:∀ w',Below wr.heap.size wr w'->NumsAt w'.heap.size w' ta tl thr:=fun w' hw=>(HTw.out w' hw).monoB (by have:=hw.size;omega);have HUP:=qd hup;clear hup;go_upto_region 17 with(fail)
        refine wp_below_tail 12 kr kr (fun T F hF hall=>?_);simp only[TD];have hFc:=fun t=>(bcell (hF t)).1;have hFf:=fun t=>(bcell (hF t)).2;have hFs:=fun t=>(hF t).size;have hNE:Nonempty T:=(hall _ (Below.refl _ _)).elim fun t _=>⟨t⟩;repeat(refine WQ_step (fun K hK=>?_);go_simp;refine hK _ ?_;clear hK K)
        (refine WQ_step (fun K hK=>?_);go_simp;refine⟨_,fun t=>calls_family (hF t) hall (HWd.out (F t) (HUP.out _ (hF t))),hK _ ?_⟩;clear hK K)
        repeat(refine WQ_step (fun K hK=>?_);go_simp;refine hK _ ?_;clear hK K)
        refine WQ_nil (fun t=>?_);have hft:=hF t;go_wp2;refine⟨⟨k+1,oz,si,qd (by rw[HST.out];exact(H.out.below hft).setS2 htt HIV.out hkt ⟨jlo,jhi⟩),qd ((HR.out.below hft).chg (chg2 _ _ _ _ _ _) (fun e=>hobb e.symm)),(HC.out.trans (Chg.of hft)).trans (Chg.setCell (Chg.setCell (Chg.refl _ _) (.inl hos) _) (.inl hos) _)⟩,?_⟩;go_light;exact ml
       ·rw[if_neg h4]at hst;have HST:=qd hst;clear hst HWd HTw;generalize joinP (old.getD k default) (next.getD k default)=jo at *;obtain⟨jlo,jhi⟩:=jo;generalize old.getD k default=po at *;generalize next.getD k default=pn at *;obtain⟨olo,ohi⟩:=po;obtain⟨nlo,nhi⟩:=pn;dsimp only at o0 o1 n0 n1 HJ;go_upto_region 18 with(fail)
        refine wp_below_tail 11 kr kr (fun T F hF hall=>?_);simp only[TD];have hFc:=fun t=>(bcell (hF t)).1;have hFf:=fun t=>(bcell (hF t)).2;have hFs:=fun t=>(hF t).size;have hNE:Nonempty T:=(hall _ (Below.refl _ _)).elim fun t _=>⟨t⟩;repeat(refine WQ_step (fun K hK=>?_);go_simp;refine hK _ ?_;clear hK K)
        (refine WQ_step (fun K hK=>?_);go_simp;refine⟨_,fun t=>calls_family (hF t) hall (HJ.out (F t)),hK _ ?_⟩;clear hK K)
        repeat(refine WQ_step (fun K hK=>?_);go_simp;refine hK _ ?_;clear hK K)
        refine WQ_nil (fun t=>?_);have hft:=hF t;go_wp2;refine⟨⟨k+1,oz,si,qd (by rw[HST.out];exact(H.out.below hft).setS2 htt HIV.out hkt ⟨jlo,jhi⟩),qd ((HR.out.below hft).chg (chg2 _ _ _ _ _ _) (fun e=>hobb e.symm)),(HC.out.trans (Chg.of hft)).trans (Chg.setCell (Chg.setCell (Chg.refl _ _) (.inl hos) _) (.inl hos) _)⟩,?_⟩;go_light;exact ml
      ·have hkj:k=j:=oz
       subst hkj;have d4:¬(k:Int)<(k:Int):=oz
       have hmt:A.tg A.mb≠0:=by rw[H.out.tm];decide
       go_wp2
       go_end0
       go_light;refine⟨rfl,A.iv,A.tg,?_,hC.trans (Chg.setCell (Chg.refl _ _) (.inl hmt) _),fun x _=>rfl⟩;rw[HRE.out];exact H.out.setM tt true
section
theorem way_keep {B:Nat}{w:World}{v:Value}{m:PMod}(hm:ModAt B w v m) (he:(mayP m).e=0) {fn:Nat}(hfn:fn<m.funcs.length) {rg:Nat}(hrg:(fnAt m fn).regs=rg) :
 ∀ (a:Nat) (inn:List PSpan) (t:Int) (out:List PSpan),a<(fnAt m fn).code.length->LOk rg inn->t∈nextP (fnAt m fn) a->wayP m (fnAt m fn) a t inn=some out->LOk rg out:=by
 intro a inn t out ha hi ht hw;have hfine:=fine_of he;obtain⟨_,_,_,_,_,_,rfl,_,hfl1,hfl2,fb,fo,hfb,H,hH⟩:=hm;have hx:=hfine.ins fn a hfn ha;have hfo:=(hH fn oz).2;obtain⟨_,_,⟨hcl,_,cb,co,_,hcc⟩,_,_⟩:=hfo;have e:m.funcs.getD fn default=fnAt m fn:=rfl;rw[e]at hcl hcc;have h64:=(hcc a oz).2.2.2.2.2;have er:(fnAt m fn).regs.toNat=rg:=by rw[hrg];simp
 have hp:∀ i,i<(paramsAt m ((fnAt m fn).code.getD a default).n).length->In64 ((paramsAt m ((fnAt m fn).code.getD a default).n).getD i default).lo/\In64 ((paramsAt m ((fnAt m fn).code.getD a default).n).getD i default).hi:=fun i hi2=>by
  unfold paramsAt at hi2 ⊢;generalize ((fnAt m fn).code.getD a default).n.toNat=q at *;by_cases hq:q<m.funcs.length
  ·obtain⟨hsl,_,b,o,_,hs⟩:=(hH q oz).2.2.1;exact(hs i oz).2.2
  ·have:m.funcs.getD q default=default:=by rw[List.getD_eq_getElem?_getD,List.getElem?_eq_none (by omega)];rfl
   rw[this]at hi2;exact absurd hi2 (Nat.not_lt_zero i)
 have h:=way_ok (hfine.fn fn hfn) hx h64 hp (by rw[er];exact hi) hw;rw[er]at h;exact h
theorem callsIn_round {l n:Nat}{P:Program}{f:FuncId}{args:Array Value}{w:World}{R:Ending->World->Prop}(h:Calls P f args w R):CallsIn (Fence.wide.inRound l) n P f args w R:=(callsIn_wide.2 h:CallsIn Fence.wide n P f args w R)
structure RI (N:Nat) (A:BAd) (n rg bx t0 mb ab fx p:Nat) (mv fv:List Value) (w0:World) (s:PBS) (W:World) (iv:Nat->Option (Nat×Nat)) (tg:Nat->Nat):Prop where
 b:BAt N W { A with iv:=iv,tg:=tg } n rg s
 x:Own W bx [.pointer (some ⟨A.k,0,none⟩)]
 bo:Boxes W tg mb ab fx p A.k mv fv
 so:SOk n rg s
 mo:MOk n s
 tx:tg bx=0
 y0:tg t0=0
 y1:tg (t0+1)=0
 be:Below w0.heap.size w0 W
 nz:N<=W.heap.size
 nw:w0.heap.size<=N
 lq:mb<t0/\ab<t0/\fx<t0/\p<t0/\bx<t0/\A.k<t0
 nt:N<=t0
section
variable {N : Nat} {A : BAd} {n rg bx t0 mb ab fx p : Nat} {mv fv : List Value} {w0 : World} {s : PBS} {W W' : World} {iv : Nat -> Option (Nat × Nat)} {tg : Nat -> Nat} {S : Nat -> Prop}
theorem RI.keep (h:RI N A n rg bx t0 mb ab fx p mv fv w0 s W iv tg) (hc:Chg S W W') (hS:∀ x,S x->tg x=0/\t0+2<=x):RI N A n rg bx t0 mb ab fx p mv fv w0 s W' iv tg:=by
 obtain⟨l1,l2,l3,l4,l5,l6⟩:=h.lq;have no:∀ x,x<t0->¬S x:=fun x hx e=>by have:=(hS x e).2;omega
 exact⟨h.b.keep hc (fun x e=>(hS x e).1),hc.own h.x (no _ l5),⟨hc.own h.bo.cm (no _ l1),hc.own h.bo.ca (no _ l2),hc.own h.bo.cf (no _ l3),hc.own h.bo.cp (no _ l4),h.bo.tm,h.bo.ta,h.bo.tf,h.bo.tp⟩,h.so,h.mo,h.tx,h.y0,h.y1,
  h.be.trans (hc.below _ h.be.size (fun k hk e=>by have:=(hS k e).2;have:=h.nw;have:=h.nt;omega)),Nat.le_trans h.nz hc.size,h.nw,h.lq,h.nt⟩
theorem RI.below (h:RI N A n rg bx t0 mb ab fx p mv fv w0 s W iv tg) (hb:Below W.heap.size W W'):RI N A n rg bx t0 mb ab fx p mv fv w0 s W' iv tg:=h.keep (S:=fun _=>False) (Chg.of hb) (fun _ e=>e.elim)
/-- the state's blocks are written -/
theorem RI.wr (h:RI N A n rg bx t0 mb ab fx p mv fv w0 s W iv tg) {s':PBS}{iv':Nat->Option (Nat×Nat)}{tg':Nat->Nat}(hb:BAt N W' { A with iv:=iv',tg:=tg' } n rg s') (hc:Chg (fun x=>tg x≠0) W W') (ht:∀ x,x<t0+2->tg' x=tg x) (hso:SOk n rg s') (hmo:MOk n s'):RI N A n rg bx t0 mb ab fx p mv fv w0 s' W' iv' tg':=by
 obtain⟨l1,l2,l3,l4,l5,l6⟩:=h.lq;have hx:=h.bo.keep hc (fun x e=>e);refine⟨hb,hc.own h.x (fun e=>e h.tx),⟨hx.cm,hx.ca,hx.cf,hx.cp,by rw[ht _ (by omega)];exact h.bo.tm,by rw[ht _ (by omega)];exact h.bo.ta,by rw[ht _ (by omega)];exact h.bo.tf,by rw[ht _ (by omega)];exact h.bo.tp⟩,hso,hmo,by rw[ht _ (by omega)];exact h.tx,by rw[ht _ (by omega)];exact h.y0,by rw[ht _ (by omega)];exact h.y1,
  h.be.trans (hc.below _ h.be.size (fun k hk e=>by have:=h.b.lo k e;have:=h.nw;omega)),Nat.le_trans h.nz hc.size,h.nw,h.lq,h.nt⟩
theorem RI.turn (h:RI N A n rg bx t0 mb ab fx p mv fv w0 s W iv tg) (c:Turn t0 W W'):RI N A n rg bx t0 mb ab fx p mv fv w0 s W' iv tg:=by
 obtain⟨l1,l2,l3,l4,l5,l6⟩:=h.lq;exact⟨h.b.turn c l6,h.x.turn c l5,⟨h.bo.cm.turn c l1,h.bo.ca.turn c l2,h.bo.cf.turn c l3,h.bo.cp.turn c l4,h.bo.tm,h.bo.ta,h.bo.tf,h.bo.tp⟩,h.so,h.mo,h.tx,h.y0,h.y1,
  h.be.trans (c.below.mono (by have:=h.nw;have:=h.nt;omega)),by rw[c.size];exact h.nz,h.nw,h.lq,h.nt⟩
/-- the loop's own record stays as it is -/
theorem RI.recd (h:RI N A n rg bx t0 mb ab fx p mv fv w0 s W iv tg) (hc:Chg S W W') (hS:∀ x,S x->tg x≠0\/t0+2<=x) (hz:t0+1<W.heap.size):∀ q,t0<=q->q<t0+2->W'.heap[q]? = W.heap[q]? := fun q h1 h2=>by
 refine hc.block q oz (fun e=>?_);have:q=t0\/q=t0+1:=oz
 rcases hS q e with h3|h3
 ·rcases this with rfl|rfl
  ·exact h3 h.y0
  ·exact h3 h.y1
 ·omega
end
end
theorem params_ok {B:Nat}{w:World}{v:Value}{m:PMod}(hm:ModAt B w v m) (he:(mayP m).e=0) {fn:Nat}(hfn:fn<m.funcs.length):(∀ i,i<(fnAt m fn).params.length->SpOk ((fnAt m fn).params.getD i default))/\∀ k,k<(fnAt m fn).code.length->In64 ((fnAt m fn).code.getD k default).n:=by
 have hfine:=fine_of he;have hne:=fun(i:Nat) (hi:i<(fnAt m fn).params.length)=>params_fine he hfn (i:=i) hi;obtain⟨_,_,_,_,_,_,rfl,_,hfl1,hfl2,fb,fo,hfb,H,hH⟩:=hm;have hfo:=(hH fn oz).2;have e:m.funcs.getD fn default=fnAt m fn:=rfl;rw[e]at hfo;obtain⟨_,hsp,⟨hcl,_,cb,co,_,hcc⟩,_,_⟩:=hfo;constructor
 ·intro i hi;obtain⟨hsl,_,b,o,_,hs⟩:=hsp;have h:=(hs i oz).2.2;exact⟨h.1,h.2,hne i hi⟩
 ·intro k hk;exact(hcc k oz).2.2.2.2.2
theorem inn_ok {B:Nat}{w:World}{v:Value}{m:PMod}(hmo:ModAt B w v m) (he:(mayP m).e=0) {fn:Nat}(hfn:fn<m.funcs.length) {s:PBS}(hrs:RunsS m (fnAt m fn) (startS (fnAt m fn)) s) :
 InnOk m (fnAt m fn) s.inn/\LOk (fnAt m fn).regs.toNat (beginP (fnAt m fn))/\∀ v,InL (beginP (fnAt m fn)) v->TOk m (fnAt m fn) s.inn 0 (-1) v:=by
 have hfine:=fine_of he;have hff:=hfine.fn fn hfn;obtain⟨hpar,h64⟩:=params_ok hmo he hfn;obtain⟨rg,hrg⟩:∃ rg:Nat,(fnAt m fn).regs=rg:=⟨(fnAt m fn).regs.toNat,by have:=hff.r1;omega⟩
 have hr0:0<rg:=by have:=hff.r1;omega
 have er:(fnAt m fn).regs.toNat=rg:=by rw[hrg];simp
 have hn0:0<(fnAt m fn).code.length:=hff.c1;have H:=way_keep hmo he hfn hrg;obtain⟨s0,m0⟩:=start_ok hrg hr0 rfl hn0 hff.np hpar;have hb:=begin_ok hrg hff.np hpar;have hc0:ClosD m (fnAt m fn) (fnAt m fn).code.length (startS (fnAt m fn)):=fun k hk hm hne=>by
  rw[start_is _ hrg rfl]at hm hne;unfold zeroPS at hm hne;dsimp only at hm hne;rw[getD_ext]at hm hne;by_cases h0:k=0/\0<(List.replicate (fnAt m fn).code.length false).length
  ·rw[if_pos h0]at hm;cases hm
  ·rw[if_neg (by simpa using h0),getD_rep _ k _ _ hk]at hne;exact absurd rfl hne
 obtain⟨c1,c2,c3⟩:=runs_clos hr0 rfl H hrs s0 m0 hc0;have hok:∀ k,k<(fnAt m fn).code.length->s.inn.getD k []≠[]->LOk (fnAt m fn).regs.toNat (s.inn.getD k []):=fun k hk hne=>by rw[er];exact(c2.inn k hk).resolve_left hne
 refine⟨⟨hok,fun k hk t ht out hne hw=>?_,fun k hk t ht out hne hw v hv=>c3 k hk hne t ht out hw v hv,h64,hff.w1⟩,by rw[er];exact hb,fun v hv=>⟨hn0,.zero,c1 0 v ?_,.inl ⟨rfl,rfl,hv⟩⟩⟩
 ·have h:=hok k hk hne;rw[er]at h ⊢;exact H k _ t out hk h ht hw
 ·have e:(startS (fnAt m fn)).inn.getD 0 []=beginP (fnAt m fn):=by
   rw[start_is _ hrg rfl];unfold zeroPS;dsimp only;rw[getD_ext,if_pos ⟨rfl,by simpa using hn0⟩]
  rw[e];refine⟨fun e=>?_,hv⟩;have:=hb.1;rw[e]at this;simp at this;omega
section
theorem len_lt (lh:PSpan×PSpan):lenLH lh<18446744073709551616:=by
 unfold lenLH lengthP;split
 ·split
  ·omega
  ·rw[u64_wrap];omega
 ·omega
/-- what a loop's count is behind a step -/
def updC (l:PLoop) (k:Nat) (fr:Int) (inc:Bool) (g:Int):Int:=if l.head=k then(if fr∈l.members then g else 0)+(if inc then 1 else 0)else g
def incB (f:PFunc) (k:Nat) (r:Option (Int×List Int)):Bool:=match r with
 | some p=>decide (p.1=(k:Int)+1)&&decide ((f.code.getD k default).n≠p.1)
 | none=>false
def goneTo (ls:List PLoop) (k:Nat) (fr:Int) (inc:Bool) (G:List Int) (i:Nat):List Int:=(List.range G.length).map fun j=>if j<i then updC (ls.getD j default) k fr inc (G.getD j 0)else G.getD j 0
section
variable {ls : List PLoop} {k i j : Nat} {fr : Int} {inc : Bool} {G : List Int}
theorem goneTo_len:(goneTo ls k fr inc G i).length=G.length:=by simp[goneTo]
theorem goneTo_at (hj:j<G.length):(goneTo ls k fr inc G i)[j]? = some (if j<i then updC (ls.getD j default) k fr inc (G.getD j 0)else G.getD j 0):=by
 unfold goneTo;rw[List.getElem?_map,List.getElem?_range hj];rfl
theorem goneTo_zero:goneTo ls k fr inc G 0=G:=by
 apply List.ext_getElem?;intro j;by_cases hj:j<G.length
 ·rw[goneTo_at hj,if_neg (by omega),List.getD_eq_getElem?_getD,List.getElem?_eq_getElem hj];rfl
 ·rw[List.getElem?_eq_none (by rw[goneTo_len];omega),List.getElem?_eq_none (by omega)]
theorem goneTo_set:(goneTo ls k fr inc G i).set i (updC (ls.getD i default) k fr inc (G.getD i 0))=goneTo ls k fr inc G (i+1):=by
 apply List.ext_getElem?;intro j;by_cases hj:j<G.length
 ·by_cases e:j=i
  ·subst e;rw[List.getElem?_set_self (by rw[goneTo_len];exact hj),goneTo_at hj,if_pos (by omega)]
  ·rw[List.getElem?_set_ne (by omega),goneTo_at hj,goneTo_at hj];by_cases h:j<i
   ·rw[if_pos h,if_pos (by omega)]
   ·rw[if_neg h,if_neg (by omega)]
 ·rw[List.getElem?_eq_none (by rw[List.length_set,goneTo_len];omega),List.getElem?_eq_none (by rw[goneTo_len];omega)]
theorem goneTo_same (h:(ls.getD i default).head≠k):goneTo ls k fr inc G (i+1)=goneTo ls k fr inc G i:=by
 apply List.ext_getElem?;intro j;by_cases hj:j<G.length
 ·rw[goneTo_at hj,goneTo_at hj];by_cases e:j=i
  ·subst e;rw[if_pos (by omega),if_neg (by omega)];unfold updC;rw[if_neg h]
  ·by_cases h:j<i
   ·rw[if_pos h,if_pos (by omega)]
   ·rw[if_neg h,if_neg (by omega)]
 ·rw[List.getElem?_eq_none (by rw[goneTo_len];omega),List.getElem?_eq_none (by rw[goneTo_len];omega)]
end
structure AllInv (m:PMod) (f:PFunc) (inn:List (List PSpan)) (ls:List PLoop) (k:Nat) (fr:Int) (v:List Int) (G:List Int):Prop where
 len:G.length=ls.length
 each:∀ j,j<ls.length->LInv m f inn (ls.getD j default) k fr v (G.getD j 0)
theorem find_nats {f:PFunc}(hf:(findP f).2.1=0):∀ l∈(findP f).1,∀ x∈l.members,∃ k:Nat,x=k/\k<f.code.length:=by
 intro l hl x hx;have hr:l∈parP (loopsL f):=by
  unfold findP at *;by_cases hn:1024<f.code.length
  ·rw[if_pos hn]at hf;cases hf
  rw[if_neg hn]at hf hl;cases h1:firstI f.code.length (fun k=>comesB (GL f) k)with
  | some v=>rw[h1]at hf;cases hf
  | none =>
   rw[h1]at hf hl;dsimp only at hf hl;cases h2:(loopsL f).find? (fun l=>decide ((countsP f l).1≠0))with
   | some l'=>rw[h2]at hl;simp at hl
   | none=>rw[h2]at hl;exact hl
 obtain⟨y,hy,e1,e2,e3⟩:=parP_mem hr;unfold loopsL at hy;obtain⟨z,hz,rfl⟩:=List.mem_map.1 hy;have em:l.members=pickN f.code.length (inB_ (GL f) z.toNat):=e2;rw[em]at hx;obtain⟨k,hk,_,rfl⟩:=pickN_iff.1 hx;exact⟨k,rfl,hk⟩
section
variable {m : PMod} {fn : Nat} {inn : List (List PSpan)} {ls : List PLoop} {k j : Nat} {fr : Int} {v v' : List Int} {ans nx : Int} {G : List Int}
theorem all_bound (hm:Fine m) (hfn:fn<m.funcs.length) (hi:InnOk m (fnAt m fn) inn) (hb:LOk (fnAt m fn).regs.toNat (beginP (fnAt m fn))) (hls:∀ l∈ls,LCnt (fnAt m fn) l) (h:TOk m (fnAt m fn) inn k fr v) (h64:In64 ans) (ha:AllInv m (fnAt m fn) inn ls k fr v G) (hj:j<ls.length) :
 0<=updC (ls.getD j default) k fr (incB (fnAt m fn) k (stepR m (fnAt m fn) k v ans)) (G.getD j 0)/\updC (ls.getD j default) k fr (incB (fnAt m fn) k (stepR m (fnAt m fn) k v ans)) (G.getD j 0)<=tripN m (fnAt m fn) inn (ls.getD j default) /\
 ∀ nx v',stepR m (fnAt m fn) k v ans=some (nx,v')->LInv m (fnAt m fn) inn (ls.getD j default) nx.toNat k v' (updC (ls.getD j default) k fr (incB (fnAt m fn) k (stepR m (fnAt m fn) k v ans)) (G.getD j 0)):=by
 have hl:=ha.each j hj;have hc:=hls (ls.getD j default) (by rw[List.getD_eq_getElem?_getD,List.getElem?_eq_getElem hj];exact List.getElem_mem hj);generalize ls.getD j default=l at *;generalize G.getD j 0=g at *;unfold updC;by_cases hk:l.head=k
 ·rw[if_pos hk];obtain⟨b1,b2,b3⟩:=linv_head (ans:=ans) hm hfn hi hb hc h hk.symm hl;generalize (if fr∈l.members then g else 0)=g0 at *;cases hs:stepR m (fnAt m fn) k v ans with
  | none =>
   have:incB (fnAt m fn) k none=false:=rfl;rw[this];refine⟨by simpa using b1,by simpa using b2,fun nx v' h=>?_⟩;cases h
  | some p =>
   obtain⟨nx,v'⟩:=p;obtain⟨c1,c2⟩:=b3 nx v' hs;by_cases hq:nx=(k:Int)+1/\((fnAt m fn).code.getD k default).n≠nx
   ·have:incB (fnAt m fn) k (some (nx,v'))=true:=by unfold incB;simp[hq.1];rw[<-hq.1];exact hq.2
    rw[this];have c:=c1 hq;refine⟨by have:=c.le;simp;omega,by have:=c.le;simp;omega,fun nx2 v2 h=>?_⟩;cases h;simpa using c
   ·have:incB (fnAt m fn) k (some (nx,v'))=false:=by
     unfold incB;simp only[Bool.and_eq_false_iff,decide_eq_false_iff_not];by_cases h1:nx=(k:Int)+1
     ·exact .inr (fun h2=>hq ⟨h1,h2⟩)
     ·exact .inl h1
    rw[this];refine⟨by simpa using b1,by simpa using b2,fun nx2 v2 h=>?_⟩;cases h;simpa using c2 hq
 ·rw[if_neg hk];refine⟨hl.le.1,hl.le.2,fun nx v' hs=>linv_other hm hfn hi hc h (fun e=>hk e.symm) hl hs⟩
theorem all_step (hm:Fine m) (hfn:fn<m.funcs.length) (hi:InnOk m (fnAt m fn) inn) (hb:LOk (fnAt m fn).regs.toNat (beginP (fnAt m fn))) (hls:∀ l∈ls,LCnt (fnAt m fn) l) (h:TOk m (fnAt m fn) inn k fr v) (h64:In64 ans) (ha:AllInv m (fnAt m fn) inn ls k fr v G) (hs:stepR m (fnAt m fn) k v ans=some (nx,v')) :
 AllInv m (fnAt m fn) inn ls nx.toNat k v' (goneTo ls k fr (incB (fnAt m fn) k (some (nx,v'))) G ls.length):=by
 refine⟨goneTo_len.trans ha.len,fun j hj=>?_⟩;have hb:=(all_bound hm hfn hi hb hls h h64 ha hj).2.2 nx v' hs;rw[hs]at hb;have e:(goneTo ls k fr (incB (fnAt m fn) k (some (nx,v'))) G ls.length).getD j 0=updC (ls.getD j default) k fr (incB (fnAt m fn) k (some (nx,v'))) (G.getD j 0):=by
  rw[List.getD_eq_getElem?_getD,goneTo_at (by rw[ha.len];exact hj),if_pos hj];rfl
 rw[e];exact hb
theorem all_start (hls:∀ l∈ls,∀ x∈l.members,∃ k:Nat,x=k/\k<(fnAt m fn).code.length):AllInv m (fnAt m fn) inn ls 0 (-1) v (List.replicate ls.length 0):=by
 refine⟨si,fun j hj=>?_⟩;rw[getD_rep _ _ _ _ hj];refine⟨⟨Int.le_refl 0,len_nn _⟩,fun h=>?_⟩;obtain⟨k,hk,_⟩:=hls (ls.getD j default) (by rw[List.getD_eq_getElem?_getD,List.getElem?_eq_getElem hj];exact List.getElem_mem hj) _ h;omega
end
/-- an argument as it is taken -/
def clampV (f:PFunc) (args:List Int) (i:Nat):Int:=if(if i<args.length then args.getD i 0 else 0)<(f.params.getD i default).lo\/(f.params.getD i default).hi<(if i<args.length then args.getD i 0 else 0)then(f.params.getD i default).hi else(if i<args.length then args.getD i 0 else 0)
def startTo (f:PFunc) (args:List Int) (i:Nat):List Int:=(List.range f.regs.toNat).map fun j=>if j<i then clampV f args j else 0
theorem startTo_len (f:PFunc) (args:List Int) (i:Nat):(startTo f args i).length=f.regs.toNat:=by simp[startTo]
theorem startTo_at {f:PFunc}{args:List Int}{i j:Nat}(hj:j<f.regs.toNat):(startTo f args i)[j]? = some (if j<i then clampV f args j else 0):=by
 unfold startTo;rw[List.getElem?_map,List.getElem?_range hj];rfl
theorem startTo_zero (f:PFunc) (args:List Int):startTo f args 0=List.replicate f.regs.toNat 0:=by
 apply List.ext_getElem?;intro j;by_cases hj:j<f.regs.toNat
 ·rw[startTo_at hj,if_neg (by omega),List.getElem?_replicate,if_pos hj]
 ·rw[List.getElem?_eq_none (by rw[startTo_len];omega),List.getElem?_eq_none (by rw[List.length_replicate];omega)]
theorem startTo_set {f:PFunc}{args:List Int}{i:Nat}:(startTo f args i).set i (clampV f args i)=startTo f args (i+1):=by
 apply List.ext_getElem?;intro j;by_cases hj:j<f.regs.toNat
 ·by_cases e:j=i
  ·subst e;rw[List.getElem?_set_self (by rw[startTo_len];exact hj),startTo_at hj,if_pos (by omega)]
  ·rw[List.getElem?_set_ne (by omega),startTo_at hj,startTo_at hj];by_cases h:j<i
   ·rw[if_pos h,if_pos (by omega)]
   ·rw[if_neg h,if_neg (by omega)]
 ·rw[List.getElem?_eq_none (by rw[List.length_set,startTo_len];omega),List.getElem?_eq_none (by rw[startTo_len];omega)]
theorem start_in {f:PFunc}{args:List Int}(hp:∀ i,i<f.params.length->SpOk (f.params.getD i default)) (hn:(f.params.length:Int)<=f.regs):InL (beginP f) (startTo f args f.params.length):=by
 have hl:(beginP f).length=f.regs.toNat:=by unfold beginP;rw[List.length_append,List.length_replicate];omega
 refine⟨by rw[startTo_len,hl],fun i hi=>?_⟩;rw[hl]at hi;rw[List.getD_eq_getElem?_getD,List.getD_eq_getElem?_getD,startTo_at hi];unfold beginP;by_cases h:i<f.params.length
 ·rw[List.getElem?_append_left h,if_pos h];have hs:=hp i h;rw[List.getD_eq_getElem?_getD]at hs;unfold clampV;simp only[List.getD_eq_getElem?_getD,Option.getD_some];have h9:=hs.2.2;unfold InS;generalize (f.params[i]?.getD default)=p at *;generalize (if i<args.length then args[i]?.getD 0 else 0)=x at *;split<;>omega
 ·rw[List.getElem?_append_right (by omega),if_neg h,List.getElem?_replicate,if_pos (by omega)];exact⟨Int.le_refl 0,Int.le_refl 0⟩
end
/-- what going a way leaves: the flag; where it is gone the spans behind it -/
def AwayPost (b n c:Nat) (w:World) (res:Option (List PSpan)) (e:Ending) (w':World):Prop:=e=.returned (.bool res.isSome)/\Chg (· = b) w w'/\∀ out,res=some out->SpRow w' b n c out
theorem away_set (x:PIns) (B:Nat) (m:PMod) (hh:HF) (f:PFunc) (ta fa:Option Addr) (tl tc fl fc:Nat) (frm:Nat) (to_:Int) (b n c:Nat) (r:List PSpan) (w:World) (hB:B<=w.heap.size) (hf:FuncOk B w hh f) (hfl:frm<f.code.length) (hn1:f.code.length<=1024) (hx:f.code.getD frm default=x) (hi:InsFine m f x) (hr:SpRow w b n c r) (hrg:(n:Int)=f.regs) (hn:n<=64) (hop:x.op=1):Calls Tryz.prog 47 #[.agg #[.slice ta tl tc,.slice fa fl fc],FuncVal hh f,.int .i64 frm,.int .i64 to_,.slice (some ⟨b,0,none⟩) n c] w (AwayPost b n c w (some (spSet r x.a ⟨x.n,x.n⟩))):=by
 obtain⟨pa,pl,pc,cb,co,cc,rfl,hcm,hcB,⟨g0,g1,g2,g3,g4⟩,hcbl,hcb1,hcb2,hcb3,hfr,hwf⟩:=away_pre hB hf hfl hn1 hx;clear hf;unfold FuncVal;dsimp only;have hbl:=hr.lt;obtain⟨op,xa,xb,xc,xn⟩:=x;obtain⟨v1,v2,v3,v4,v5,v6,v7,v8,v9,v10⟩:=hi;dsimp only at *;subst hop;have hmf:=@mkF Tryz.prog;go_enter Tryz.func47,Tryz.ntmps47;go_upto_region 2 with(fail)
 generalize hW0:World.alloc _ _=W0;obtain⟨hb0,OM,OF,OR,OX,hz0⟩:=own_four hW0;clear hW0 g0 g1 g2 g3 g4;have hr0:=hr.below hb0;have x5:=own5 OX;have o1:=own1 OR;go_cut [12] (fun v wx=>v=.bool (decide (to_=xn)&&decide (xn≠(frm:Int)+1))/\wx=W0)
 case first =>
  by_cases e1:to_=xn
  ·have q1:(to_==xn)=true:=by simpa using e1
   by_cases e2:xn=(frm:Int)+1
   ·have q2:(xn != (frm:Int)+1)=false:=by simpa using e2
    go_wp2;go_meet
    all_goals exact⟨by simp[e1,e2],rfl⟩
   ·have q2:(xn != (frm:Int)+1)=true:=by simpa using e2
    go_wp2;go_meet
    all_goals exact⟨by simp[e1,e2],rfl⟩
  ·have q1:(to_==xn)=false:=by simpa using e1
   go_wp2;go_meet
   all_goals exact⟨by simp[e1],rfl⟩
 case rest =>
  obtain⟨rfl,rfl⟩:=hcut;obtain⟨wb,hwb⟩:∃ wb:World,wb=wc:=⟨_,rfl⟩
  subst hwb;generalize hfar:(decide (to_=xn)&&decide (xn≠(frm:Int)+1))=far;have HFAR:=qd hfar;clear hfar;obtain⟨ka,rfl⟩:=Int.eq_ofNat_of_zero_le v3;have hka:ka<n:=oz
  have hka2:(ka:Int)<(n:Int):=oz
  obtain⟨r0,r1,r2,r3⟩:=hr0.cells hka;go_wp2;go_ret;go_light;refine⟨rfl,(Chg.of hb0).trans (chg2 _ _ _ _ _ _),fun out ho=>?_⟩;cases ho;unfold spSet;rw[Int.toNat_natCast];exact hr0.set hka ⟨xn,xn⟩
end Go.Proofs.YteebpnbdihcfmaaGreatDoor
