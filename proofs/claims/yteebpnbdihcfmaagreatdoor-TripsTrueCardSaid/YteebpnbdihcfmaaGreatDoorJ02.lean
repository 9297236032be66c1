/- Own rows of cells; Package span; Package span; Package span -/
import Derived.Test.YteebpnbdihcfmaaGreatDoorJ01
import Derived.Deep.OwnRows
import Derived.Laws.CopyOwn
import Derived.Lib.AppendStr
import Derived.Deep.RegionLaw
import Derived.Deep.RegionHeld3
set_option linter.unusedVariables false
set_option linter.unusedSimpArgs false
set_option maxRecDepth 100000
set_option maxHeartbeats 20000000
namespace Go.Proofs.YteebpnbdihcfmaaGreatDoor
open Go.RowKit
/-- all blocks that were there, but those of S, are as they were -/
structure Chg (S:Nat->Prop) (w w':World):Prop where
 os:w'.os=w.os
 tape:w'.tape=w.tape
 output:w'.output=w.output
 size:w.heap.size<=w'.heap.size
 block:∀ k,k<w.heap.size->¬S k->w'.heap[k]? = w.heap[k]?
theorem Chg.refl (S:Nat->Prop) (w:World):Chg S w w:=⟨rfl,rfl,rfl,Nat.le_refl _,fun _ _ _=>rfl⟩
theorem Chg.alloc {S:Nat->Prop}{a w:World}(h:Chg S a w) (o:Obj):Chg S a (w.alloc o) :=
 ⟨h.os,h.tape,h.output,by have:=h.size;simp;omega,fun k hk hs=>by rw[Below.heap_alloc _ _ _ (by have:=h.size;omega)];exact h.block k hk hs⟩
theorem Chg.drew {S:Nat->Prop}{a w:World}(h:Chg S a w):Chg S a w.drew:=⟨h.os,h.tape,h.output,h.size,h.block⟩
theorem Chg.drewN {S:Nat->Prop}{a w:World}(h:Chg S a w) (n:Nat):Chg S a (w.drewN n):=⟨h.os,h.tape,h.output,h.size,h.block⟩
theorem Chg.setCell {S:Nat->Prop}{a w:World}(h:Chg S a w) {p:Addr}(hp:S p.block\/a.heap.size<=p.block) (u:Value):Chg S a (w.setCell p u) :=
 ⟨h.os,h.tape,h.output,by have:=h.size;simpa using this,fun k hk hs=>by rw[Below.heap_setCell _ _ _ _ (by rcases hp with hp|hp<;>intro e<;>subst e<;>first|exact hs hp|omega)];exact h.block k hk hs⟩
theorem Chg.trans {S:Nat->Prop}{a b c:World}(h:Chg S a b) (k:Chg S b c):Chg S a c :=
 ⟨k.os.trans h.os,k.tape.trans h.tape,k.output.trans h.output,Nat.le_trans h.size k.size,fun i hi hs=>(k.block i (Nat.lt_of_lt_of_le hi h.size) hs).trans (h.block i hi hs)⟩
theorem Chg.mono {S T:Nat->Prop}{a b:World}(h:Chg S a b) (hst:∀ k,k<a.heap.size->S k->T k):Chg T a b:=⟨h.os,h.tape,h.output,h.size,fun i hi hs=>h.block i hi (fun x=>hs (hst i hi x))⟩
theorem Chg.of {S:Nat->Prop}{w w':World}(h:Below w.heap.size w w'):Chg S w w':=⟨h.os,h.tape,h.output,h.size,fun k hk _=>h.block k hk⟩
theorem Chg.below {S:Nat->Prop}{w w':World}(h:Chg S w w') (B:Nat) (hB:B<=w.heap.size) (hs:∀ k,k<B->¬S k):Below B w w':=⟨h.os,h.tape,h.output,h.size,fun k hk=>h.block k oz (hs k hk)⟩
theorem Chg.own {S:Nat->Prop}{w w':World}(h:Chg S w w') {k:Nat}{cs:List Value}(o:Own w k cs) (hk:¬S k):Own w' k cs:=by
 have hb:=h.block k o.1 hk;exact⟨Nat.lt_of_lt_of_le o.1 h.size,fun i v hv=>by rw[World.cell?_of_block (w:=w) hb];exact o.2.1 i v hv,fun i=>by rw[World.frozen?_of_block (w:=w) hb];exact o.2.2 i⟩
theorem Chg.same {S:Nat->Prop}{w w':World}(h:Chg S w w') {B:Nat}(hB:B<=w.heap.size) (hs:∀ k,k<B->¬S k):Same B w w':=Same.of' (h.below B hB hs)
theorem Chg.trans2 {S T:Nat->Prop}{a b c:World}(h:Chg S a b) (k:Chg T b c) (hT:∀ x,x<a.heap.size->T x->S x):Chg S a c :=
 ⟨k.os.trans h.os,k.tape.trans h.tape,k.output.trans h.output,Nat.le_trans h.size k.size,fun i hi hs=>(k.block i (Nat.lt_of_lt_of_le hi h.size) (fun e=>hs (hT i hi e))).trans (h.block i hi hs)⟩
theorem Chg.cellAt {S:Nat->Prop}{w w':World}(h:Chg S w w') {b:Nat}(o:Nat) (hb:b<w.heap.size) (hs:¬S b):w'.cell? ⟨b,o,none⟩=w.cell? ⟨b,o,none⟩:=World.cell?_of_block (h.block b hb hs)
theorem chg_grown {w w':World}{row:Option Nat}(h:w.grownBy w' row):Chg (fun k=>row=some k) w w':=⟨h.os,h.tape,h.output,h.size,fun k hk hn=>h.block k hk (fun e=>hn e.symm)⟩
theorem row_chg {S:Nat->Prop}{w w':World}(c:Chg S w w') {e size n:Nat}{v:Value}{xs:List Value}(h:w.ownsRow 0 e size v n xs) (hg:∀ k,v.ownBlock=some k->¬S k):w'.ownsRow 0 e size v n xs:=by
 obtain⟨h1,h2⟩:=h;refine⟨h1,?_⟩;rcases h2 with h2|⟨g,cap,cur,rfl,hb,hh,rest⟩
 ·exact .inl h2
 ·exact .inr ⟨g,cap,cur,rfl,hb,by rw[c.block g (Array.getElem?_eq_some_iff.1 hh).1 (hg g rfl)];exact hh,rest⟩
theorem row_below {w w':World}(c:Below w.heap.size w w') {e size n:Nat}{v:Value}{xs:List Value}(h:w.ownsRow 0 e size v n xs):w'.ownsRow 0 e size v n xs :=
 row_chg (S:=fun _=>False) (Chg.of c) h (fun _ _ h=>h)
theorem row_lt {w:World}{e size n:Nat}{v:Value}{xs:List Value}(h:w.ownsRow 0 e size v n xs) {k:Nat}(hk:v.ownBlock=some k):k<w.heap.size:=(h.lt k hk).2
theorem row_ltB {w:World}{e size n g c:Nat}{xs:List Value}(h:w.ownsRow 0 e size (.slice (some ⟨g,0,none⟩) n c) n xs):g<w.heap.size:=row_lt h rfl
theorem row_form {w:World}{e size n:Nat}{v:Value}{xs:List Value}(h:w.ownsRow 0 e size v n xs):(v=.slice none 0 0/\n=0/\xs=[])\/∃ g cap,v=.slice (some ⟨g,0,none⟩) n cap/\n<=cap/\cap<=maxLen/\g<w.heap.size:=by
 obtain⟨h1,h2⟩:=h;rcases h2 with⟨rfl,rfl⟩|⟨g,cap,cur,rfl,_,hh,q1,q2,_⟩
 ·exact .inl ⟨rfl,rfl,List.eq_nil_of_length_eq_zero (by simpa using h1)⟩
 ·exact .inr ⟨g,cap,rfl,q1,q2,(Array.getElem?_eq_some_iff.1 hh).1⟩
theorem row_pos {w:World}{e size n:Nat}{v:Value}{xs:List Value}(h:w.ownsRow 0 e size v n xs) (hn:0<n):∃ g cap,v=.slice (some ⟨g,0,none⟩) n cap/\n<=cap/\cap<=maxLen/\g<w.heap.size:=by
 rcases row_form h with⟨_,h0,_⟩|h
 ·omega
 ·exact h
theorem row_cell {w:World}{e size b n cap:Nat}{xs:List Value}(h:w.ownsRow 0 e size (.slice (some ⟨b,0,none⟩) n cap) n xs) {j:Nat}{u:Value}(hu:xs[j]? = some u):w.cell? ⟨b,j,none⟩=some u:=by
 have:=h.cells (g:=b) rfl j u hu;unfold Addr.add at this;split at this
 ·rename_i e0;subst e0;exact this
 ·simpa using this
/-- what an index's write leaves -/
theorem row_set {w:World}{e size b n cap:Nat}{xs:List Value}(h:w.ownsRow 0 e size (.slice (some ⟨b,0,none⟩) n cap) n xs) (j:Nat) (u:Value):(w.setCell ⟨b,j,none⟩ u).ownsRow 0 e size (.slice (some ⟨b,0,none⟩) n cap) n (xs.set j u):=(h.stored j u).1
/-- a shorter row -/
theorem row_take {w:World}{e size b n cap:Nat}{xs:List Value}(h:w.ownsRow 0 e size (.slice (some ⟨b,0,none⟩) n cap) n xs) (m:Nat) (hm:m<=n):w.ownsRow 0 e size (.slice (some ⟨b,0,none⟩) m cap) m (xs.take (m*size)):=by
 obtain⟨h1,h2⟩:=h;have hmul:m*size<=n*size:=Nat.mul_le_mul_right _ hm;refine⟨by rw[List.length_take,h1];omega,?_⟩;rcases h2 with⟨h0,_⟩|⟨g',cap',cur,hv,hb,hh,q1,q2,q3,q4⟩
 ·cases h0
 ·cases hv;exact .inr ⟨b,cap,cur,rfl,hb,hh,oz,q2,q3,by rw[<-q4,List.take_take,Nat.min_eq_left hmul]⟩
def Nums (l:List Int):List Value:=l.map (Value.int .i64)
theorem Nums_some {l:List Int}{i:Nat}{v:Int}(h:l[i]? = some v):(Nums l)[i]? = some (.int .i64 v):=by simp[Nums,h]
theorem Nums_one (l:List Int):∀ v∈Nums l,v.oneCell'=true:=by
 intro v hv;obtain⟨n,_,rfl⟩:=List.mem_map.1 hv;rfl
theorem Nums_len (l:List Int):(Nums l).length=l.length:=by simp[Nums]
theorem Nums_append (l k:List Int):Nums (l++k)=Nums l++Nums k:=by simp[Nums]
def Bools (l:List Bool):List Value:=l.map Value.bool
theorem Tryz.infoI:(Tryz.prog.info? 3).map (fun i=>(i.zero,i.size,i.bytes))=some (some (.int .i64 0),1,8):=kr
theorem Tryz.info64:(Tryz.prog.info? 2).map (fun i=>(i.zero,i.size,i.bytes))=some (some (.int .i64 0),1,8):=kr
/-- append of elements that lie in memory to an own row -/
theorem wpList_app {P:Program}{w:World}{ops:Array Oper}{rest:List Oper}{o:Oper}{a:Act}{Q:Exit->Act->World->Prop}(hgd:o.guard=none) (s x:Operand) (t e size bytes:Nat) (z:Value)
 (ho:o.op=.call { callee:=.builtin .append,args:=#[s,x],argTypes:=#[t,t] }) (ht:P.underlying t=some (.slice e)) (hinfo:(P.info? e).map (fun i=>(i.zero,i.size,i.bytes))=some (some z,size,bytes)) (hzs:z.cells.size=size) (hsz:0<size)
 (v:Value) (n:Nat) (xs:List Value) (hs:a.eval s=v) (hown:w.ownsRow 0 e size v n xs)
 (ad:Addr) (m c:Nat) (news:List Value) (hx:a.eval x=.slice (some ad) m c) (hl:news.length=m*size) (hnews:∀ j u,news[j]? = some u->w.cell? (ad.add j)=some u) (h1:∀ u∈news,u.oneCell'=true)
 (h63:n+m<=maxLen) (hbytes:(n+m)*bytes<=140737488355328) (hm:0<m)
 (h:∀ g' cap' w',w'.ownsRow 0 e size (.slice (some ⟨g',0,none⟩) (n+m) cap') (n+m) (xs++news)->Chg (fun k=>v.ownBlock=some k) w w'->(v.ownBlock=some g'\/g'=w.heap.size)->wpList P ops Q rest (a.put o.dst (.slice (some ⟨g',0,none⟩) (n+m) cap')) w'):wpList P ops Q (o::rest) a w:=by
 obtain⟨i0,hi,iz0,iz1,iz2⟩:=info_parts hinfo;refine wpList_append2 w hgd s x t ho e i0 z size bytes ht hi iz0 iz1 iz2 hzs hsz v n xs hs hown ad m c news hx hl hnews h1 h63 hbytes ?_;intro v' w' h2 h3 h4;obtain⟨g',cap',rfl,_,_,_⟩:=row_pos h2 oz;refine h g' cap' w' h2 (chg_grown h3) ?_;rcases h4 with e|⟨e,_⟩
 ·left;rw[<-e];rfl
 ·right;simpa[Value.ownBlock]using e
/-- likewise, in a region that draws its order -/
theorem step_app {P:Program}{w:World}{ops:Array Oper}{o:Oper}{a:Act}{K:Act->World->Prop}{Q:Exit->Act->World->Prop}{E:Prop}(hgd:o.guard=none) (s x:Operand) (t e size bytes:Nat) (z:Value)
 (ho:o.op=.call { callee:=.builtin .append,args:=#[s,x],argTypes:=#[t,t] }) (ht:P.underlying t=some (.slice e)) (hinfo:(P.info? e).map (fun i=>(i.zero,i.size,i.bytes))=some (some z,size,bytes)) (hzs:z.cells.size=size) (hsz:0<size)
 (v:Value) (n:Nat) (xs:List Value) (hs:a.eval s=v) (hown:w.ownsRow 0 e size v n xs)
 (ad:Addr) (m c:Nat) (news:List Value) (hx:a.eval x=.slice (some ad) m c) (hl:news.length=m*size) (hnews:∀ j u,news[j]? = some u->w.cell? (ad.add j)=some u) (h1:∀ u∈news,u.oneCell'=true)
 (h63:n+m<=maxLen) (hbytes:(n+m)*bytes<=140737488355328) (hm:0<m)
 (h:∀ g' cap' w',w'.ownsRow 0 e size (.slice (some ⟨g',0,none⟩) (n+m) cap') (n+m) (xs++news)->Chg (fun k=>v.ownBlock=some k) w w'->(v.ownBlock=some g'\/g'=w.heap.size)->K (a.put o.dst (.slice (some ⟨g',0,none⟩) (n+m) cap')) w'):if Region.wanted o (yielded ops a.tmps)=true then o.wp P a w K Q else E:=by
 obtain⟨i0,hi,iz0,iz1,iz2⟩:=info_parts hinfo;have hw:Region.wanted o (yielded ops a.tmps)=true:=by simp[Region.wanted,hgd]
 rw[if_pos hw];refine wp_append2 w s x t ho e i0 z size bytes ht hi iz0 iz1 iz2 hzs hsz v n xs hs hown ad m c news hx hl hnews h1 h63 hbytes ?_;intro v' w' h2 h3 h4;obtain⟨g',cap',rfl,_,_,_⟩:=row_pos h2 oz;refine h g' cap' w' h2 (chg_grown h3) ?_;rcases h4 with e|⟨e,_⟩
 ·left;rw[<-e];rfl
 ·right;simpa[Value.ownBlock]using e
/-- append of nothing -/
theorem wpList_app0 {P:Program}{w:World}{ops:Array Oper}{rest:List Oper}{o:Oper}{a:Act}{Q:Exit->Act->World->Prop}(hgd:o.guard=none) (s x:Operand) (t e size bytes:Nat) (z:Value)
 (ho:o.op=.call { callee:=.builtin .append,args:=#[s,x],argTypes:=#[t,t] }) (ht:P.underlying t=some (.slice e)) (hinfo:(P.info? e).map (fun i=>(i.zero,i.size,i.bytes))=some (some z,size,bytes))
 (v:Value) (n:Nat) (xs:List Value) (hs:a.eval s=v) (hown:w.ownsRow 0 e size v n xs) (hx:a.eval x=.slice none 0 0)
 (h:wpList P ops Q rest (a.put o.dst v) w):wpList P ops Q (o::rest) a w:=by
 obtain⟨i0,hi,iz0,iz1,iz2⟩:=info_parts hinfo;refine wpList_plain hgd fun K hK=>?_;have hr:=run_append_owned_none (P:=P) w 0 t o.type e i0 size ht hi v n xs hown;unfold Oper.wp execOp;simp only[ho,resolve,invoke,builtin,Sem.run_bind,Sem.run_pure,Result.andThen_ok,List.map_toArray,List.map_cons,List.map_nil,hs,hx,hr];exact hK _ _ h
theorem src_own {w:World}{k:Nat}{cs:List Value}(h:Own w k cs):∀ j u,cs[j]? = some u->w.cell? ((⟨k,0,none⟩:Addr).add j)=some u:=by
 intro j u hu;rw[show(⟨k,0,none⟩:Addr).add j=⟨k,j,none⟩from by unfold Addr.add;split<;>simp_all];exact h.2.1 j u hu
theorem src_at {w:World}(cs:List Value) (b o:Nat) (h:∀ j u,cs[j]? = some u->w.cell? ⟨b,o+j,none⟩=some u):∀ j u,cs[j]? = some u->w.cell? ((⟨b,o,none⟩:Addr).add j)=some u:=by
 intro j u hu;have:=h j u hu;unfold Addr.add;split
 ·rename_i e;subst e;exact this
 ·exact this
/-- an index into an array's value, its answer given -/
theorem wpList_index {P:Program}{w:World}{ops:Array Oper}{rest:List Oper}{o:Oper}{a:Act}{Q:Exit->Act->World->Prop}(hgd:o.guard=none) (x ix:Operand) (T:TypeId) (ho:o.op=.index T x ix) (u:Value)
 (hrun:(Instr.index T (a.eval x) (a.eval ix)).run P w=.ok u w) (h:wpList P ops Q rest (a.put o.dst u) w):wpList P ops Q (o::rest) a w:=by
 refine wpList_plain hgd fun K hK=>?_;unfold Oper.wp execOp;simp only[ho,Sem.run_bind,Sem.run_pure,Result.andThen_ok,hrun];exact hK _ _ h
theorem chq {S:Nat->Prop}{a w:World}(h:Chg S a w:=by repeat(first|with_reducible exact Chg.refl _ _|with_reducible assumption|with_reducible refine Chg.drew ?_|with_reducible refine Chg.drewN ?_ _|with_reducible refine Chg.alloc ?_ _|with_reducible refine Chg.setCell ?_ (by first|with_reducible exact .inl rfl|exact .inl (.inl rfl)|exact .inl (.inr rfl)|exact .inr si) _|(with_reducible refine Chg.trans ?_ (Chg.of (by first|with_reducible assumption|exact hF _))))):Chg S a w:=h
def hullF (out:PSpan) (n:Int):PSpan:=joinP out ⟨n,n⟩
def hullL (l:List Int):PSpan:=l.foldl hullF ⟨l.getD 0 0,l.getD 0 0⟩
def hullP (l:List Int) (all:Bool):PSpan:=if all then hullL l else allP
theorem foldl_take_succ {α β:Type}(f:β->α->β) (d:α) (l:List α) (j:Nat) (hj:j<l.length) (z:β):(l.take (j+1)).foldl f z=f ((l.take j).foldl f z) (l.getD j d):=by
 rw[List.take_add_one,List.getElem?_eq_getElem hj,Option.toList_some,List.foldl_append];simp[List.getD_eq_getElem?_getD,List.getElem?_eq_getElem hj]
theorem shull_any (b o n cap:Nat) (l:List Int) (all:Bool) (w:World) (hb:b<w.heap.size) (hn:n=l.length) (hm:n<=maxLen) (hpos:0<n) (hc:∀ i,i<n->w.cell? ⟨b,o+i,none⟩=some (.int .i64 (l.getD i 0))) :
 Calls Tryz.prog 108 #[.slice (some ⟨b,o,none⟩) n cap,.bool all] w fun e w'=>e=.returned (spanV (hullP l all))/\Below w.heap.size w w':=by
 have HJ:=qd (fun(x y:Int) n w=>sjoin_any ⟨x,y⟩ ⟨n,n⟩ w);have HA:=qd sall_any;subst hn;have HC:=qd hc;clear hc;unfold hullP;unfold spanV at HJ HA ⊢;unfold allP at *;dsimp only at *;cases all
 ·simp only[Bool.false_eq_true,if_false];go_enter Tryz.func108,Tryz.ntmps108;go_wp2_with (first|(go_at_call 88;refine(HA.out _).mono ?_;rintro e w1 ⟨rfl,hb1⟩;have q0:Own w1 w.heap.size [.int .i64 0,.int .i64 0]:=(Own.new w _ _).below hb1;have q1:=own2 q0;have q2:=set2 q0;have hz1:=hb1.size)|fail)
  refine span_end (by rfl) (by rfl) ownbq si ?_;exact⟨rfl,bel⟩
 ·simp only[if_true];have c0:=HC.out 0 hpos;have hm':l.length<=9223372036854775807:=hm;rw[Nat.add_zero]at c0;have hn0:(0:Int)<l.length:=oz
  unfold hullL;generalize l.getD 0 0=x0 at *;go_enter Tryz.func108,Tryz.ntmps108;go_wp2
  go_region
  generalize hW:World.drew _=W0;have hb0:Below w.heap.size w W0:=by rw[<-hW];exact bel
  have o0:Own W0 w.heap.size [.int .i64 0,.int .i64 0]:=by rw[<-hW];exact ownbq
  have o1:Own W0 (w.heap.size+1) [.int .i64 (x0),.int .i64 (x0)]:=by rw[<-hW];exact ownbq
  clear hW c0;go_wp2;go_loopw [20] (fun i wr=>∃ j:Nat,j<=l.length/\i=.int .i64 j/\Below w.heap.size w wr/\Hid (Own wr w.heap.size [.int .i64 0,.int .i64 0])/\Hid (Own wr (w.heap.size+1) [.int .i64 ((l.take j).foldl hullF ⟨x0,x0⟩).lo,.int .i64 ((l.take j).foldl hullF ⟨x0,x0⟩).hi])) (fun i _=>l.length-(intOf i).toNat)
  case atStart=>exact⟨0,Nat.zero_le _,rfl,hb0,qd o0,qd o1⟩
  case round =>
   clear o0 o1 hb0;obtain⟨j,hj,rfl,hbr,h0,h1⟩:=hrel;have q0:=own2 h0.out;have q1:=own2 h1.out;have q2:=set2 h0.out;have q3:=set2 h1.out;by_cases hlt:j<l.length
   ·have d2:(j:Int)<(l.length:Int):=oz
    have hwk:IntKind.i64.wrap ((j:Int)+1)=(j:Int)+1:=IntWalk.i64_in _ oz;have c0:=((bcell hbr).1 b (o+j) hb).trans (HC.out j hlt);have hS:=qd (foldl_take_succ hullF 0 l j oz ⟨x0,x0⟩);generalize List.foldl hullF ⟨x0,x0⟩ (l.take j)=P at *;obtain⟨plo,phi⟩:=P;generalize l.getD j 0=x at *;dsimp only at *;go_wp2_with (first|(go_at_call 19;refine(HJ.out _ _ _ _).mono ?_;rintro e w1 ⟨rfl,hb1⟩;have h2:=h0.out.below hb1;have h3:=h1.out.below hb1;have r2:=own2 h2;have r3:=own2 h3;have s3:=set2 h3;have hz1:=hb1.size)|fail)
    go_roundw
    case rel=>exact⟨j+1,oz,si,bel,qd ownbq,qd (by rw[hS.out];unfold hullF;exact ownbq)⟩
    case measure=>go_light;exact ml
   ·have hjk:j=l.length:=oz
    subst hjk;have d2:¬(l.length:Int)<(l.length:Int):=oz
    have hS:l.foldl hullF ⟨x0,x0⟩=(l.take l.length).foldl hullF ⟨x0,x0⟩:=by rw[List.take_length]
    generalize List.foldl hullF ⟨x0,x0⟩ (l.take l.length)=P at *;obtain⟨plo,phi⟩:=P;dsimp only at *;have HS:=qd hS;clear hS;have g0:=h0.out;go_wp2;refine span_end (by rfl) (by rfl) ownbq si ?_;exact⟨by rw[HS.out],bel⟩
def divF (a b:PSpan) (d:Int):List Int:=if d≠0/\hasP b d=true then[IntKind.i64.wrap (a.lo.tdiv d),IntKind.i64.wrap (a.hi.tdiv d)]else[]
def divL (a b:PSpan):List Int:=[b.lo,b.hi,-1,1].flatMap (divF a b)
def divTo (a b:PSpan) (j:Nat):List Int:=([b.lo,b.hi,-1,1].take j).flatMap (divF a b)
def dividedP (a b:PSpan):PSpan:=if a.lo = -9223372036854775808/\hasP b (-1)=true then allP else hullP (divL a b) true
theorem divF_len (a b:PSpan) (d:Int):(divF a b d).length<=2:=by unfold divF;split<;>simp
theorem divTo_len (a b:PSpan) (j:Nat):(divTo a b j).length<=8:=by
 have h:=divF_len a b;have h0:=h b.lo;have h1:=h b.hi;have h2:=h (-1);have h3:=h 1;unfold divTo
 match j with
 | 0=>simp
 | 1=>simp;omega
 | 2=>simp;omega
 | 3=>simp;omega
 | j+4=>simp;omega
theorem divTo_at (a b:PSpan) (j:Nat) (hj:j<4):divTo a b (j+1)=divTo a b j++divF a b ([b.lo,b.hi,-1,1].getD j 0):=by
 rcases(show j=0\/j=1\/j=2\/j=3 by omega)with rfl|rfl|rfl|rfl<;>simp[divTo]
theorem divL_pos (a b:PSpan) (h:b.lo<=b.hi) (h2:¬(b.lo=0/\b.hi=0)):0<(divL a b).length:=by
 unfold divL;simp only[List.flatMap_cons,List.length_append];by_cases h3:b.lo=0
 ·have:(divF a b b.hi).length=2:=by unfold divF hasP;rw[if_pos ⟨by omega,by simp;omega⟩];rfl
  omega
 ·have:(divF a b b.lo).length=2:=by unfold divF hasP;rw[if_pos ⟨h3,by simp;omega⟩];rfl
  omega
theorem shas_is (a:PSpan) (n:Int) (v:Bool) (w:World) (h:hasP a n=v):Calls Tryz.prog 114 #[.agg #[.int .i64 a.lo,.int .i64 a.hi],.int .i64 n] w fun e w'=>e=.returned (.bool v)/\Below w.heap.size w w':=by
 subst h;exact shas_any a n w
theorem sdivided_any (a b:PSpan) (w:World) (h:b.lo<=b.hi) (h2:¬(b.lo=0/\b.hi=0)):Calls Tryz.prog 112 #[spanV a,spanV b] w fun e w'=>e=.returned (spanV (dividedP a b))/\Below w.heap.size w w':=by
 have HH:=qd (fun(n:Int) v w=>shas_is b n v w);have HA:=qd sall_any;have HP:=qd (divL_pos a b h h2);have HL:=qd (divTo_len a b);have HT:=qd (divTo_at a b);have HU:=qd (fun w g o n cap=>shull_any g o n cap (divL a b) true w);have HD:dividedP a b=if a.lo = -9223372036854775808/\hasP b (-1)=true then allP else hullP (divL a b) true:=rfl
 generalize dividedP a b=R at *;have h1:hasP b (-1)=true\/hasP b (-1)=false:=by cases hasP b (-1)<;>simp
 obtain⟨lo,hi⟩:=a;obtain⟨lo2,hi2⟩:=b;unfold spanV at HA HU ⊢;dsimp only at *;by_cases hlo:lo = -9223372036854775808
 ·subst hlo;rcases h1 with h1|h1
  ·rw[if_pos ⟨rfl,h1⟩]at HD;subst HD;unfold allP at *;dsimp only at *;go_enter Tryz.func112,Tryz.ntmps112;go_wp2_with (first|(go_at_call 114;refine(HH.out _ _ _ h1).mono ?_;rintro e w1 ⟨rfl,hb1⟩;have hc1:=bcell hb1;have hz1:=hb1.size)|fail)
   refine(HA.out _).mono ?_;rintro e w2 ⟨rfl,hb2⟩;have q0:Own w2 (w.heap.size+1+1) [.int .i64 0,.int .i64 0]:=(show Own w1 (w.heap.size+1+1) [.int .i64 0,.int .i64 0] by exact ownbq).below hb2;have q1:=own2 q0;have q2:=set2 q0;have hz2:=hb2.size;go_wp2;refine span_end (by rfl) (by rfl) ownbq si ?_;exact⟨rfl,bel⟩
  ·rw[if_neg (by simp[h1])]at HD;subst HD;go_enter Tryz.func112,Tryz.ntmps112;go_wp2_with (first|(go_at_call 114;refine(HH.out _ _ _ h1).mono ?_;rintro e w1 ⟨rfl,hb1⟩;have hc1:=bcell hb1;have hz1:=hb1.size)|fail)
   obtain⟨hb0,o0,o1,o2⟩:Below w.heap.size w w1/\Own w1 w.heap.size [.int .i64 (-9223372036854775808),.int .i64 hi]/\Own w1 (w.heap.size+1) [.int .i64 lo2,.int .i64 hi2]/\Own w1 (w.heap.size+1+1) [.int .i64 0,.int .i64 0]:=⟨bel,ownbq,ownbq,ownbq⟩
   clear hc1 hz1 hb1;go_loopw [5,21] (fun v i wr=>∃ j:Nat,j<=4/\i=.int .i64 j/\Below w.heap.size w wr/\Hid (Own wr w.heap.size [.int .i64 (-9223372036854775808),.int .i64 hi])/\Hid (Own wr (w.heap.size+1) [.int .i64 lo2,.int .i64 hi2])/\Hid (Own wr (w.heap.size+1+1) [.int .i64 0,.int .i64 0])/\(∀ k,v.ownBlock=some k->w.heap.size+3<=k)/\Hid (wr.ownsRow 0 2 1 v (divTo ⟨(-9223372036854775808),hi⟩ ⟨lo2,hi2⟩ j).length (Nums (divTo ⟨(-9223372036854775808),hi⟩ ⟨lo2,hi2⟩ j)))) (fun v i _=>4-(intOf i).toNat)
   case atStart=>exact⟨0,Nat.zero_le _,rfl,hb0,qd o0,qd o1,qd o2,by simp[Value.ownBlock],qd (World.ownsRow_nil _ _ _ _)⟩
   case round =>
    clear o0 o1 o2 hb0;obtain⟨j,hj,rfl,hbr,h0,h3,h4,hvb,hv⟩:=hrel;have q0:=own2 h0.out;have q1:=own2 h3.out;by_cases hlt:j<4
    ·have d2:(j:Int)<4:=oz
     have hwk:IntKind.i64.wrap ((j:Int)+1)=(j:Int)+1:=IntWalk.i64_in _ oz;have hT:=HT.out j hlt;obtain⟨d,hd⟩:∃ d,d=[lo2,hi2,-1,1].getD j 0:=⟨_,rfl⟩
     have hix:∀ w,(Instr.index 165 (.agg #[.int .i64 lo2,.int .i64 hi2,.int .i64 (-1),.int .i64 1]) (.int .i64 j)).run Tryz.prog w=.ok (.int .i64 d) w:=by
      subst hd;rcases(show j=0\/j=1\/j=2\/j=3 by omega)with rfl|rfl|rfl|rfl<;>exact fun w=>rfl
     rw[<-hd]at hT;clear hd;have HTj:=qd hT;clear hT;by_cases hd0:d=0
     ·have hF:divF ⟨(-9223372036854775808),hi⟩ ⟨lo2,hi2⟩ d=[]:=by unfold divF;rw[if_neg (by simp[hd0])]
      have HF:=qd hF;clear hF;go_wp2_with (refine wpList_index rfl (.tmp 20) (.tmp 21) 165 rfl _ (hix _) ?_)
      go_roundw
      case rel=>exact⟨j+1,oz,si,hbr,h0,h3,h4,hvb,qd (by rw[HTj.out,HF.out,List.append_nil];exact hv.out)⟩
      case measure=>go_light;exact ml
     ·rcases(show hasP ⟨lo2,hi2⟩ d=true\/hasP ⟨lo2,hi2⟩ d=false by cases hasP ⟨lo2,hi2⟩ d<;>simp)with hs|hs
      ·have hF:divF ⟨(-9223372036854775808),hi⟩ ⟨lo2,hi2⟩ d=[IntKind.i64.wrap (-Int.tdiv 9223372036854775808 d),IntKind.i64.wrap (Int.tdiv hi d)]:=by unfold divF;rw[if_pos ⟨hd0,hs⟩,<-Int.neg_tdiv]
       have HF:=qd hF;clear hF;go_wp2_with (first|(refine wpList_index rfl (.tmp 20) (.tmp 21) 165 rfl _ (hix _) ?_)|(go_at_call 114;refine(HH.out _ _ _ hs).mono ?_;rintro e w3 ⟨rfl,hb3⟩;have hc3:=bcell hb3;have hz3:=hb3.size)|fail)
       have hln:=HL.out j;have hrow:=row_below hb3 hv.out
       go_region_law (refine step_app rfl (.tmp 31) (.tmp 40) 22 2 1 8 (.int .i64 0) rfl Tryz.underlying22 Tryz.info64 rfl dc _ _ _ rfl (row_below bel hrow) ⟨w3.heap.size,0,none⟩ 2 2 (Nums [IntKind.i64.wrap (-Int.tdiv 9223372036854775808 d),IntKind.i64.wrap (Int.tdiv hi d)]) rfl rfl (src_own (Own.drew (Own.new' _ _ _ _ si))) (Nums_one _) (by unfold maxLen;omega) oz dc ?_;intro g2 cap2 w4 hb4 hc4 hg4)
       all_goals(
        have hc5:Chg (fun k=>u5.ownBlock=some k) wr w4:=(((Chg.of hb3).alloc _).drew).trans hc4;have h45:=h4.out.1;go_wp2;refine⟨⟨j+1,oz,si,hbr.trans (hc5.below _ hbr.size (fun k hk e=>by have:=hvb k e;omega)),qd (hc5.own h0.out (fun e=>by have:=hvb _ e;omega)),qd (hc5.own h3.out (fun e=>by have:=hvb _ e;omega)),qd (hc5.own h4.out (fun e=>by have:=hvb _ e;omega)),?_,qd ?_⟩,?_⟩
        ·intro k hk;have hk':g2=k:=by simpa[Value.ownBlock]using hk
         subst hk';rcases hg4 with h|h
         ·exact hvb _ h
         ·have:=hb3.size;simp at h;omega
        ·rw[HTj.out,HF.out,Nums_append,List.length_append];exact hb4
        ·go_light;exact ml)
      ·have hF:divF ⟨(-9223372036854775808),hi⟩ ⟨lo2,hi2⟩ d=[]:=by unfold divF;rw[if_neg (by simp[hs])]
       have HF:=qd hF;clear hF;go_wp2_with (first|(refine wpList_index rfl (.tmp 20) (.tmp 21) 165 rfl _ (hix _) ?_)|(go_at_call 114;refine(HH.out _ _ _ hs).mono ?_;rintro e w3 ⟨rfl,hb3⟩;have hc3:=bcell hb3;have hz3:=hb3.size)|fail)
       go_roundw
       case rel=>exact⟨j+1,oz,si,bel,qd (h0.out.below hb3),qd (h3.out.below hb3),qd (h4.out.below hb3),hvb,qd (by rw[HTj.out,HF.out,List.append_nil];exact row_below hb3 hv.out)⟩
       case measure=>go_light;exact ml
    ·have hjk:j=4:=oz
     subst hjk;have hv4:wr.ownsRow 0 2 1 u5 (divL ⟨(-9223372036854775808),hi⟩ ⟨lo2,hi2⟩).length (Nums (divL ⟨(-9223372036854775808),hi⟩ ⟨lo2,hi2⟩)):=hv.out;have hl8:(divL ⟨(-9223372036854775808),hi⟩ ⟨lo2,hi2⟩).length<=8:=HL.out 4;have hp:=HP.out;obtain⟨g,cap,rfl,-,-,hg⟩:=row_pos hv4 hp;have HB:=qd (HU.out wr g 0 _ cap hg rfl (by unfold maxLen;omega) hp (fun i hi'=>by
      have hx:=row_cell hv4 (j:=i) (u:=.int .i64 ((divL ⟨(-9223372036854775808),hi⟩ ⟨lo2,hi2⟩).getD i 0)) (Nums_some (by rw[List.getD_eq_getElem?_getD,List.getElem?_eq_getElem hi'];rfl));rw[Nat.zero_add];exact hx))
     have hgb:=hvb g rfl;have o4:=h4.out;clear hv4 hv hvb;have HB2:=HB.out;clear HB;generalize hLL:divL ⟨(-9223372036854775808),hi⟩ ⟨lo2,hi2⟩=L at *;have HLL:=qd hLL;clear hLL;go_wp2_with (first|(go_at_call 108;refine HB2.mono ?_;rintro e w3 ⟨rfl,hb3⟩;have o5:=o4.below hb3;have q5:=own2 o5;have q6:=set2 o5;have hz3:=hb3.size)|fail)
     refine span_end (by rfl) (by rfl) ownbq si ?_;exact⟨by rw[HLL.out],bel⟩
 ·rw[if_neg (by simp[hlo])]at HD;subst HD;go_enter Tryz.func112,Tryz.ntmps112;go_wp2;generalize hW:World.alloc _ _=W0;obtain⟨hb0,o0,o1,o2⟩:Below w.heap.size w W0/\Own W0 w.heap.size [.int .i64 lo,.int .i64 hi]/\Own W0 (w.heap.size+1) [.int .i64 lo2,.int .i64 hi2]/\Own W0 (w.heap.size+1+1) [.int .i64 0,.int .i64 0]:=by rw[<-hW];exact⟨bel,ownbq,ownbq,ownbq⟩
  clear hW;go_loopw [5,21] (fun v i wr=>∃ j:Nat,j<=4/\i=.int .i64 j/\Below w.heap.size w wr/\Hid (Own wr w.heap.size [.int .i64 lo,.int .i64 hi])/\Hid (Own wr (w.heap.size+1) [.int .i64 lo2,.int .i64 hi2])/\Hid (Own wr (w.heap.size+1+1) [.int .i64 0,.int .i64 0])/\(∀ k,v.ownBlock=some k->w.heap.size+3<=k)/\Hid (wr.ownsRow 0 2 1 v (divTo ⟨lo,hi⟩ ⟨lo2,hi2⟩ j).length (Nums (divTo ⟨lo,hi⟩ ⟨lo2,hi2⟩ j)))) (fun v i _=>4-(intOf i).toNat)
  case atStart=>exact⟨0,Nat.zero_le _,rfl,hb0,qd o0,qd o1,qd o2,by simp[Value.ownBlock],qd (World.ownsRow_nil _ _ _ _)⟩
  case round =>
   clear o0 o1 o2 hb0;obtain⟨j,hj,rfl,hbr,h0,h3,h4,hvb,hv⟩:=hrel;have q0:=own2 h0.out;have q1:=own2 h3.out;by_cases hlt:j<4
   ·have d2:(j:Int)<4:=oz
    have hwk:IntKind.i64.wrap ((j:Int)+1)=(j:Int)+1:=IntWalk.i64_in _ oz;have hT:=HT.out j hlt;obtain⟨d,hd⟩:∃ d,d=[lo2,hi2,-1,1].getD j 0:=⟨_,rfl⟩
    have hix:∀ w,(Instr.index 165 (.agg #[.int .i64 lo2,.int .i64 hi2,.int .i64 (-1),.int .i64 1]) (.int .i64 j)).run Tryz.prog w=.ok (.int .i64 d) w:=by
     subst hd;rcases(show j=0\/j=1\/j=2\/j=3 by omega)with rfl|rfl|rfl|rfl<;>exact fun w=>rfl
    rw[<-hd]at hT;clear hd;have HTj:=qd hT;clear hT;by_cases hd0:d=0
    ·have hF:divF ⟨lo,hi⟩ ⟨lo2,hi2⟩ d=[]:=by unfold divF;rw[if_neg (by simp[hd0])]
     have HF:=qd hF;clear hF;go_wp2_with (refine wpList_index rfl (.tmp 20) (.tmp 21) 165 rfl _ (hix _) ?_)
     go_roundw
     case rel=>exact⟨j+1,oz,si,hbr,h0,h3,h4,hvb,qd (by rw[HTj.out,HF.out,List.append_nil];exact hv.out)⟩
     case measure=>go_light;exact ml
    ·rcases(show hasP ⟨lo2,hi2⟩ d=true\/hasP ⟨lo2,hi2⟩ d=false by cases hasP ⟨lo2,hi2⟩ d<;>simp)with hs|hs
     ·have hF:divF ⟨lo,hi⟩ ⟨lo2,hi2⟩ d=[IntKind.i64.wrap (Int.tdiv lo d),IntKind.i64.wrap (Int.tdiv hi d)]:=by unfold divF;rw[if_pos ⟨hd0,hs⟩]
      have HF:=qd hF;clear hF;go_wp2_with (first|(refine wpList_index rfl (.tmp 20) (.tmp 21) 165 rfl _ (hix _) ?_)|(go_at_call 114;refine(HH.out _ _ _ hs).mono ?_;rintro e w3 ⟨rfl,hb3⟩;have hc3:=bcell hb3;have hz3:=hb3.size)|fail)
      have hln:=HL.out j;have hrow:=row_below hb3 hv.out
      go_region_law (refine step_app rfl (.tmp 31) (.tmp 40) 22 2 1 8 (.int .i64 0) rfl Tryz.underlying22 Tryz.info64 rfl dc _ _ _ rfl (row_below bel hrow) ⟨w3.heap.size,0,none⟩ 2 2 (Nums [IntKind.i64.wrap (Int.tdiv lo d),IntKind.i64.wrap (Int.tdiv hi d)]) rfl rfl (src_own (Own.drew (Own.new' _ _ _ _ si))) (Nums_one _) (by unfold maxLen;omega) oz dc ?_;intro g2 cap2 w4 hb4 hc4 hg4)
      all_goals(
       have hc5:Chg (fun k=>u5.ownBlock=some k) wr w4:=(((Chg.of hb3).alloc _).drew).trans hc4;have h45:=h4.out.1;go_wp2;refine⟨⟨j+1,oz,si,hbr.trans (hc5.below _ hbr.size (fun k hk e=>by have:=hvb k e;omega)),qd (hc5.own h0.out (fun e=>by have:=hvb _ e;omega)),qd (hc5.own h3.out (fun e=>by have:=hvb _ e;omega)),qd (hc5.own h4.out (fun e=>by have:=hvb _ e;omega)),?_,qd ?_⟩,?_⟩
       ·intro k hk;have hk':g2=k:=by simpa[Value.ownBlock]using hk
        subst hk';rcases hg4 with h|h
        ·exact hvb _ h
        ·have:=hb3.size;simp at h;omega
       ·rw[HTj.out,HF.out,Nums_append,List.length_append];exact hb4
       ·go_light;exact ml)
     ·have hF:divF ⟨lo,hi⟩ ⟨lo2,hi2⟩ d=[]:=by unfold divF;rw[if_neg (by simp[hs])]
      have HF:=qd hF;clear hF;go_wp2_with (first|(refine wpList_index rfl (.tmp 20) (.tmp 21) 165 rfl _ (hix _) ?_)|(go_at_call 114;refine(HH.out _ _ _ hs).mono ?_;rintro e w3 ⟨rfl,hb3⟩;have hc3:=bcell hb3;have hz3:=hb3.size)|fail)
      go_roundw
      case rel=>exact⟨j+1,oz,si,bel,qd (h0.out.below hb3),qd (h3.out.below hb3),qd (h4.out.below hb3),hvb,qd (by rw[HTj.out,HF.out,List.append_nil];exact row_below hb3 hv.out)⟩
      case measure=>go_light;exact ml
   ·have hjk:j=4:=oz
    subst hjk;have hv4:wr.ownsRow 0 2 1 u5 (divL ⟨lo,hi⟩ ⟨lo2,hi2⟩).length (Nums (divL ⟨lo,hi⟩ ⟨lo2,hi2⟩)):=hv.out;have hl8:(divL ⟨lo,hi⟩ ⟨lo2,hi2⟩).length<=8:=HL.out 4;have hp:=HP.out;obtain⟨g,cap,rfl,-,-,hg⟩:=row_pos hv4 hp;have HB:=qd (HU.out wr g 0 _ cap hg rfl (by unfold maxLen;omega) hp (fun i hi'=>by
     have hx:=row_cell hv4 (j:=i) (u:=.int .i64 ((divL ⟨lo,hi⟩ ⟨lo2,hi2⟩).getD i 0)) (Nums_some (by rw[List.getD_eq_getElem?_getD,List.getElem?_eq_getElem hi'];rfl));rw[Nat.zero_add];exact hx))
    have hgb:=hvb g rfl;have o4:=h4.out;clear hv4 hv hvb;have HB2:=HB.out;clear HB;generalize hLL:divL ⟨lo,hi⟩ ⟨lo2,hi2⟩=L at *;have HLL:=qd hLL;clear hLL;go_wp2_with (first|(go_at_call 108;refine HB2.mono ?_;rintro e w3 ⟨rfl,hb3⟩;have o5:=o4.below hb3;have q5:=own2 o5;have q6:=set2 o5;have hz3:=hb3.size)|fail)
    refine span_end (by rfl) (by rfl) ownbq si ?_;exact⟨by rw[HLL.out],bel⟩
def zeroP:PSpan:=⟨0,0⟩
def eqP (a b:PSpan):Bool:=decide (a.lo=b.lo)&&decide (a.hi=b.hi)
def pointB (a b:PSpan):Bool:=decide (a.lo=a.hi)&&decide (b.lo=b.hi)
def doAdd (a b:PSpan):PSpan:=if pointB a b then⟨wrap64 (a.lo+b.lo),wrap64 (a.lo+b.lo)⟩else hullP [(exactP a.lo b.lo).1,(exactP a.hi b.hi).1] ((exactP a.lo b.lo).2&&(exactP a.hi b.hi).2)
def doSub (a b:PSpan):PSpan:=if pointB a b then⟨wrap64 (a.lo-b.lo),wrap64 (a.lo-b.lo)⟩else hullP [(lessP a.lo b.hi).1,(lessP a.hi b.lo).1] ((lessP a.lo b.hi).2&&(lessP a.hi b.lo).2)
def pairs4 (a b:PSpan):List (Int×Int):=[(a.lo,b.lo),(a.lo,b.hi),(a.hi,b.lo),(a.hi,b.hi)]
def doMul (a b:PSpan):PSpan:=if pointB a b then⟨wrap64 (a.lo*b.lo),wrap64 (a.lo*b.lo)⟩else hullP ((pairs4 a b).map fun p=>(timesP p.1 p.2).1) ((pairs4 a b).all fun p=>(timesP p.1 p.2).2)
/-- where the value of an operation is -/
def spanDo (op:Int) (a b:PSpan):PSpan×Bool :=
 if op=3 then(doAdd a b,true)else if op=4 then(doSub a b,true)else if op=5 then(doMul a b,true)else
 if op=6 then(if eqP b zeroP then(zeroP,false)else(dividedP a b,true))else if op=7 then(if eqP b zeroP then(zeroP,false)else(leftP a b,true))else
 if op=8 then(truthP (decide (a.hi<b.lo)) (decide (b.hi<=a.lo)),true)else if op=9 then(truthP (eqP a b&&decide (a.lo=a.hi)) (!(meetQ a b).2),true)else
 if op=10 then(truthP (eqP a zeroP) (!hasP a 0),true)else(zeroP,false)
theorem none_no (a:PSpan) (w:World) (h:a.lo<=a.hi):Calls Tryz.prog 55 #[.agg #[.int .i64 a.lo,.int .i64 a.hi]] w fun e w'=>e=.returned (.bool false)/\Below w.heap.size w w':=by
 have:=snone_any a w;rw[show emptyB a=false by unfold emptyB;simp;omega]at this;exact this
theorem hull2 {w:World}{k:Nat}{x y:Int}{all:Bool}(h:Own w k [.int .i64 x,.int .i64 y]):Calls Tryz.prog 108 #[.slice (some ⟨k,0,none⟩) 2 2,.bool all] w fun e w'=>e=.returned (.agg #[.int .i64 (hullP [x,y] all).lo,.int .i64 (hullP [x,y] all).hi])/\Below w.heap.size w w':=by
 refine shull_any k 0 2 2 [x,y] all w h.1 rfl dc dc fun i hi=>?_;rw[Nat.zero_add];rcases(show i=0\/i=1 by omega)with rfl|rfl
 ·exact h.2.1 0 _ rfl
 ·exact h.2.1 1 _ rfl
theorem doAdd_pt (a b:PSpan) (h:pointB a b=true):doAdd a b=⟨wrap64 (a.lo+b.lo),wrap64 (a.lo+b.lo)⟩:=by unfold doAdd;rw[if_pos h]
theorem doAdd_else (a b:PSpan) (h:pointB a b=false):doAdd a b=hullP [(exactP a.lo b.lo).1,(exactP a.hi b.hi).1] ((exactP a.lo b.lo).2&&(exactP a.hi b.hi).2):=by unfold doAdd;rw[if_neg (by simp[h])]
theorem sdo_add (a b:PSpan) (w:World) (ha:a.lo<=a.hi) (hb:b.lo<=b.hi):Calls Tryz.prog 85 #[.int .i64 3,spanV a,spanV b] w fun e w'=>e=.returned (.tuple #[spanV (doAdd a b),.bool true])/\Below w.heap.size w w':=by
 have HA:=qd (fun w=>none_no a w ha);have HB:=qd (fun w=>none_no b w hb);have HX:=qd (fun w=>sexact_any a.lo b.lo w);have HY:=qd (fun w=>sexact_any a.hi b.hi w);rcases(show pointB a b=true\/pointB a b=false by cases pointB a b<;>simp)with hp|hp
 ·rw[doAdd_pt a b hp];unfold pointB at hp;simp only[Bool.and_eq_true,decide_eq_true_eq]at hp;unfold spanV at *;obtain⟨lo,hi⟩:=a;obtain⟨lo2,hi2⟩:=b;dsimp only at *;obtain⟨rfl,rfl⟩:=hp;go_enter Tryz.func85,Tryz.ntmps85;go_wp2_with (first|(go_at_call 55;refine(HA.out _).mono ?_;rintro e w1 ⟨rfl,hb1⟩;clear HA;have o1:Own w1 w.heap.size [.int .i64 lo,.int .i64 lo]:=ownbq;have o2:Own w1 (w.heap.size+1) [.int .i64 lo2,.int .i64 lo2]:=ownbq;have o3:Own w1 (w.heap.size+1+1) [.int .i64 0,.int .i64 0]:=ownbq;have q1:=own2 o1;have q2:=own2 o2;have hbz:Below w.heap.size w w1:=bel)|(go_at_call 55;refine(HB.out _).mono ?_;rintro e w2 ⟨rfl,hb2⟩;clear HB;have p1:=o1.below hb2;have p2:=o2.below hb2;have p3:=o3.below hb2;have r1:=own2 p1;have r2:=own2 p2;have r3:=own2 p3;have s3:=set2 p3;have hby:Below w.heap.size w w2:=bel;clear hb2 hb1 hbz o1 o2 o3 q1 q2)|fail)
  refine flag_end (by rfl) (by rfl) (by rfl) ownbq si ?_;exact⟨rfl,bel⟩
 ·rw[doAdd_else a b hp];unfold pointB at hp;simp only[Bool.and_eq_false_iff,decide_eq_false_iff_not]at hp;generalize exactP a.lo b.lo=E1 at *;generalize exactP a.hi b.hi=E2 at *;obtain⟨x1,b1⟩:=E1;obtain⟨x2,b2⟩:=E2;unfold spanV at *;obtain⟨lo,hi⟩:=a;obtain⟨lo2,hi2⟩:=b;dsimp only at *;by_cases hl:lo=hi
  ·subst hl;have hl2:¬lo2=hi2:=oz
   cases b1
   all_goals go_enter Tryz.func85,Tryz.ntmps85
   all_goals go_wp2_with (first|(go_at_call 55;refine(HA.out _).mono ?_;rintro e w1 ⟨rfl,hb1⟩;clear HA;have o1:Own w1 w.heap.size [.int .i64 lo,.int .i64 lo]:=ownbq;have o2:Own w1 (w.heap.size+1) [.int .i64 lo2,.int .i64 hi2]:=ownbq;have o3:Own w1 (w.heap.size+1+1) [.int .i64 0,.int .i64 0]:=ownbq;have q1:=own2 o1;have q2:=own2 o2;have hbz:Below w.heap.size w w1:=bel)|(go_at_call 55;refine(HB.out _).mono ?_;rintro e w2 ⟨rfl,hb2⟩;clear HB;have p1:=o1.below hb2;have p2:=o2.below hb2;have p3:=o3.below hb2;have r1:=own2 p1;have r2:=own2 p2;have r3:=own2 p3;have s3:=set2 p3;have hby:Below w.heap.size w w2:=bel;clear hb2 hb1 hbz o1 o2 o3 q1 q2)|fail)
   all_goals(refine(HX.out _).mono ?_;rintro e w9 ⟨rfl,rfl⟩)
   all_goals go_wp2_with (first|(go_at_call 107;refine(HY.out _).mono ?_;rintro e w8 ⟨rfl,rfl⟩)|fail)
   all_goals(refine(hull2 (Own.new' _ [.int .i64 x1,.int .i64 x2] _ _ rfl)).mono ?_;rintro e w5 ⟨rfl,hb5⟩;have t3:=(p3.alloc _).below hb5;have u3:=own2 t3;have v3:=set2 t3;have hz5:=hb5.size)
   all_goals go_wp2
   all_goals refine flag_end (by rfl) (by rfl) (by rfl) ownbq si ?_
   all_goals exact⟨rfl,bel⟩
  ·cases b1
   all_goals go_enter Tryz.func85,Tryz.ntmps85
   all_goals go_wp2_with (first|(go_at_call 55;refine(HA.out _).mono ?_;rintro e w1 ⟨rfl,hb1⟩;clear HA;have o1:Own w1 w.heap.size [.int .i64 lo,.int .i64 hi]:=ownbq;have o2:Own w1 (w.heap.size+1) [.int .i64 lo2,.int .i64 hi2]:=ownbq;have o3:Own w1 (w.heap.size+1+1) [.int .i64 0,.int .i64 0]:=ownbq;have q1:=own2 o1;have q2:=own2 o2;have hbz:Below w.heap.size w w1:=bel)|(go_at_call 55;refine(HB.out _).mono ?_;rintro e w2 ⟨rfl,hb2⟩;clear HB;have p1:=o1.below hb2;have p2:=o2.below hb2;have p3:=o3.below hb2;have r1:=own2 p1;have r2:=own2 p2;have r3:=own2 p3;have s3:=set2 p3;have hby:Below w.heap.size w w2:=bel;clear hb2 hb1 hbz o1 o2 o3 q1 q2)|fail)
   all_goals(refine(HX.out _).mono ?_;rintro e w9 ⟨rfl,rfl⟩)
   all_goals go_wp2_with (first|(go_at_call 107;refine(HY.out _).mono ?_;rintro e w8 ⟨rfl,rfl⟩)|fail)
   all_goals(refine(hull2 (Own.new' _ [.int .i64 x1,.int .i64 x2] _ _ rfl)).mono ?_;rintro e w5 ⟨rfl,hb5⟩;have t3:=(p3.alloc _).below hb5;have u3:=own2 t3;have v3:=set2 t3;have hz5:=hb5.size)
   all_goals go_wp2
   all_goals refine flag_end (by rfl) (by rfl) (by rfl) ownbq si ?_
   all_goals exact⟨rfl,bel⟩
theorem doSub_pt (a b:PSpan) (h:pointB a b=true):doSub a b=⟨wrap64 (a.lo-b.lo),wrap64 (a.lo-b.lo)⟩:=by unfold doSub;rw[if_pos h]
theorem doSub_else (a b:PSpan) (h:pointB a b=false):doSub a b=hullP [(lessP a.lo b.hi).1,(lessP a.hi b.lo).1] ((lessP a.lo b.hi).2&&(lessP a.hi b.lo).2):=by unfold doSub;rw[if_neg (by simp[h])]
theorem sdo_sub (a b:PSpan) (w:World) (ha:a.lo<=a.hi) (hb:b.lo<=b.hi):Calls Tryz.prog 85 #[.int .i64 4,spanV a,spanV b] w fun e w'=>e=.returned (.tuple #[spanV (doSub a b),.bool true])/\Below w.heap.size w w':=by
 have HA:=qd (fun w=>none_no a w ha);have HB:=qd (fun w=>none_no b w hb);have HX:=qd (fun w=>sless_any a.lo b.hi w);have HY:=qd (fun w=>sless_any a.hi b.lo w);rcases(show pointB a b=true\/pointB a b=false by cases pointB a b<;>simp)with hp|hp
 ·rw[doSub_pt a b hp];unfold pointB at hp;simp only[Bool.and_eq_true,decide_eq_true_eq]at hp;unfold spanV at *;obtain⟨lo,hi⟩:=a;obtain⟨lo2,hi2⟩:=b;dsimp only at *;obtain⟨rfl,rfl⟩:=hp;go_enter Tryz.func85,Tryz.ntmps85;go_wp2_with (first|(go_at_call 55;refine(HA.out _).mono ?_;rintro e w1 ⟨rfl,hb1⟩;clear HA;have o1:Own w1 w.heap.size [.int .i64 lo,.int .i64 lo]:=ownbq;have o2:Own w1 (w.heap.size+1) [.int .i64 lo2,.int .i64 lo2]:=ownbq;have o3:Own w1 (w.heap.size+1+1) [.int .i64 0,.int .i64 0]:=ownbq;have q1:=own2 o1;have q2:=own2 o2;have hbz:Below w.heap.size w w1:=bel)|(go_at_call 55;refine(HB.out _).mono ?_;rintro e w2 ⟨rfl,hb2⟩;clear HB;have p1:=o1.below hb2;have p2:=o2.below hb2;have p3:=o3.below hb2;have r1:=own2 p1;have r2:=own2 p2;have r3:=own2 p3;have s3:=set2 p3;have hby:Below w.heap.size w w2:=bel;clear hb2 hb1 hbz o1 o2 o3 q1 q2)|fail)
  refine flag_end (by rfl) (by rfl) (by rfl) ownbq si ?_;exact⟨rfl,bel⟩
 ·rw[doSub_else a b hp];unfold pointB at hp;simp only[Bool.and_eq_false_iff,decide_eq_false_iff_not]at hp;generalize lessP a.lo b.hi=E1 at *;generalize lessP a.hi b.lo=E2 at *;obtain⟨x1,b1⟩:=E1;obtain⟨x2,b2⟩:=E2;unfold spanV at *;obtain⟨lo,hi⟩:=a;obtain⟨lo2,hi2⟩:=b;dsimp only at *;by_cases hl:lo=hi
  ·subst hl;have hl2:¬lo2=hi2:=oz
   cases b1
   all_goals go_enter Tryz.func85,Tryz.ntmps85
   all_goals go_wp2_with (first|(go_at_call 55;refine(HA.out _).mono ?_;rintro e w1 ⟨rfl,hb1⟩;clear HA;have o1:Own w1 w.heap.size [.int .i64 lo,.int .i64 lo]:=ownbq;have o2:Own w1 (w.heap.size+1) [.int .i64 lo2,.int .i64 hi2]:=ownbq;have o3:Own w1 (w.heap.size+1+1) [.int .i64 0,.int .i64 0]:=ownbq;have q1:=own2 o1;have q2:=own2 o2;have hbz:Below w.heap.size w w1:=bel)|(go_at_call 55;refine(HB.out _).mono ?_;rintro e w2 ⟨rfl,hb2⟩;clear HB;have p1:=o1.below hb2;have p2:=o2.below hb2;have p3:=o3.below hb2;have r1:=own2 p1;have r2:=own2 p2;have r3:=own2 p3;have s3:=set2 p3;have hby:Below w.heap.size w w2:=bel;clear hb2 hb1 hbz o1 o2 o3 q1 q2)|fail)
   all_goals(refine(HX.out _).mono ?_;rintro e w9 ⟨rfl,rfl⟩)
   all_goals go_wp2_with (first|(go_at_call 109;refine(HY.out _).mono ?_;rintro e w8 ⟨rfl,rfl⟩)|fail)
   all_goals(refine(hull2 (Own.new' _ [.int .i64 x1,.int .i64 x2] _ _ rfl)).mono ?_;rintro e w5 ⟨rfl,hb5⟩;have t3:=(p3.alloc _).below hb5;have u3:=own2 t3;have v3:=set2 t3;have hz5:=hb5.size)
   all_goals go_wp2
   all_goals refine flag_end (by rfl) (by rfl) (by rfl) ownbq si ?_
   all_goals exact⟨rfl,bel⟩
  ·cases b1
   all_goals go_enter Tryz.func85,Tryz.ntmps85
   all_goals go_wp2_with (first|(go_at_call 55;refine(HA.out _).mono ?_;rintro e w1 ⟨rfl,hb1⟩;clear HA;have o1:Own w1 w.heap.size [.int .i64 lo,.int .i64 hi]:=ownbq;have o2:Own w1 (w.heap.size+1) [.int .i64 lo2,.int .i64 hi2]:=ownbq;have o3:Own w1 (w.heap.size+1+1) [.int .i64 0,.int .i64 0]:=ownbq;have q1:=own2 o1;have q2:=own2 o2;have hbz:Below w.heap.size w w1:=bel)|(go_at_call 55;refine(HB.out _).mono ?_;rintro e w2 ⟨rfl,hb2⟩;clear HB;have p1:=o1.below hb2;have p2:=o2.below hb2;have p3:=o3.below hb2;have r1:=own2 p1;have r2:=own2 p2;have r3:=own2 p3;have s3:=set2 p3;have hby:Below w.heap.size w w2:=bel;clear hb2 hb1 hbz o1 o2 o3 q1 q2)|fail)
   all_goals(refine(HX.out _).mono ?_;rintro e w9 ⟨rfl,rfl⟩)
   all_goals go_wp2_with (first|(go_at_call 109;refine(HY.out _).mono ?_;rintro e w8 ⟨rfl,rfl⟩)|fail)
   all_goals(refine(hull2 (Own.new' _ [.int .i64 x1,.int .i64 x2] _ _ rfl)).mono ?_;rintro e w5 ⟨rfl,hb5⟩;have t3:=(p3.alloc _).below hb5;have u3:=own2 t3;have v3:=set2 t3;have hz5:=hb5.size)
   all_goals go_wp2
   all_goals refine flag_end (by rfl) (by rfl) (by rfl) ownbq si ?_
   all_goals exact⟨rfl,bel⟩
/-- the greatest threshold up to x, and the least from x on -/
def upTo (x:Int) (acc t:Int):Int:=if t<=x then max acc t else acc
def onFrom (x:Int) (acc t:Int):Int:=if x<=t then min acc t else acc
def widenP (old next:PSpan) (thr:List Int):PSpan :=
 ⟨if(joinP old next).lo<old.lo then thr.foldl (upTo (joinP old next).lo) (-9223372036854775808)else old.lo,
  if old.hi<(joinP old next).hi then thr.foldl (onFrom (joinP old next).hi) 9223372036854775807 else old.hi⟩
theorem swiden_any (a b:PSpan) (thr:List Int) (ta:Option Addr) (tl tc:Nat) (w:World) (ha:a.lo<=a.hi) (hb:b.lo<=b.hi) (ht:NumsAt w.heap.size w ta tl thr):Calls Tryz.prog 90 #[spanV a,spanV b,.slice ta tl tc] w fun e w'=>e=.returned (spanV (widenP a b thr))/\Below w.heap.size w w':=by
 obtain⟨htl,htm,tb,tof,hta,htc⟩:=ht;subst htl;have htm':thr.length<=9223372036854775807:=htm;have HC:=qd htc;clear htc;have HA:=qd (fun w=>none_no a w ha);have HB:=qd (fun w=>none_no b w hb);have HJ:=qd (fun w=>sjoin_any a b w);have HR:widenP a b thr=⟨if(joinP a b).lo<a.lo then thr.foldl (upTo (joinP a b).lo) (-9223372036854775808)else a.lo,if a.hi<(joinP a b).hi then thr.foldl (onFrom (joinP a b).hi) 9223372036854775807 else a.hi⟩:=rfl;generalize widenP a b thr=R at *;generalize joinP a b=J at *;unfold spanV at *;obtain⟨rlo,rhi⟩:=R;obtain⟨jlo,jhi⟩:=J;obtain⟨lo,hi⟩:=a;obtain⟨lo2,hi2⟩:=b;dsimp only at *;by_cases c1:jlo<lo
 ·by_cases c2:hi<jhi
  ·rw[if_pos c1,if_pos c2]at HR;injection HR with hr1 hr2;subst hr1 hr2;go_enter Tryz.func90,Tryz.ntmps90;go_wp2_with (first|(go_at_call 19;refine(HJ.out _).mono ?_;rintro e w0 ⟨rfl,hb0⟩;have n1:Own w0 w.heap.size [.int .i64 lo,.int .i64 hi]:=ownbq;have n2:Own w0 (w.heap.size+1) [.int .i64 lo2,.int .i64 hi2]:=ownbq;have n3:Own w0 (w.heap.size+1+1) [.int .i64 0,.int .i64 0]:=ownbq;have m1:=own2 n1;have m2:=own2 n2;have hbx:Below w.heap.size w w0:=bel;clear hb0)|(go_at_call 55;refine(HA.out _).mono ?_;rintro e w1 ⟨rfl,hb1⟩;clear HA;have o1:Own w1 w.heap.size [.int .i64 lo,.int .i64 hi]:=ownbq;have o2:Own w1 (w.heap.size+1) [.int .i64 lo2,.int .i64 hi2]:=ownbq;have o3:Own w1 (w.heap.size+1+1) [.int .i64 0,.int .i64 0]:=ownbq;have o4:Own w1 w0.heap.size [.int .i64 jlo,.int .i64 jhi]:=ownbq;have q1:=own2 o1;have q2:=own2 o2;have hbz:Below w.heap.size w w1:=bel;clear n1 n2 n3 m1 m2 hb1)|(go_at_call 55;refine(HB.out _).mono ?_;rintro e w2 ⟨rfl,hb2⟩;clear HB;have p1:=o1.below hb2;have p3:=o3.below hb2;have p4:=o4.below hb2;have r1:=own2 p1;have r3:=own2 p3;have r4:=own2 p4;have s3:=set2 p3;have hby:Below w.heap.size w w2:=bel;clear hb2 hbz o1 o2 o3 o4 q1 q2)|fail)
   have g1:=r1.1;have g3:=r3.1;have g4:=r4.1;generalize hW:World.alloc _ _=WA;have hbw:Below w.heap.size w WA:=by rw[<-hW];exact bel
   have v1:Own WA w.heap.size [.int .i64 lo,.int .i64 hi]:=by rw[<-hW];exact ownbq
   have v3:Own WA (w.heap.size+1+1) [.int .i64 0,.int .i64 0]:=by rw[<-hW];exact ownbq
   have v4:Own WA w0.heap.size [.int .i64 jlo,.int .i64 jhi]:=by rw[<-hW];exact ownbq
   have v5:Own WA w2.heap.size [.int .i64 (-9223372036854775808),.int .i64 hi]:=by rw[<-hW];first|exact h6.set 0 _ si|exact ownbq
   clear hW;clear p1 p3 p4 r1 r3 r4 s3 hby;go_wp2;go_loopw [10,32] (fun v i wr=>∃ j:Nat,j<=thr.length/\i=.int .i64 j/\Below w.heap.size w wr/\Hid (Own wr w.heap.size [.int .i64 lo,.int .i64 hi])/\Hid (Own wr (w.heap.size+1+1) [.int .i64 0,.int .i64 0])/\Hid (Own wr w0.heap.size [.int .i64 jlo,.int .i64 jhi])/\Hid (Own wr w2.heap.size [.int .i64 ((thr.take j).foldl (upTo jlo) (-9223372036854775808)),.int .i64 hi])) (fun v i _=>thr.length-(intOf i).toNat)
   case atStart=>exact⟨0,Nat.zero_le _,rfl,hbw,qd v1,qd v3,qd v4,qd v5⟩
   case round =>
    clear v1 v3 v4 v5 hbw;obtain⟨j,hj,rfl,hbr,h1,h3,h4,h5⟩:=hrel;have f1:=own2 h1.out;have k1:=h1.out;have k3:=h3.out;have k4:=h4.out;have f4:=own2 h4.out;by_cases hlt:j<thr.length
    ·have d2:(j:Int)<(thr.length:Int):=oz
     have hwk:IntKind.i64.wrap ((j:Int)+1)=(j:Int)+1:=IntWalk.i64_in _ oz;obtain⟨rfl,htb⟩:=hta oz;have c0:=((bcell hbr).1 tb (tof+j) oz).trans (HC.out j hlt).1;have hS:=foldl_take_succ (upTo jlo) 0 thr j hlt (-9223372036854775808);generalize List.foldl (upTo jlo) (-9223372036854775808) (thr.take j)=acc at *;generalize thr.getD j 0=t at *;have HS:=qd hS;clear hS;have f5:=own2 h5.out;have f6:=fun x=>h5.out.set 0 x si;by_cases e1:t<=jlo
     ·by_cases e2:acc<t
      ·have hu:upTo jlo acc t=t:=by unfold upTo;rw[if_pos e1];omega
       have HU:=qd hu;clear hu;go_wp2_with fail
       go_roundw
       case rel=>exact⟨j+1,oz,si,bel,qd ownbq,qd ownbq,qd ownbq,qd (by rw[HS.out,HU.out];exact f6 _)⟩
       case measure=>go_light;exact ml
      ·have hu:upTo jlo acc t=acc:=by unfold upTo;rw[if_pos e1];omega
       have HU:=qd hu;clear hu;go_wp2_with fail
       go_roundw
       case rel=>exact⟨j+1,oz,si,bel,qd ownbq,qd ownbq,qd ownbq,qd (by rw[HS.out,HU.out];exact f6 _)⟩
       case measure=>go_light;exact ml
     ·have hu:upTo jlo acc t=acc:=by unfold upTo;rw[if_neg e1]
      have HU:=qd hu;clear hu;go_wp2_with fail
      go_roundw
      case rel=>exact⟨j+1,oz,si,hbr,h1,h3,h4,qd (by rw[HS.out,HU.out];exact h5.out)⟩
      case measure=>go_light;exact ml
    ·have hjk:j=thr.length:=oz
     subst hjk;have d2:¬(thr.length:Int)<(thr.length:Int):=oz
     rw[List.take_length]at h5;have h6:=h5.out;have p1:=h1.out;have p3:=h3.out;have p4:=h4.out;have hby:=hbr;have r3:=own2 p3;have s3:=set2 p3;clear h1 h3 h4 h5 hbr k1 k3 k4 f1 f4;generalize hE:(thr.foldl (upTo jlo) (-9223372036854775808))=elo at *;have HEelo:=qd hE;clear hE;have f5:=own2 h6;have f6:=h6.set 1 (.int .i64 9223372036854775807) si;have r1:=own2 p1;have r4:=own2 p4;go_wp2_with fail;have g1:=r1.1;have g3:=r3.1;have g4:=r4.1;generalize hW:World.setCell _ _ _=WB;have hbw:Below w.heap.size w WB:=by rw[<-hW];exact bel
     have v1:Own WB w.heap.size [.int .i64 lo,.int .i64 hi]:=by rw[<-hW];exact ownbq
     have v3:Own WB (w.heap.size+1+1) [.int .i64 0,.int .i64 0]:=by rw[<-hW];exact ownbq
     have v4:Own WB w0.heap.size [.int .i64 jlo,.int .i64 jhi]:=by rw[<-hW];exact ownbq
     have v5:Own WB w2.heap.size [.int .i64 elo,.int .i64 9223372036854775807]:=by rw[<-hW];first|exact h6.set 1 _ si|exact ownbq
     clear hW;clear p1 p3 p4 r1 r3 r4 s3 hby;go_wp2;go_loopw [12,54] (fun v i wr=>∃ j:Nat,j<=thr.length/\i=.int .i64 j/\Below w.heap.size w wr/\Hid (Own wr w.heap.size [.int .i64 lo,.int .i64 hi])/\Hid (Own wr (w.heap.size+1+1) [.int .i64 0,.int .i64 0])/\Hid (Own wr w0.heap.size [.int .i64 jlo,.int .i64 jhi])/\Hid (Own wr w2.heap.size [.int .i64 elo,.int .i64 ((thr.take j).foldl (onFrom jhi) 9223372036854775807)])) (fun v i _=>thr.length-(intOf i).toNat)
     case atStart=>exact⟨0,Nat.zero_le _,rfl,hbw,qd v1,qd v3,qd v4,qd v5⟩
     case round =>
      clear v1 v3 v4 v5 hbw;obtain⟨j,hj,rfl,hbr,h1,h3,h4,h5⟩:=hrel;have f1:=own2 h1.out;have k1:=h1.out;have k3:=h3.out;have k4:=h4.out;have f4:=own2 h4.out;by_cases hlt:j<thr.length
      ·have d2:(j:Int)<(thr.length:Int):=oz
       have hwk:IntKind.i64.wrap ((j:Int)+1)=(j:Int)+1:=IntWalk.i64_in _ oz;obtain⟨rfl,htb⟩:=hta oz;have c0:=((bcell hbr).1 tb (tof+j) oz).trans (HC.out j hlt).1;have hS:=foldl_take_succ (onFrom jhi) 0 thr j hlt 9223372036854775807;generalize List.foldl (onFrom jhi) 9223372036854775807 (thr.take j)=acc at *;generalize thr.getD j 0=t at *;have HS:=qd hS;clear hS;have f5:=own2 h5.out;have f6:=fun x=>h5.out.set 1 x si;by_cases e1:jhi<=t
       ·by_cases e2:t<acc
        ·have hu:onFrom jhi acc t=t:=by unfold onFrom;rw[if_pos e1];omega
         have HU:=qd hu;clear hu;go_wp2_with fail
         go_roundw
         case rel=>exact⟨j+1,oz,si,bel,qd ownbq,qd ownbq,qd ownbq,qd (by rw[HS.out,HU.out];exact f6 _)⟩
         case measure=>go_light;exact ml
        ·have hu:onFrom jhi acc t=acc:=by unfold onFrom;rw[if_pos e1];omega
         have HU:=qd hu;clear hu;go_wp2_with fail
         go_roundw
         case rel=>exact⟨j+1,oz,si,bel,qd ownbq,qd ownbq,qd ownbq,qd (by rw[HS.out,HU.out];exact f6 _)⟩
         case measure=>go_light;exact ml
       ·have hu:onFrom jhi acc t=acc:=by unfold onFrom;rw[if_neg e1]
        have HU:=qd hu;clear hu;go_wp2_with fail
        go_roundw
        case rel=>exact⟨j+1,oz,si,hbr,h1,h3,h4,qd (by rw[HS.out,HU.out];exact h5.out)⟩
        case measure=>go_light;exact ml
      ·have hjk:j=thr.length:=oz
       subst hjk;have d2:¬(thr.length:Int)<(thr.length:Int):=oz
       rw[List.take_length]at h5;have h6:=h5.out;have p1:=h1.out;have p3:=h3.out;have p4:=h4.out;have hby:=hbr;have r3:=own2 p3;have s3:=set2 p3;clear h1 h3 h4 h5 hbr k1 k3 k4 f1 f4;generalize hE:(thr.foldl (onFrom jhi) 9223372036854775807)=ehi at *;have HEehi:=qd hE;clear hE;have f5:=own2 h6;have r1:=own2 p1;have r4:=own2 p4;go_wp2_with fail;refine span_end (by rfl) (by rfl) ownbq si ?_;exact⟨by first|rfl|(rw[HEelo.out,HEehi.out];done)|(rw[HEehi.out];done)|(rw[HEelo.out];done),bel⟩
  ·rw[if_pos c1,if_neg c2]at HR;injection HR with hr1 hr2;have hr2:=hr2.symm;subst hr1 hr2;go_enter Tryz.func90,Tryz.ntmps90;go_wp2_with (first|(go_at_call 19;refine(HJ.out _).mono ?_;rintro e w0 ⟨rfl,hb0⟩;have n1:Own w0 w.heap.size [.int .i64 lo,.int .i64 hi]:=ownbq;have n2:Own w0 (w.heap.size+1) [.int .i64 lo2,.int .i64 hi2]:=ownbq;have n3:Own w0 (w.heap.size+1+1) [.int .i64 0,.int .i64 0]:=ownbq;have m1:=own2 n1;have m2:=own2 n2;have hbx:Below w.heap.size w w0:=bel;clear hb0)|(go_at_call 55;refine(HA.out _).mono ?_;rintro e w1 ⟨rfl,hb1⟩;clear HA;have o1:Own w1 w.heap.size [.int .i64 lo,.int .i64 hi]:=ownbq;have o2:Own w1 (w.heap.size+1) [.int .i64 lo2,.int .i64 hi2]:=ownbq;have o3:Own w1 (w.heap.size+1+1) [.int .i64 0,.int .i64 0]:=ownbq;have o4:Own w1 w0.heap.size [.int .i64 jlo,.int .i64 jhi]:=ownbq;have q1:=own2 o1;have q2:=own2 o2;have hbz:Below w.heap.size w w1:=bel;clear n1 n2 n3 m1 m2 hb1)|(go_at_call 55;refine(HB.out _).mono ?_;rintro e w2 ⟨rfl,hb2⟩;clear HB;have p1:=o1.below hb2;have p3:=o3.below hb2;have p4:=o4.below hb2;have r1:=own2 p1;have r3:=own2 p3;have r4:=own2 p4;have s3:=set2 p3;have hby:Below w.heap.size w w2:=bel;clear hb2 hbz o1 o2 o3 o4 q1 q2)|fail)
   have g1:=r1.1;have g3:=r3.1;have g4:=r4.1;generalize hW:World.alloc _ _=WA;have hbw:Below w.heap.size w WA:=by rw[<-hW];exact bel
   have v1:Own WA w.heap.size [.int .i64 lo,.int .i64 hi]:=by rw[<-hW];exact ownbq
   have v3:Own WA (w.heap.size+1+1) [.int .i64 0,.int .i64 0]:=by rw[<-hW];exact ownbq
   have v4:Own WA w0.heap.size [.int .i64 jlo,.int .i64 jhi]:=by rw[<-hW];exact ownbq
   have v5:Own WA w2.heap.size [.int .i64 (-9223372036854775808),.int .i64 hi]:=by rw[<-hW];first|exact h6.set 0 _ si|exact ownbq
   clear hW;clear p1 p3 p4 r1 r3 r4 s3 hby;go_wp2;go_loopw [10,32] (fun v i wr=>∃ j:Nat,j<=thr.length/\i=.int .i64 j/\Below w.heap.size w wr/\Hid (Own wr w.heap.size [.int .i64 lo,.int .i64 hi])/\Hid (Own wr (w.heap.size+1+1) [.int .i64 0,.int .i64 0])/\Hid (Own wr w0.heap.size [.int .i64 jlo,.int .i64 jhi])/\Hid (Own wr w2.heap.size [.int .i64 ((thr.take j).foldl (upTo jlo) (-9223372036854775808)),.int .i64 hi])) (fun v i _=>thr.length-(intOf i).toNat)
   case atStart=>exact⟨0,Nat.zero_le _,rfl,hbw,qd v1,qd v3,qd v4,qd v5⟩
   case round =>
    clear v1 v3 v4 v5 hbw;obtain⟨j,hj,rfl,hbr,h1,h3,h4,h5⟩:=hrel;have f1:=own2 h1.out;have k1:=h1.out;have k3:=h3.out;have k4:=h4.out;have f4:=own2 h4.out;by_cases hlt:j<thr.length
    ·have d2:(j:Int)<(thr.length:Int):=oz
     have hwk:IntKind.i64.wrap ((j:Int)+1)=(j:Int)+1:=IntWalk.i64_in _ oz;obtain⟨rfl,htb⟩:=hta oz;have c0:=((bcell hbr).1 tb (tof+j) oz).trans (HC.out j hlt).1;have hS:=foldl_take_succ (upTo jlo) 0 thr j hlt (-9223372036854775808);generalize List.foldl (upTo jlo) (-9223372036854775808) (thr.take j)=acc at *;generalize thr.getD j 0=t at *;have HS:=qd hS;clear hS;have f5:=own2 h5.out;have f6:=fun x=>h5.out.set 0 x si;by_cases e1:t<=jlo
     ·by_cases e2:acc<t
      ·have hu:upTo jlo acc t=t:=by unfold upTo;rw[if_pos e1];omega
       have HU:=qd hu;clear hu;go_wp2_with fail
       go_roundw
       case rel=>exact⟨j+1,oz,si,bel,qd ownbq,qd ownbq,qd ownbq,qd (by rw[HS.out,HU.out];exact f6 _)⟩
       case measure=>go_light;exact ml
      ·have hu:upTo jlo acc t=acc:=by unfold upTo;rw[if_pos e1];omega
       have HU:=qd hu;clear hu;go_wp2_with fail
       go_roundw
       case rel=>exact⟨j+1,oz,si,bel,qd ownbq,qd ownbq,qd ownbq,qd (by rw[HS.out,HU.out];exact f6 _)⟩
       case measure=>go_light;exact ml
     ·have hu:upTo jlo acc t=acc:=by unfold upTo;rw[if_neg e1]
      have HU:=qd hu;clear hu;go_wp2_with fail
      go_roundw
      case rel=>exact⟨j+1,oz,si,hbr,h1,h3,h4,qd (by rw[HS.out,HU.out];exact h5.out)⟩
      case measure=>go_light;exact ml
    ·have hjk:j=thr.length:=oz
     subst hjk;have d2:¬(thr.length:Int)<(thr.length:Int):=oz
     rw[List.take_length]at h5;have h6:=h5.out;have p1:=h1.out;have p3:=h3.out;have p4:=h4.out;have hby:=hbr;have r3:=own2 p3;have s3:=set2 p3;clear h1 h3 h4 h5 hbr k1 k3 k4 f1 f4;generalize hE:(thr.foldl (upTo jlo) (-9223372036854775808))=elo at *;have HEelo:=qd hE;clear hE;have f5:=own2 h6;have r1:=own2 p1;have r4:=own2 p4;go_wp2_with fail;refine span_end (by rfl) (by rfl) ownbq si ?_;exact⟨by first|rfl|(rw[HEelo.out,HEehi.out];done)|(rw[HEehi.out];done)|(rw[HEelo.out];done),bel⟩
 ·by_cases c2:hi<jhi
  ·rw[if_neg c1,if_pos c2]at HR;injection HR with hr1 hr2;have hr1:=hr1.symm;subst hr1 hr2;go_enter Tryz.func90,Tryz.ntmps90;go_wp2_with (first|(go_at_call 19;refine(HJ.out _).mono ?_;rintro e w0 ⟨rfl,hb0⟩;have n1:Own w0 w.heap.size [.int .i64 lo,.int .i64 hi]:=ownbq;have n2:Own w0 (w.heap.size+1) [.int .i64 lo2,.int .i64 hi2]:=ownbq;have n3:Own w0 (w.heap.size+1+1) [.int .i64 0,.int .i64 0]:=ownbq;have m1:=own2 n1;have m2:=own2 n2;have hbx:Below w.heap.size w w0:=bel;clear hb0)|(go_at_call 55;refine(HA.out _).mono ?_;rintro e w1 ⟨rfl,hb1⟩;clear HA;have o1:Own w1 w.heap.size [.int .i64 lo,.int .i64 hi]:=ownbq;have o2:Own w1 (w.heap.size+1) [.int .i64 lo2,.int .i64 hi2]:=ownbq;have o3:Own w1 (w.heap.size+1+1) [.int .i64 0,.int .i64 0]:=ownbq;have o4:Own w1 w0.heap.size [.int .i64 jlo,.int .i64 jhi]:=ownbq;have q1:=own2 o1;have q2:=own2 o2;have hbz:Below w.heap.size w w1:=bel;clear n1 n2 n3 m1 m2 hb1)|(go_at_call 55;refine(HB.out _).mono ?_;rintro e w2 ⟨rfl,hb2⟩;clear HB;have p1:=o1.below hb2;have p3:=o3.below hb2;have p4:=o4.below hb2;have r1:=own2 p1;have r3:=own2 p3;have r4:=own2 p4;have s3:=set2 p3;have hby:Below w.heap.size w w2:=bel;clear hb2 hbz o1 o2 o3 o4 q1 q2)|fail)
   have g1:=r1.1;have g3:=r3.1;have g4:=r4.1;generalize hW:World.alloc _ _=WB;have hbw:Below w.heap.size w WB:=by rw[<-hW];exact bel
   have v1:Own WB w.heap.size [.int .i64 lo,.int .i64 hi]:=by rw[<-hW];exact ownbq
   have v3:Own WB (w.heap.size+1+1) [.int .i64 0,.int .i64 0]:=by rw[<-hW];exact ownbq
   have v4:Own WB w0.heap.size [.int .i64 jlo,.int .i64 jhi]:=by rw[<-hW];exact ownbq
   have v5:Own WB w2.heap.size [.int .i64 lo,.int .i64 9223372036854775807]:=by rw[<-hW];first|exact h6.set 1 _ si|exact ownbq
   clear hW;clear p1 p3 p4 r1 r3 r4 s3 hby;go_wp2;go_loopw [12,54] (fun v i wr=>∃ j:Nat,j<=thr.length/\i=.int .i64 j/\Below w.heap.size w wr/\Hid (Own wr w.heap.size [.int .i64 lo,.int .i64 hi])/\Hid (Own wr (w.heap.size+1+1) [.int .i64 0,.int .i64 0])/\Hid (Own wr w0.heap.size [.int .i64 jlo,.int .i64 jhi])/\Hid (Own wr w2.heap.size [.int .i64 lo,.int .i64 ((thr.take j).foldl (onFrom jhi) 9223372036854775807)])) (fun v i _=>thr.length-(intOf i).toNat)
   case atStart=>exact⟨0,Nat.zero_le _,rfl,hbw,qd v1,qd v3,qd v4,qd v5⟩
   case round =>
    clear v1 v3 v4 v5 hbw;obtain⟨j,hj,rfl,hbr,h1,h3,h4,h5⟩:=hrel;have f1:=own2 h1.out;have k1:=h1.out;have k3:=h3.out;have k4:=h4.out;have f4:=own2 h4.out;by_cases hlt:j<thr.length
    ·have d2:(j:Int)<(thr.length:Int):=oz
     have hwk:IntKind.i64.wrap ((j:Int)+1)=(j:Int)+1:=IntWalk.i64_in _ oz;obtain⟨rfl,htb⟩:=hta oz;have c0:=((bcell hbr).1 tb (tof+j) oz).trans (HC.out j hlt).1;have hS:=foldl_take_succ (onFrom jhi) 0 thr j hlt 9223372036854775807;generalize List.foldl (onFrom jhi) 9223372036854775807 (thr.take j)=acc at *;generalize thr.getD j 0=t at *;have HS:=qd hS;clear hS;have f5:=own2 h5.out;have f6:=fun x=>h5.out.set 1 x si;by_cases e1:jhi<=t
     ·by_cases e2:t<acc
      ·have hu:onFrom jhi acc t=t:=by unfold onFrom;rw[if_pos e1];omega
       have HU:=qd hu;clear hu;go_wp2_with fail
       go_roundw
       case rel=>exact⟨j+1,oz,si,bel,qd ownbq,qd ownbq,qd ownbq,qd (by rw[HS.out,HU.out];exact f6 _)⟩
       case measure=>go_light;exact ml
      ·have hu:onFrom jhi acc t=acc:=by unfold onFrom;rw[if_pos e1];omega
       have HU:=qd hu;clear hu;go_wp2_with fail
       go_roundw
       case rel=>exact⟨j+1,oz,si,bel,qd ownbq,qd ownbq,qd ownbq,qd (by rw[HS.out,HU.out];exact f6 _)⟩
       case measure=>go_light;exact ml
     ·have hu:onFrom jhi acc t=acc:=by unfold onFrom;rw[if_neg e1]
      have HU:=qd hu;clear hu;go_wp2_with fail
      go_roundw
      case rel=>exact⟨j+1,oz,si,hbr,h1,h3,h4,qd (by rw[HS.out,HU.out];exact h5.out)⟩
      case measure=>go_light;exact ml
    ·have hjk:j=thr.length:=oz
     subst hjk;have d2:¬(thr.length:Int)<(thr.length:Int):=oz
     rw[List.take_length]at h5;have h6:=h5.out;have p1:=h1.out;have p3:=h3.out;have p4:=h4.out;have hby:=hbr;have r3:=own2 p3;have s3:=set2 p3;clear h1 h3 h4 h5 hbr k1 k3 k4 f1 f4;generalize hE:(thr.foldl (onFrom jhi) 9223372036854775807)=ehi at *;have HEehi:=qd hE;clear hE;have f5:=own2 h6;have r1:=own2 p1;have r4:=own2 p4;go_wp2_with fail;refine span_end (by rfl) (by rfl) ownbq si ?_;exact⟨by first|rfl|(rw[HEelo.out,HEehi.out];done)|(rw[HEehi.out];done)|(rw[HEelo.out];done),bel⟩
  ·rw[if_neg c1,if_neg c2]at HR;injection HR with hr1 hr2;have hr1:=hr1.symm;have hr2:=hr2.symm;subst hr1 hr2;go_enter Tryz.func90,Tryz.ntmps90;go_wp2_with (first|(go_at_call 19;refine(HJ.out _).mono ?_;rintro e w0 ⟨rfl,hb0⟩;have n1:Own w0 w.heap.size [.int .i64 lo,.int .i64 hi]:=ownbq;have n2:Own w0 (w.heap.size+1) [.int .i64 lo2,.int .i64 hi2]:=ownbq;have n3:Own w0 (w.heap.size+1+1) [.int .i64 0,.int .i64 0]:=ownbq;have m1:=own2 n1;have m2:=own2 n2;have hbx:Below w.heap.size w w0:=bel;clear hb0)|(go_at_call 55;refine(HA.out _).mono ?_;rintro e w1 ⟨rfl,hb1⟩;clear HA;have o1:Own w1 w.heap.size [.int .i64 lo,.int .i64 hi]:=ownbq;have o2:Own w1 (w.heap.size+1) [.int .i64 lo2,.int .i64 hi2]:=ownbq;have o3:Own w1 (w.heap.size+1+1) [.int .i64 0,.int .i64 0]:=ownbq;have o4:Own w1 w0.heap.size [.int .i64 jlo,.int .i64 jhi]:=ownbq;have q1:=own2 o1;have q2:=own2 o2;have hbz:Below w.heap.size w w1:=bel;clear n1 n2 n3 m1 m2 hb1)|(go_at_call 55;refine(HB.out _).mono ?_;rintro e w2 ⟨rfl,hb2⟩;clear HB;have p1:=o1.below hb2;have p3:=o3.below hb2;have p4:=o4.below hb2;have r1:=own2 p1;have r3:=own2 p3;have r4:=own2 p4;have s3:=set2 p3;have hby:Below w.heap.size w w2:=bel;clear hb2 hbz o1 o2 o3 o4 q1 q2)|fail)
   refine span_end (by rfl) (by rfl) ownbq si ?_;exact⟨rfl,bel⟩
end Go.Proofs.YteebpnbdihcfmaaGreatDoor
