/- trips; Plain law; Plain law; A region that draws its order, gone through by what holds wh; Package bounds; Package bounds; Package bounds; Package bounds -/
import Derived.Test.YteebpnbdihcfmaaGreatDoorJ11
import Derived.Test.YteebpnbdihcfmaaGreatDoorJ05
import Derived.Test.YteebpnbdihcfmaaGreatDoorJ08
import Derived.Test.YteebpnbdihcfmaaGreatDoorJ10
import Derived.Test.YteebpnbdihcfmaaGreatDoorJ04
import Derived.Deep.RegionLawGrows
import Derived.Test.YteebpnbdihcfmaaGreatDoorJ01
set_option linter.unusedVariables false
set_option linter.unusedSimpArgs false
set_option maxRecDepth 100000
set_option maxHeartbeats 20000000
namespace Go.Proofs.YteebpnbdihcfmaaGreatDoor
open Go.RowKit
theorem heads_len (f:PFunc):(headsP (GL f) f.code.length).length<=f.code.length:=by
 unfold headsP pickN;rw[List.length_map];exact Nat.le_trans (List.length_filter_le _ _) si
theorem parP_mem {ls:List PLoop}{x:PLoop}(hx:x∈parP ls):∃ y∈ls,x.head=y.head/\x.members=y.members/\x.backs=y.backs:=by
 unfold parP at hx;obtain⟨i,hi,rfl⟩:=List.mem_map.1 hx;have hi:=List.mem_range.1 hi;have hm:ls.getD i default∈ls:=by rw[List.getD_eq_getElem?_getD,List.getElem?_eq_getElem hi];exact List.getElem_mem hi
 exact⟨_,hm,rfl,rfl,rfl⟩
theorem find_case (f:PFunc):(findP f).1=[]\/(findP f).1=parP (loopsL f):=by
 unfold findP;split
 ·exact .inl rfl
 ·split
  ·exact .inl rfl
  ·split
   ·exact .inl rfl
   ·exact .inr rfl
theorem find_len (f:PFunc):(findP f).1.length<=f.code.length:=by
 rcases find_case f with h|h
 ·rw[h];exact Nat.zero_le _
 ·rw[h];have h1:=heads_len f;unfold parP loopsL;simpa using h1
theorem find_mem {f:PFunc}(hn:f.code.length<=1024) {l:PLoop}(hl:l∈(findP f).1):l.head<f.code.length/\∀ x∈l.members,In64 x:=by
 rcases find_case f with h|h
 ·rw[h]at hl;simp at hl
 ·rw[h]at hl;obtain⟨y,hy,h1,h2,_⟩:=parP_mem hl;unfold loopsL at hy;obtain⟨z,hz,rfl⟩:=List.mem_map.1 hy;obtain⟨i,hi⟩:=List.getElem?_of_mem hz;obtain⟨k,rfl,hk⟩:=heads_at hi;rw[h1,h2,Int.toNat_natCast];exact⟨hk,fun x hx=>((loopP_64 f hn k).1 x hx).1⟩
section
theorem nextP_at {f:PFunc}{k:Nat}{t:Int}{i:Nat}(hi:i<(rawN (f.code.getD k default) k).length) (hk:keepN f.code.length (rawN (f.code.getD k default) k) i=true) (ht:(rawN (f.code.getD k default) k).getD i 0=t):t∈nextP f k:=by
 unfold nextP nextTo;rw[List.mem_map];exact⟨i,List.mem_filter.2 ⟨List.mem_range.2 hi,hk⟩,ht⟩
theorem insR_inv {m:PMod}{x:PIns}{words nxt nx ans:Int}{v v':List Int}(r0:0<=x.op) (r1:x.op<20) (hs:insR m words x nxt v ans=some (nx,v')) :
 (∃ y,v'=v.set x.a.toNat y/\nx=nxt/\(x.op=1\/x.op=2\/(3<=x.op/\x.op<=10)\/x.op=11\/x.op=19))\/(v'=v/\nx=nxt/\(x.op=12\/x.op=13))\/(x.op=18/\nx=x.n/\v'=v.set x.a.toNat (wrap64 (rgAt v x.a+1))) \/
  ((x.op=15\/x.op=16)/\v'=v/\(nx=x.n\/nx=nxt))\/(x.op=17/\v'=v/\nx=(if rgAt v x.b<=rgAt v x.a then x.n else nxt))\/(x.op=14/\v'=v/\nx=x.n):=by
 unfold insR at hs;by_cases h0:x.op=0
 ·rw[if_pos h0]at hs;cases hs
 rw[if_neg h0]at hs;by_cases h1:x.op=1
 ·rw[if_pos h1]at hs;cases hs;exact .inl ⟨_,rfl,rfl,.inl h1⟩
 rw[if_neg h1]at hs;by_cases h2:x.op=2
 ·rw[if_pos h2]at hs;cases hs;exact .inl ⟨_,rfl,rfl,.inr (.inl h2)⟩
 rw[if_neg h2]at hs;by_cases h3:3<=x.op/\x.op<=10
 ·rw[if_pos h3,Option.map_eq_some_iff]at hs;obtain⟨y,_,he⟩:=hs;cases he;exact .inl ⟨_,rfl,rfl,.inr (.inr (.inl h3))⟩
 rw[if_neg h3]at hs;by_cases h18:x.op=18
 ·rw[if_pos h18]at hs;cases hs;exact .inr (.inr (.inl ⟨h18,rfl,rfl⟩))
 rw[if_neg h18]at hs;by_cases h11:x.op=11\/x.op=12
 ·rw[if_pos h11]at hs;by_cases hh:hitsP (rgAt v x.b) x.n words=true
  ·rw[if_pos hh]at hs;by_cases e:x.op=11
   ·rw[if_pos e]at hs;cases hs;exact .inl ⟨_,rfl,rfl,oz⟩
   ·rw[if_neg e]at hs;cases hs;exact .inr (.inl ⟨rfl,rfl,oz⟩)
  ·rw[if_neg hh]at hs;cases hs
 rw[if_neg h11]at hs;by_cases h13:x.op=13
 ·rw[if_pos h13]at hs;by_cases hh:rgAt v x.a<0\/x.n<=rgAt v x.a
  ·rw[if_pos hh]at hs;cases hs
  ·rw[if_neg hh]at hs;cases hs;exact .inr (.inl ⟨rfl,rfl,.inr h13⟩)
 rw[if_neg h13]at hs;by_cases h19:x.op=19
 ·rw[if_pos h19]at hs;by_cases hh:fitsR v x.b.toNat (paramsAt m x.n)=true
  ·rw[if_pos hh]at hs;cases hs;exact .inl ⟨_,rfl,rfl,oz⟩
  ·rw[if_neg hh]at hs;cases hs
 rw[if_neg h19]at hs;by_cases h15:x.op=15\/x.op=16
 ·rw[if_pos h15]at hs;have hs2:=Option.some.inj hs;have e1:=congrArg Prod.fst hs2;have e2:=congrArg Prod.snd hs2;dsimp only at e1 e2;refine .inr (.inr (.inr (.inl ⟨h15,e2.symm,?_⟩)));rw[<-e1];split
  ·exact .inl rfl
  ·exact .inr rfl
 rw[if_neg h15]at hs;by_cases h17:x.op=17
 ·rw[if_pos h17]at hs;have hs2:=Option.some.inj hs;exact .inr (.inr (.inr (.inr (.inl ⟨h17,(congrArg Prod.snd hs2).symm,(congrArg Prod.fst hs2).symm⟩))))
 rw[if_neg h17]at hs;cases hs;exact .inr (.inr (.inr (.inr (.inr ⟨oz,rfl,rfl⟩))))
theorem step_next {m:PMod}(hm:Fine m) {fn:Nat}(hfn:fn<m.funcs.length) {k:Nat}(hk:k<(fnAt m fn).code.length) {v v':List Int}{ans nx:Int}(hs:stepR m (fnAt m fn) k v ans=some (nx,v')):nx∈nextP (fnAt m fn) k:=by
 have hi:=hm.ins fn k hfn hk;have hl:k+1=(fnAt m fn).code.length->_:=hm.last fn k hfn;unfold stepR at hs;have at1:∀ L:List Int,rawN ((fnAt m fn).code.getD k default) k=((k:Int)+1)::L->k+1≠(fnAt m fn).code.length->(k:Int)+1∈nextP (fnAt m fn) k:=fun L e h=>nextP_at (i:=0) (by rw[e];simp) (by rw[e];unfold keepN;simp;omega) (by rw[e];rfl);generalize hx:(fnAt m fn).code.getD k default=x at *;have key:(nx=(k:Int)+1/\x.op≠0/\x.op≠14/\x.op≠18)\/(nx=x.n/\14<=x.op/\x.op<=18):=by
  rcases insR_inv hi.op0 hi.op1 hs with⟨y,_,e,h⟩|⟨_,e,h⟩|⟨h,e,_⟩|⟨h,_,e⟩|⟨h,_,e⟩|⟨h,_,e⟩
  ·exact .inl ⟨e,oz,oz,oz⟩
  ·exact .inl ⟨e,oz,oz,oz⟩
  ·exact .inr ⟨e,oz,oz⟩
  ·rcases e with e|e
   ·exact .inr ⟨e,oz,oz⟩
   ·exact .inl ⟨e,oz,oz,oz⟩
  ·split at e
   ·exact .inr ⟨e,oz,oz⟩
   ·exact .inl ⟨e,oz,oz,oz⟩
  ·exact .inr ⟨e,oz,oz⟩
 have r0:=hi.op0;have r1:=hi.op1;rcases key with⟨rfl,h0,h14,h18⟩|⟨rfl,ha,hb⟩
 ·have hne:k+1≠(fnAt m fn).code.length:=fun e=>by
   have:=hl e;omega
  by_cases h3:x.op=15\/x.op=16\/x.op=17
  ·refine at1 [x.n] ?_ hne;unfold rawN;rw[if_neg h0,if_neg (by omega),if_pos h3]
  ·refine at1 [] ?_ hne;unfold rawN;rw[if_neg h0,if_neg (by omega),if_neg h3,if_pos (by unfold knownB;simp;omega)]
 ·have ht:=hi.tgt ha hb;by_cases h3:x.op=15\/x.op=16\/x.op=17
  ·have e:rawN ((fnAt m fn).code.getD k default) k=[(k:Int)+1,x.n]:=by rw[hx];unfold rawN;rw[if_neg (by omega),if_neg (by omega),if_pos h3]
   by_cases hn:x.n=(k:Int)+1
   ·exact nextP_at (i:=0) (by rw[e];simp) (by rw[e];unfold keepN;simp;omega) (by rw[e];simp[hn])
   ·exact nextP_at (i:=1) (by rw[e];simp) (by rw[e];unfold keepN;simp;omega) (by rw[e];rfl)
  ·have e:rawN ((fnAt m fn).code.getD k default) k=[x.n]:=by rw[hx];unfold rawN;rw[if_neg (by omega),if_pos (by omega)]
   exact nextP_at (i:=0) (by rw[e];simp) (by rw[e];unfold keepN;simp;omega) (by rw[e];rfl)
/-- only the register that is written changes -/
theorem step_same {m:PMod}{x:PIns}{words nxt nx ans:Int}{v v':List Int}(h0:0<=x.op) (h1:x.op<20) (hs:insR m words x nxt v ans=some (nx,v')) {i:Int}(hi:0<=i) (ha:0<=x.a) (hne:writesP x≠i):rgAt v' i=rgAt v i:=by
 have hset:∀ y:Int,x.a≠i->rgAt (v.set x.a.toNat y) i=rgAt v i:=fun y hy=>by
  unfold rgAt;rw[getD_setL,if_neg (by omega)]
 have hw:(rowAt x.op.toNat).writes=true->x.a≠i:=fun h e=>by
  unfold writesP at hne;rw[show knownB x.op=true from by unfold knownB;simp;omega,h]at hne;exact hne e
 have tab:∀ k:Nat,k<20->(k=1\/k=2\/(3<=k/\k<=10)\/k=11\/k=18\/k=19)->(rowAt k).writes=true:=dc
 have tw:(x.op=1\/x.op=2\/(3<=x.op/\x.op<=10)\/x.op=11\/x.op=18\/x.op=19)->x.a≠i:=fun h=>hw (tab x.op.toNat oz oz);rcases insR_inv h0 h1 hs with⟨y,rfl,_,h⟩|⟨rfl,_⟩|⟨h,_,rfl⟩|⟨_,rfl,_⟩|⟨_,rfl,_⟩|⟨_,rfl,_⟩
 ·exact hset _ (tw oz)
 ·rfl
 ·exact hset _ (tw oz)
 ·rfl
 ·rfl
 ·rfl
section
variable {f : PFunc} {h : Nat}
theorem pickN_iff {n:Nat}{p:Int->Bool}{x:Int}:x∈pickN n p↔∃ k:Nat,k<n/\p k=true/\x=k:=by
 unfold pickN;rw[List.mem_map];constructor
 ·rintro⟨k,hk,rfl⟩;obtain⟨h1,h2⟩:=List.mem_filter.1 hk;exact⟨k,List.mem_range.1 h1,h2,rfl⟩
 ·rintro⟨k,h1,h2,rfl⟩;exact⟨k,List.mem_filter.2 ⟨List.mem_range.2 h1,h2⟩,rfl⟩
open Classical in
theorem dom_iff {v u:Nat}:domB f v u=true↔¬(v≠0/\Wx (EdgeP f) v 0 u):=by unfold domB;exact decide_eq_true_iff
open Classical in
theorem in_iff {v:Int}:inB_ (GL f) h v=true↔v=h\/Cl (nxG (GL f) 0) (fun x=>decide (x=(h:Int))) (GL f 2 h) v:=by unfold inB_;rw[Bool.or_eq_true,decide_eq_true_iff,decide_eq_true_iff]
theorem back_mem {u:Nat}:(u:Int)∈GL f 2 h↔(u,(h:Int))∈edgesL f/\domB f h u=true:=by
 unfold GL grP;rw[if_neg (by omega),if_neg (by omega),List.mem_map];constructor
 ·rintro⟨⟨a,b⟩,he,hu⟩;obtain⟨h1,h2⟩:=List.mem_filter.1 he;simp only[Bool.and_eq_true,beq_iff_eq]at h2;dsimp only at hu h2;obtain rfl:a=u:=oz
  obtain⟨rfl,h3⟩:=h2;exact⟨h1,by simpa using h3⟩
 ·rintro⟨h1,h2⟩;exact⟨(u,(h:Int)),List.mem_filter.2 ⟨h1,by simp[h2]⟩,rfl⟩
theorem pred_mem {u v:Nat}:(u:Int)∈GL f 0 v↔(u,(v:Int))∈edgesL f:=by
 unfold GL grP fromL;rw[if_pos rfl,List.mem_map];constructor
 ·rintro⟨⟨a,b⟩,he,hu⟩;obtain⟨h1,h2⟩:=List.mem_filter.1 he;dsimp only at hu h2;obtain rfl:a=u:=oz
  obtain rfl:b=(v:Int):=by simpa using h2
  exact h1
 ·intro h1;exact⟨(u,(v:Int)),List.mem_filter.2 ⟨h1,si⟩,rfl⟩
/-- from each member a way leads to where a back edge begins, not past the head -/
theorem member_way {x:Int}(hc:Cl (nxG (GL f) 0) (fun x=>decide (x=(h:Int))) (GL f 2 h) x):∃ k b:Nat,x=k/\(b:Int)∈GL f 2 h/\(k=b\/Wx (EdgeP f) h k b):=by
 induction hc with
 | start x hx =>
  obtain⟨k,rfl,_⟩:=GL_mem f 2 h x hx;exact⟨k,k,rfl,hx,.inl rfl⟩
 | step x y _ hx hy ih =>
  obtain⟨k,b,rfl,hb,hw⟩:=ih;unfold nxG at hy;rw[Int.toNat_natCast]at hy;obtain⟨j,rfl,_⟩:=GL_mem f 0 k y hy;have he:EdgeP f j k:=((edges_mem f j k).1 (pred_mem.1 hy)).2;have hkh:k≠h:=by simp only[decide_eq_false_iff_not]at hx;omega
  have h1:Wx (EdgeP f) h j k:=.step j k .refl he hkh;rcases hw with rfl|hw
  ·exact⟨j,k,rfl,hb,.inr h1⟩
  ·exact⟨j,b,rfl,hb,.inr (h1.trans hw)⟩
theorem member_dom {k:Nat}(hc:inB_ (GL f) h k=true):domB f h k=true:=by
 rw[in_iff]at hc;rw[dom_iff];rintro⟨h0,hw⟩;rcases hc with hc|hc
 ·obtain rfl:k=h:=oz
  cases hw with
  | refl=>exact h0 rfl
  | step u w _ _ hne=>exact hne rfl
 ·obtain⟨k',b,hk,hb,hw2⟩:=member_way hc;obtain rfl:k=k':=oz
  have hd:=(back_mem.1 hb).2;rw[dom_iff]at hd;refine hd ⟨h0,?_⟩;rcases hw2 with rfl|hw2
  ·exact hw
  ·exact hw.trans hw2
/-- an edge from a member to the head is a back edge -/
theorem member_back {u:Nat}(hu:u<f.code.length) (hc:inB_ (GL f) h u=true) (he:EdgeP f u h):(u:Int)∈GL f 2 h:=back_mem.2 ⟨(edges_mem f u h).2 ⟨hu,he⟩,member_dom hc⟩
/-- who leads to a member that is not the head is one -/
theorem member_pred {u v:Nat}(hu:u<f.code.length) (hc:inB_ (GL f) h v=true) (hv:v≠h) (he:EdgeP f u v):inB_ (GL f) h u=true:=by
 rw[in_iff]at *;rcases hc with hc|hc
 ·omega
 ·right;refine .step v u hc (by simp;omega) ?_;unfold nxG;rw[Int.toNat_natCast];exact pred_mem.2 ((edges_mem f u v).2 ⟨hu,he⟩)
theorem member_zero (hc:inB_ (GL f) h 0=true):h=0:=by
 have:=member_dom (k:=0) hc;rw[dom_iff]at this;refine Decidable.byContradiction fun h0=>this ⟨h0,.refl⟩
theorem member_head:inB_ (GL f) h h=true:=by unfold inB_;simp
end
/-- a loop that counts -/
structure LCnt (f:PFunc) (l:PLoop):Prop where
 hl:l.head<f.code.length
 mem:∀ k:Nat,(k:Int)∈l.members↔k<f.code.length/\inB_ (GL f) l.head k=true
 op:(f.code.getD l.head default).op=17
 bk:∀ u:Nat,(u:Int)∈GL f 2 l.head->(f.code.getD u default).op=18/\(f.code.getD u default).a=(f.code.getD l.head default).a
 wr:∀ k:Nat,(k:Int)∈l.members->0<=writesP (f.code.getD k default)->(writesP (f.code.getD k default)=(f.code.getD l.head default).a->(k:Int)∈GL f 2 l.head)/\writesP (f.code.getD k default)≠(f.code.getD l.head default).b
 ex:(f.code.getD l.head default).n∉l.members
theorem counts_ok {f:PFunc}{l:PLoop}(hc:(countsP f l).1=0):(codeAt f l.head).op=17/\(∀ u∈l.backs,(codeAt f u).op=18/\(codeAt f u).a=(codeAt f l.head).a)/\(∀ u∈l.members,0<=writesP (codeAt f u)->(writesP (codeAt f u)=(codeAt f l.head).a->u∈l.backs)/\writesP (codeAt f u)≠(codeAt f l.head).b)/\(codeAt f l.head).n∉l.members:=by
 unfold countsP at hc;split at hc
 ·cases hc
 rename_i h17;split at hc
 ·cases hc
 rename_i hb;split at hc
 ·cases hc
 rename_i hmm;split at hc
 ·cases hc
 rename_i hx;refine⟨Decidable.not_not.1 h17,fun u hu=>?_,fun u hu h0=>?_,fun h=>hx (List.any_eq_true.2 ⟨_,h,si⟩)⟩
 ·have:=List.find?_eq_none.1 hb u hu;simpa using this
 ·have:=List.find?_eq_none.1 hmm u hu;simp only[Bool.and_eq_true,Bool.or_eq_true,decide_eq_true_eq,Bool.not_eq_true',not_and,not_or]at this;obtain⟨h1,h2⟩:=this h0;refine⟨fun e=>?_,h2⟩;have:=h1 e;simpa using this
theorem find_ok {f:PFunc}(hf:(findP f).2.1=0) (hn:f.code.length<=1024):∀ l∈(findP f).1,LCnt f l:=by
 have hr:(findP f).1=parP (loopsL f)/\∀ l∈loopsL f,(countsP f l).1=0:=by
  unfold findP at *;rw[if_neg (by omega)]at *;cases h1:firstI f.code.length (fun k=>comesB (GL f) k)with
  | some v=>rw[h1]at hf;cases hf
  | none =>
   rw[h1]at hf;dsimp only at hf ⊢;cases h2:(loopsL f).find? (fun l=>decide ((countsP f l).1≠0))with
   | some l =>
    rw[h2]at hf;have:=List.find?_some h2;simp at this;exact absurd hf this
   | none =>
    refine⟨rfl,fun l hl=>?_⟩;have:=List.find?_eq_none.1 h2 l hl;simpa using this
 intro l hl;rw[hr.1]at hl;obtain⟨y,hy,e1,e2,e3⟩:=parP_mem hl;have hc:=counts_ok (hr.2 y hy);unfold loopsL at hy;obtain⟨z,hz,rfl⟩:=List.mem_map.1 hy;obtain⟨k,hk,_,rfl⟩:=pickN_iff.1 hz;rw[Int.toNat_natCast]at *;have eh:l.head=k:=e1;have em:l.members=pickN f.code.length (inB_ (GL f) k):=e2;obtain⟨c1,c2,c3,c4⟩:=hc;have cd:∀ j:Nat,codeAt f (j:Int)=f.code.getD j default:=fun j=>by unfold codeAt;rw[Int.toNat_natCast]
 have ch:codeAt f ((loopP f k).head:Int)=f.code.getD l.head default:=by rw[eh];exact cd k
 rw[ch]at c1 c2 c3 c4;refine⟨by rw[eh];exact hk,fun j=>?_,c1,fun u hu=>?_,fun j hj h0=>?_,fun h=>c4 (by rw[em]at h;exact h)⟩
 ·rw[em,pickN_iff,eh];constructor
  ·rintro⟨i,h1,h2,h3⟩;obtain rfl:j=i:=oz
   exact⟨h1,h2⟩
  ·rintro⟨h1,h2⟩;exact⟨j,h1,h2,rfl⟩
 ·rw[eh]at hu;have:=c2 u hu;rw[cd]at this;exact this
 ·have:=c3 j (by rw[em]at hj;exact hj) (by rw[cd];exact h0);rw[cd]at this;rw[eh];rw[eh]at this;exact this
end
section
section
variable {m : PMod} {f : PFunc} {inn : List (List PSpan)} {l : PLoop}
def LH64 (lh:PSpan×PSpan):Prop:=In64 lh.1.lo/\In64 lh.1.hi/\In64 lh.2.lo/\In64 lh.2.hi
theorem join64 {a b:PSpan}(ha:In64 a.lo/\In64 a.hi) (hb:In64 b.lo/\In64 b.hi):In64 (joinP a b).lo/\In64 (joinP a b).hi:=by
 unfold joinP;split
 ·exact hb
 ·split
  ·exact ha
  ·unfold In64 at *;dsimp only;omega
theorem come64 {c:PIns}{lh:PSpan×PSpan}{r:List PSpan}(h:LH64 lh) (ha:In64 (spAt r c.a).lo/\In64 (spAt r c.a).hi) (hb:In64 (spAt r c.b).lo/\In64 (spAt r c.b).hi):LH64 (comeP c lh r):=by
 have h1:=join64 ⟨h.1,h.2.1⟩ ha;have h2:=join64 ⟨h.2.2.1,h.2.2.2⟩ hb;exact⟨h1.1,h1.2,h2.1,h2.2⟩
def InP (lh:PSpan×PSpan) (x y:Int):Prop:=InS lh.1 x/\InS lh.2 y
theorem trip_mono {lh:PSpan×PSpan}{x y:Int}(h:InP lh x y) (e:Nat×Int):InP (tripE m f inn l lh e) x y:=by
 unfold tripE;split
 ·exact h
 ·split
  ·exact⟨h.1.join1,h.2.join1⟩
  ·exact h
theorem trips_mono {x y:Int}:∀ (es:List (Nat×Int)) (lh:PSpan×PSpan),InP lh x y->InP (es.foldl (tripE m f inn l) lh) x y
 | [],_,h=>h
 | e::es,lh,h=>trips_mono es _ (trip_mono h e)
theorem trips_has {x y:Int}{e:Nat×Int}{out:List PSpan}(h1:e.2=(l.head:Int)) (h2:l.members.contains (e.1:Int)=false) (h3:inn.getD e.1 []≠[]) (h4:wayP m f e.1 e.2 (inn.getD e.1 [])=some out)
 (hx:InS (spAt out (f.code.getD l.head default).a) x) (hy:InS (spAt out (f.code.getD l.head default).b) y):∀ (es:List (Nat×Int)) (lh:PSpan×PSpan),e∈es->InP (es.foldl (tripE m f inn l) lh) x y
 | [],_,h=>by simp at h
 | q::es,lh,h=>by
  rw[List.foldl_cons];rcases List.mem_cons.1 h with rfl|h
  ·refine trips_mono es _ ?_;unfold tripE;rw[if_neg (by
    rintro(h|h|h)
    ·exact h h1
    ·rw[h2]at h;cases h
    ·exact h3 h),h4]
   exact⟨hx.join2,hy.join2⟩
  ·exact trips_has h1 h2 h3 h4 hx hy es _ h
theorem trips_64 (H:∀ e∈edgesL f,∀ out,inn.getD e.1 []≠[]->wayP m f e.1 e.2 (inn.getD e.1 [])=some out->∀ i,0<=i->i<f.regs->In64 (spAt out i).lo/\In64 (spAt out i).hi) (ha:0<=(f.code.getD l.head default).a/\(f.code.getD l.head default).a<f.regs) (hb:0<=(f.code.getD l.head default).b/\(f.code.getD l.head default).b<f.regs) :
 ∀ (es:List (Nat×Int)) (lh:PSpan×PSpan),(∀ e∈es,e∈edgesL f)->LH64 lh->LH64 (es.foldl (tripE m f inn l) lh)
 | [],_,_,h=>h
 | q::es,lh,hq,h=>by
  rw[List.foldl_cons];refine trips_64 H ha hb es _ (fun e he=>hq e (List.mem_cons_of_mem _ he)) ?_;unfold tripE;split
  ·exact h
  ·rename_i hc;split
   ·rename_i out hw;have hne:inn.getD q.1 []≠[]:=fun e=>hc (.inr (.inr e));exact come64 h (H q (hq q si) out hne hw _ ha.1 ha.2) (H q (hq q si) out hne hw _ hb.1 hb.2)
   ·exact h
theorem len_le {lh:PSpan×PSpan}{x y:Int}(h64:LH64 lh) (h:InP lh x y):0<=lenLH lh/\y-x<=lenLH lh:=by
 obtain⟨⟨h1,h2⟩,h3,h4⟩:=h;obtain⟨a1,a2,a3,a4⟩:=h64;unfold In64 at *;unfold lenLH lengthP;rw[if_pos (by omega)];split
 ·omega
 ·rw[u64_wrap,u64_wrap,u64_wrap];omega
theorem len_nn (lh:PSpan×PSpan):0<=lenLH lh:=by
 unfold lenLH lengthP;split
 ·split
  ·omega
  ·rw[u64_wrap];omega
 ·omega
end
/-- where a run stands: at an instruction, from where, with which numbers -/
structure TOk (m:PMod) (f:PFunc) (inn:List (List PSpan)) (k:Nat) (fr:Int) (v:List Int):Prop where
 lt:k<f.code.length
 rch:Rch f k
 inh:InH (inn.getD k []) v
 way:(fr = -1/\k=0/\InL (beginP f) v)\/∃ u:Nat,fr=u/\u<f.code.length/\EdgeP f u k/\inn.getD u []≠[]/\∃ out,wayP m f u k (inn.getD u [])=some out/\InL out v
section
variable {m : PMod} {fn : Nat} {inn : List (List PSpan)} {k : Nat} {fr : Int} {v v' : List Int} {ans nx : Int}
/-- what is known of the spans that stand -/
structure InnOk (m:PMod) (f:PFunc) (inn:List (List PSpan)):Prop where
 ok:∀ k,k<f.code.length->inn.getD k []≠[]->LOk f.regs.toNat (inn.getD k [])
 out:∀ k,k<f.code.length->∀ t∈nextP f k,∀ out,inn.getD k []≠[]->wayP m f k t (inn.getD k [])=some out->LOk f.regs.toNat out
 cov:∀ k,k<f.code.length->∀ t∈nextP f k,∀ out,inn.getD k []≠[]->wayP m f k t (inn.getD k [])=some out->∀ v,InL out v->InH (inn.getD t.toNat []) v
 n64:∀ k,k<f.code.length->In64 (f.code.getD k default).n
 w1:f.words<=4096
theorem tok_step (hm:Fine m) (hfn:fn<m.funcs.length) (hi:InnOk m (fnAt m fn) inn) (h:TOk m (fnAt m fn) inn k fr v) (h64:In64 ans) (hs:stepR m (fnAt m fn) k v ans=some (nx,v')):0<=nx/\TOk m (fnAt m fn) inn nx.toNat k v':=by
 have hnx:=step_next hm hfn h.lt hs;have hin:=nextP_in _ _ _ hnx;have hx:=hm.ins fn k hfn h.lt;obtain⟨out,ho,hl⟩:=way_in hx (hi.n64 k h.lt) hi.w1 (hi.ok k h.lt h.inh.1) h.inh.2 h64 hs;have hw:wayP m (fnAt m fn) k nx (inn.getD k [])=some out:=ho;have e:((nx.toNat:Nat):Int)=nx:=oz
 refine⟨hin.1,oz,.step k nx.toNat h.rch (by rw[e];exact hnx),hi.cov k h.lt nx hnx out h.inh.1 hw v' hl,.inr ⟨k,rfl,h.lt,⟨h.rch,by rw[e];exact hnx⟩,h.inh.1,out,by rw[e];exact hw,hl⟩⟩
variable {l : PLoop} {g : Int}
/-- what a loop's count is known to be: A its number, B what it goes up to -/
structure LInv (m:PMod) (f:PFunc) (inn:List (List PSpan)) (l:PLoop) (k:Nat) (fr:Int) (v:List Int) (g:Int):Prop where
 le:0<=g/\g<=tripN m f inn l
 inn:fr∈l.members->(k:Int)∈l.members->if k=l.head then g+(rgAt v (f.code.getD l.head default).b-rgAt v (f.code.getD l.head default).a)<=tripN m f inn l else g+(rgAt v (f.code.getD l.head default).b-rgAt v (f.code.getD l.head default).a)<=tripN m f inn l+1/\rgAt v (f.code.getD l.head default).a<rgAt v (f.code.getD l.head default).b
theorem inl_at {r:List PSpan}{f:PFunc}(hl:LOk f.regs.toNat r) (hv:InL r v) {i:Int}(h0:0<=i) (h1:i<f.regs):SpOk (spAt r i)/\InS (spAt r i) (rgAt v i):=⟨hl.2 i.toNat oz,hv.2 i.toNat (by have:=hl.1;omega)⟩
/-- a loop that is entered -/
theorem trip_enter (hm:Fine m) (hfn:fn<m.funcs.length) (hi:InnOk m (fnAt m fn) inn) (hb:LOk (fnAt m fn).regs.toNat (beginP (fnAt m fn))) (hc:LCnt (fnAt m fn) l) (h:TOk m (fnAt m fn) inn l.head fr v) (hfr:fr∉l.members) :
 rgAt v ((fnAt m fn).code.getD l.head default).b-rgAt v ((fnAt m fn).code.getD l.head default).a<=tripN m (fnAt m fn) inn l:=by
 have hx:=hm.ins fn l.head hfn hc.hl;have H:∀ e∈edgesL (fnAt m fn),∀ out,inn.getD e.1 []≠[]->wayP m (fnAt m fn) e.1 e.2 (inn.getD e.1 [])=some out->∀ i,0<=i->i<(fnAt m fn).regs->In64 (spAt out i).lo/\In64 (spAt out i).hi:=fun e he out hne hw i h0 h1=>by
  obtain⟨y,hy,hyl,hul⟩:=edges_nat _ e he;obtain⟨u,z⟩:=e;dsimp only at *;subst hy;have:=(hi.out u hul y ((edges_mem _ u y).1 he).2.2 out hne hw).2 i.toNat oz;exact⟨this.1,this.2.1⟩
 have hbeg:LH64 (tripB (fnAt m fn) l):=by
  unfold tripB;have h0:LH64 (noSp,noSp):=⟨⟨dc,dc⟩,⟨dc,dc⟩,⟨dc,dc⟩,⟨dc,dc⟩⟩
  split
  ·have e1:=hb.2 ((fnAt m fn).code.getD l.head default).a.toNat (by have:=hx.a0;have:=hx.a1;omega);have e2:=hb.2 ((fnAt m fn).code.getD l.head default).b.toNat (by have:=hx.b0;have:=hx.b1;omega);exact come64 h0 ⟨e1.1,e1.2.1⟩ ⟨e2.1,e2.2.1⟩
  ·exact h0
 have h64:LH64 (tripTo m (fnAt m fn) inn l (edgesL (fnAt m fn))):=trips_64 H ⟨hx.a0,hx.a1⟩ ⟨hx.b0,hx.b1⟩ _ _ (fun e h=>h) hbeg;refine(len_le h64 ?_).2;rcases h.way with⟨rfl,h0,hv⟩|⟨u,rfl,hul,he,hne,out,hw,hv⟩
 ·refine trips_mono _ _ ?_;unfold tripB;rw[if_pos h0];exact⟨(inl_at hb hv hx.a0 hx.a1).2.join2,(inl_at hb hv hx.b0 hx.b1).2.join2⟩
 ·have hok:=hi.out u hul _ he.2 out hne hw;refine trips_has (e:=(u,(l.head:Int))) rfl ?_ hne hw (inl_at hok hv hx.a0 hx.a1).2 (inl_at hok hv hx.b0 hx.b1).2 _ _ ((edges_mem _ u l.head).2 ⟨hul,he⟩);cases e:l.members.contains ((u:Nat):Int)with
  | false=>rfl
  | true=>exact absurd (List.contains_iff_mem.1 e) hfr
/-- at the head: the count goes on at most so many times -/
theorem linv_head (hm:Fine m) (hfn:fn<m.funcs.length) (hi:InnOk m (fnAt m fn) inn) (hb:LOk (fnAt m fn).regs.toNat (beginP (fnAt m fn))) (hc:LCnt (fnAt m fn) l) (h:TOk m (fnAt m fn) inn k fr v) (hk:k=l.head) (hg:LInv m (fnAt m fn) inn l k fr v g) :
 0<=(if fr∈l.members then g else 0)/\(if fr∈l.members then g else 0)<=tripN m (fnAt m fn) inn l /\
 ∀ nx v',stepR m (fnAt m fn) k v ans=some (nx,v') ->
  (nx=(k:Int)+1/\((fnAt m fn).code.getD k default).n≠nx->LInv m (fnAt m fn) inn l nx.toNat k v' ((if fr∈l.members then g else 0)+1)) /\
  (¬(nx=(k:Int)+1/\((fnAt m fn).code.getD k default).n≠nx)->LInv m (fnAt m fn) inn l nx.toNat k v' (if fr∈l.members then g else 0)):=by
 subst hk;have hx:=hm.ins fn l.head hfn hc.hl;have hmh:(l.head:Int)∈l.members:=(hc.mem l.head).2 ⟨hc.hl,member_head⟩;have hg0:(if fr∈l.members then g else 0)+(rgAt v ((fnAt m fn).code.getD l.head default).b-rgAt v ((fnAt m fn).code.getD l.head default).a)<=tripN m (fnAt m fn) inn l:=by
  by_cases hf:fr∈l.members
  ·rw[if_pos hf];have:=hg.inn hf hmh;rw[if_pos rfl]at this;exact this
  ·rw[if_neg hf];have:=trip_enter hm hfn hi hb hc h hf;omega
 have hnn:0<=tripN m (fnAt m fn) inn l:=len_nn _;have hgl:=hg.le;have hle:0<=(if fr∈l.members then g else 0)/\(if fr∈l.members then g else 0)<=tripN m (fnAt m fn) inn l:=by split<;>omega
 refine⟨hle.1,hle.2,fun nx v' hs=>?_⟩;generalize (if fr∈l.members then g else 0)=g0 at *;have hnx:=nextP_in _ _ _ (step_next hm hfn hc.hl hs);obtain⟨rfl,hnx2⟩:v'=v/\nx=(if rgAt v ((fnAt m fn).code.getD l.head default).b<=rgAt v ((fnAt m fn).code.getD l.head default).a then((fnAt m fn).code.getD l.head default).n else(l.head:Int)+1):=by
  have ho:=hc.op;rcases insR_inv hx.op0 hx.op1 hs with⟨y,_,_,h⟩|⟨_,_,h⟩|⟨h,_⟩|⟨h,_⟩|⟨_,h1,h2⟩|⟨h,_⟩
  ·omega
  ·omega
  ·omega
  ·omega
  ·exact⟨h1,h2⟩
  ·omega
 have hex:=hc.ex;generalize hA:rgAt v' ((fnAt m fn).code.getD l.head default).a=xa at *;generalize hB:rgAt v' ((fnAt m fn).code.getD l.head default).b=xb at *;constructor
 ·rintro⟨e1,e2⟩;have hlt:xa<xb:=by
   refine Decidable.byContradiction fun hn=>?_;rw[if_pos (by omega)]at hnx2;exact e2 hnx2.symm
  refine⟨oz,fun _ _=>?_⟩;rw[if_neg (by omega),hA,hB];omega
 ·intro hn;refine⟨hle,fun _ hmem=>?_⟩;exfalso;rw[Int.toNat_of_nonneg hnx.1]at hmem;by_cases hlt:xb<=xa
  ·rw[if_pos hlt]at hnx2;rw[hnx2]at hmem;exact hex hmem
  ·rw[if_neg hlt]at hnx2;refine hn ⟨hnx2,fun e=>?_⟩;rw[<-e]at hmem;exact hex hmem
/-- elsewhere -/
theorem linv_other (hm:Fine m) (hfn:fn<m.funcs.length) (hi:InnOk m (fnAt m fn) inn) (hc:LCnt (fnAt m fn) l) (h:TOk m (fnAt m fn) inn k fr v) (hk:k≠l.head) (hg:LInv m (fnAt m fn) inn l k fr v g) (hs:stepR m (fnAt m fn) k v ans=some (nx,v')) :
 LInv m (fnAt m fn) inn l nx.toNat k v' g:=by
 have hx:=hm.ins fn k hfn h.lt;have hhd:=hm.ins fn l.head hfn hc.hl;have hnm:=step_next hm hfn h.lt hs;have hnx:=nextP_in _ _ _ hnm;have e9:((nx.toNat:Nat):Int)=nx:=oz
 have hedge:EdgeP (fnAt m fn) k nx.toNat:=⟨h.rch,by rw[e9];exact hnm⟩
 refine⟨hg.le,fun h1 h2=>?_⟩;have hin:=(hc.mem k).1 h1;have hfr:fr∈l.members:=by
  rcases h.way with⟨_,h0,_⟩|⟨u,rfl,hul,he,_⟩
  ·subst h0;exact absurd (member_zero hin.2).symm hk
  ·exact(hc.mem u).2 ⟨hul,member_pred hul hin.2 hk he⟩
 have hgo:=hg.inn hfr h1;rw[if_neg hk]at hgo;have hwr:=hc.wr k h1;have hinn2:=(hc.mem nx.toNat).1 h2;have hB:rgAt v' ((fnAt m fn).code.getD l.head default).b=rgAt v ((fnAt m fn).code.getD l.head default).b:=by
  refine step_same hx.op0 hx.op1 hs hhd.b0 hx.a0 (fun e=>?_);exact(hwr (by rw[e];exact hhd.b0)).2 e
 rw[hB];by_cases hn:nx.toNat=l.head
 ·rw[if_pos hn];rw[hn]at hedge;have hback:=member_back h.lt hin.2 hedge;obtain⟨b1,b2⟩:=hc.bk k hback;have hx18:v'=v.set ((fnAt m fn).code.getD k default).a.toNat (wrap64 (rgAt v ((fnAt m fn).code.getD k default).a+1)):=by
   rcases insR_inv hx.op0 hx.op1 hs with⟨y,_,_,h⟩|⟨_,_,h⟩|⟨_,_,h⟩|⟨h,_⟩|⟨h,_⟩|⟨h,_⟩
   ·omega
   ·omega
   ·exact h
   ·omega
   ·omega
   ·omega
  have hok:=inl_at (hi.ok k h.lt h.inh.1) h.inh.2 hhd.a0 hhd.a1;have hok2:=inl_at (hi.ok k h.lt h.inh.1) h.inh.2 hhd.b0 hhd.b1;have hlen:((fnAt m fn).code.getD l.head default).a.toNat<v.length:=by
   have e1:=h.inh.2.1;have e2:=(hi.ok k h.lt h.inh.1).1;have:=hhd.a0;have:=hhd.a1;omega
  have hA:rgAt v' ((fnAt m fn).code.getD l.head default).a=rgAt v ((fnAt m fn).code.getD l.head default).a+1:=by
   rw[hx18,b2];unfold rgAt;rw[getD_setL,if_pos ⟨rfl,hlen⟩];refine w64 ?_;have:=hok.1.1;have:=hok2.1.2.1;have:=hok.2.1;have:=hok2.2.2;have:=hgo.2;unfold rgAt at *;unfold In64 at *;omega
  rw[hA];omega
 ·rw[if_neg hn];have hA:rgAt v' ((fnAt m fn).code.getD l.head default).a=rgAt v ((fnAt m fn).code.getD l.head default).a:=by
   refine step_same hx.op0 hx.op1 hs hhd.a0 hx.a0 (fun e=>hn ?_);have hb:=(hwr (by rw[e];exact hhd.a0)).1 e;have ho:=(hc.bk k hb).1;have he2:=((edges_mem _ k l.head).1 (back_mem.1 hb).1).2.2;have hraw:∀ t∈nextP (fnAt m fn) k,t=((fnAt m fn).code.getD k default).n:=fun t ht=>by
    unfold nextP nextTo at ht;obtain⟨i,hi2,rfl⟩:=List.mem_map.1 ht;have h9:=List.mem_range.1 (List.mem_filter.1 hi2).1;have e:rawN ((fnAt m fn).code.getD k default) k=[((fnAt m fn).code.getD k default).n]:=by unfold rawN;rw[if_neg (by omega),if_pos (.inr ho)]
    rw[e]at h9 ⊢;obtain rfl:i=0:=by simpa using h9
    rfl
   have q1:=hraw _ he2;have q2:=hraw _ hnm;omega
  rw[hA];exact hgo
end
end
def afterOk (ops:Array Oper):Bool:=(List.range ops.size).all fun i=>match ops[i]? with|some o=>o.after.all fun e=>decide (e.on<i)|none=>true
theorem region_inv {P:Program}{ops:Array Oper}{Q:Exit->Act->World->Prop}{id:Nat}{a:Act}{w:World}(hm:P.follows .mixedOrders=true) (hord:afterOk ops=true)
 (Inv:Array Bool->Act->World->Prop) (h0:Inv (Array.replicate ops.size false) a w.drew)
 (hstep:∀ (i:Nat) (o:Oper) (listed:Array Bool) (a:Act) (w:World),ops[i]? = some o->listed.size=ops.size->listed.getD i true=false->(∀ e∈o.after,Region.binds .any e=true->listed.getD e.on false=true)->Inv listed a w->wpOp P ops Q i (fun a' w'=>Inv (listed.setIfInBounds i true) a' w') a w)
 (hend:∀ listed a w,(∀ i,i<ops.size->listed.getD i false=true)->Inv listed a w->Q .normal a w):(Code.region id ops true).wp P Q a w:=by
 refine wp_region_any hm ?_;have hall:∀ listed:Array Bool,listed.size=ops.size->Region.ready .any ops listed=[]->∀ i,i<ops.size->listed.getD i false=true:=fun listed hs hr i=>by
  induction i using Nat.strongRecOn with
  | ind i ih =>
   intro hi;refine Classical.byContradiction fun hn=>?_;have h1:listed.getD i true=false:=by
    have hlt:i<listed.size:=oz
    simp only[Array.getD,hlt,dif_pos]at hn ⊢;simpa using hn
   have h2:i∈Region.ready .any ops listed:=by
    refine mem_ready.2 ⟨h1,ops[i]'hi,Array.getElem?_eq_getElem hi,fun e he _=>?_⟩;have h3:e.on<i:=by
     unfold afterOk at hord;have h4:=List.all_eq_true.1 hord i (List.mem_range.2 hi);rw[Array.getElem?_eq_getElem hi]at h4;have h5:=Array.all_eq_true_iff_forall_mem.1 h4 e he;simpa using h5
    exact ih e.on h3 oz
   rw[hr]at h2;cases h2
 have key:∀ (fuel:Nat) (listed:Array Bool) (a:Act) (w:World),listed.size=ops.size->(sumN ops.size fun i=>if listed.getD i true then 0 else 1)<=fuel->Inv listed a w->wpAny P .any ops Q fuel listed a w:=by
  intro fuel
  induction fuel with
  | zero =>
   intro listed a w hs hc hi;have hr:Region.ready .any ops listed=[]:=by
    cases hr:Region.ready .any ops listed with
    | nil=>rfl
    | cons j l =>
     exfalso;have hj:j∈Region.ready .any ops listed:=by rw[hr];simp
     obtain⟨h1,o,ho,_⟩:=mem_ready.1 hj;have hlt:j<ops.size:=(Array.getElem?_eq_some_iff.1 ho).1;have h2:=sumN_upd (f:=fun i=>if listed.getD i true then 0 else 1) (g:=fun i=>if i=j then 0 else if listed.getD i true then 0 else 1) ops.size hlt (fun k hk=>by rw[if_neg hk]);rw[h1,if_pos rfl]at h2;have e:(if false=true then 0 else 1:Nat)=1:=rfl;rw[e]at h2;omega
   exact⟨hr,hend listed a w (hall listed hs hr) hi⟩
  | succ fuel ih =>
   intro listed a w hs hc hi;refine⟨fun hr=>hend listed a w (hall listed hs hr) hi,fun j hj=>?_⟩;obtain⟨h1,o,ho,h3⟩:=mem_ready.1 hj;have hlt:j<ops.size:=(Array.getElem?_eq_some_iff.1 ho).1;refine wpOp_mono (fun a' w' h=>ih _ a' w' (by simpa using hs) ?_ h) (hstep j o listed a w ho hs h1 h3 hi);have h2:=sumN_upd (f:=fun i=>if(listed.setIfInBounds j true).getD i true then 0 else 1) (g:=fun i=>if listed.getD i true then 0 else 1) ops.size hlt (fun k hk=>by rw[getD_set_ne true (fun e=>hk e.symm)]);rw[h1]at h2;have h4:(listed.setIfInBounds j true).getD j true=true:=by
    have hlt2:j<(listed.setIfInBounds j true).size:=by simp;omega
    simp[Array.getD,hlt2]
   rw[h4]at h2;have e:(if false=true then 0 else 1:Nat)=1:=rfl;have e2:(if true=true then 0 else 1:Nat)=0:=rfl;rw[e,e2]at h2;omega
 refine key ops.size _ a w.drew si ?_ h0;have:=sumN_le (f:=fun i=>if(Array.replicate ops.size false).getD i true=true then 0 else 1) (m:=1) ops.size (fun k _=>by split<;>omega);omega
def ClosedL (ops:Array Oper) (L:Array Bool):Prop:=∀ (i:Nat) (o:Oper),ops[i]? = some o->L.getD i false=true->∀ e∈o.after,Region.binds .any e=true->L.getD e.on false=true
/-- .. and what has come waits for nothing that hasn't -/
theorem region_inv2 {P:Program}{ops:Array Oper}{Q:Exit->Act->World->Prop}{id:Nat}{a:Act}{w:World}(hm:P.follows .mixedOrders=true) (hord:afterOk ops=true)
 (Inv:Array Bool->Act->World->Prop) (h0:Inv (Array.replicate ops.size false) a w.drew)
 (hstep:∀ (i:Nat) (o:Oper) (listed:Array Bool) (a:Act) (w:World),ops[i]? = some o->i<listed.size->listed.getD i false≠true->(∀ e∈o.after,Region.binds .any e=true->listed.getD e.on false=true)->ClosedL ops listed->Inv listed a w->wpOp P ops Q i (fun a' w'=>Inv (listed.setIfInBounds i true) a' w') a w)
 (hend:∀ listed a w,(∀ i,i<ops.size->listed.getD i false=true)->Inv listed a w->Q .normal a w):(Code.region id ops true).wp P Q a w:=by
 have hset:∀ (L:Array Bool) (i j:Nat),L.getD j false=true->(L.setIfInBounds i true).getD j false=true:=fun L i j h=>by
  by_cases e:j=i
  ·subst e;by_cases hj:j<L.size
   ·simp[Array.getD,hj]
   ·simp[Array.getD,hj]at h
  ·rw[getD_set_ne false (fun h2=>e h2.symm)];exact h
 refine region_inv hm hord (fun L a w=>Inv L a w/\ClosedL ops L) ⟨h0,fun i o _ h=>?_⟩ (fun i o L a w ho hs hl hd hI=>?_) (fun L a w hL hI=>hend L a w hL hI.1)
 ·exfalso;by_cases hi:i<ops.size<;>simp[Array.getD,hi]at h
 ·have hlt:i<L.size:=by rw[hs];exact(Array.getElem?_eq_some_iff.1 ho).1
  have hne:L.getD i false≠true:=fun h=>by
   simp only[Array.getD,hlt,dif_pos]at h hl;rw[h]at hl;cases hl
  refine wpOp_mono (fun a' w' h=>⟨h,fun j o' hj hjl e he hb=>?_⟩) (hstep i o L a w ho hlt hne hd hI.2 hI.1);by_cases ej:j=i
  ·subst ej;rw[ho]at hj;cases hj;exact hset _ _ _ (hd e he hb)
  ·rw[getD_set_ne false (fun h2=>ej h2.symm)]at hjl;exact hset _ _ _ (hI.2 j o' hj hjl e he hb)
theorem without_any (a:PSpan) (w:World):Calls Tryz.prog 86 #[spanV a] w fun e w'=>e=.returned (.tuple #[spanV (without0P a).1,.bool (without0P a).2])/\Below w.heap.size w w':=by
 obtain⟨lo,hi⟩:=a;unfold spanV without0P;dsimp only;by_cases h1:lo=0
 ·have q1:(lo==0)=true:=by simpa using h1
  by_cases h2:hi=0
  ·subst h1;subst h2;have q3:¬(1:Int) <= -1:=oz
   go_enter Tryz.func86,Tryz.ntmps86;go_upto_region 5 with(fail)
   go_region
   all_goals go_wp2
   all_goals refine flag_end (by rfl) (by rfl) (by rfl) ownbq si ?_
   all_goals exact⟨si,bel⟩
  ·have q2:(hi==0)=false:=by simpa using h2
   subst h1;rw[if_neg h2];by_cases h3:(1:Int)<=hi
   ·go_enter Tryz.func86,Tryz.ntmps86;go_upto_region 5 with(fail)
    go_region
    all_goals go_wp2
    all_goals refine flag_end (by rfl) (by rfl) (by rfl) ownbq si ?_
    all_goals exact⟨ret_sb si rfl (by simp[h3]),bel⟩
   ·go_enter Tryz.func86,Tryz.ntmps86;go_upto_region 5 with(fail)
    go_region
    all_goals go_wp2
    all_goals refine flag_end (by rfl) (by rfl) (by rfl) ownbq si ?_
    all_goals exact⟨ret_sb si rfl (by simp[h3]),bel⟩
 ·have q1:(lo==0)=false:=by simpa using h1
  rw[if_neg h1];by_cases h2:hi=0
  ·subst h2;by_cases h3:lo <= -1
   ·go_enter Tryz.func86,Tryz.ntmps86;go_upto_region 5 with(fail)
    go_region
    all_goals go_wp2
    all_goals refine flag_end (by rfl) (by rfl) (by rfl) ownbq si ?_
    all_goals exact⟨ret_sb rfl si (by simp[h3]),bel⟩
   ·go_enter Tryz.func86,Tryz.ntmps86;go_upto_region 5 with(fail)
    go_region
    all_goals go_wp2
    all_goals refine flag_end (by rfl) (by rfl) (by rfl) ownbq si ?_
    all_goals exact⟨ret_sb rfl si (by simp[h3]),bel⟩
  ·have q2:(hi==0)=false:=by simpa using h2
   rw[if_neg h2];by_cases h3:lo<=hi
   ·go_enter Tryz.func86,Tryz.ntmps86;go_upto_region 5 with(fail)
    go_region
    all_goals go_wp2
    all_goals refine flag_end (by rfl) (by rfl) (by rfl) ownbq si ?_
    all_goals exact⟨ret_sb rfl rfl (by simp[h3]),bel⟩
   ·go_enter Tryz.func86,Tryz.ntmps86;go_upto_region 5 with(fail)
    go_region
    all_goals go_wp2
    all_goals refine flag_end (by rfl) (by rfl) (by rfl) ownbq si ?_
    all_goals exact⟨ret_sb rfl rfl (by simp[h3]),bel⟩
theorem wrap64_eq (n:Int):wrap64 n=IntKind.i64.wrap n:=by
 unfold IntKind.wrap wrap64 IntKind.signed IntKind.bits;simp;omega
theorem words_any (n many:Int) (w:World):Calls Tryz.prog 87 #[.int .i64 n,.int .i64 many] w fun e w'=>e=.returned (.tuple #[spanV (wordsP n many).1,.bool (wordsP n many).2])/\Below w.heap.size w w':=by
 unfold spanV wordsP;by_cases h1:n = -9223372036854775808
 ·have q1:(n == -9223372036854775808)=true:=by simpa using h1
  rw[if_pos h1];dsimp only;go_enter Tryz.func87,Tryz.ntmps87;go_wp2
  all_goals refine flag_end (by rfl) (by rfl) (by rfl) ownbq si ?_
  all_goals exact⟨rfl,bel⟩
 ·have q1:(n == -9223372036854775808)=false:=by simpa using h1
  rw[if_neg h1];unfold wordsHi;dsimp only;by_cases h2:n<0
  ·by_cases h3:wrap64 (wrap64 (many-1)-n)<wrap64 (-n)
   ·by_cases h4:0<many
    ·rw[if_pos ⟨h2,h3,h4⟩];have h9:wrap64 (-n)<=9223372036854775807:=(wrap64_In _).2;go_enter Tryz.func87,Tryz.ntmps87;go_upto_region 6 with(fail)
     go_region
     all_goals go_wp2
     all_goals refine flag_end (by rfl) (by rfl) (by rfl) ownbq si ?_
     all_goals exact⟨ret_sb rfl rfl (by simp[h9]),bel⟩
    ·rw[if_neg (fun h=>h4 h.2.2)];have h9:¬wrap64 (-n)<=wrap64 (wrap64 (many-1)-n):=oz
     go_enter Tryz.func87,Tryz.ntmps87;go_upto_region 6 with(fail)
     go_region
     all_goals go_wp2
     all_goals refine flag_end (by rfl) (by rfl) (by rfl) ownbq si ?_
     all_goals exact⟨ret_sb rfl rfl (by simp[h9]),bel⟩
   ·rw[if_neg (fun h=>h3 h.2.1)];have h9:wrap64 (-n)<=wrap64 (wrap64 (many-1)-n):=oz
    go_enter Tryz.func87,Tryz.ntmps87;go_upto_region 6 with(fail)
    go_region
    all_goals go_wp2
    all_goals refine flag_end (by rfl) (by rfl) (by rfl) ownbq si ?_
    all_goals exact⟨ret_sb rfl rfl (by simp[h9]),bel⟩
  ·rw[if_neg (fun h=>h2 h.1)];by_cases h9:wrap64 (-n)<=wrap64 (wrap64 (many-1)-n)
   ·go_enter Tryz.func87,Tryz.ntmps87;go_upto_region 6 with(fail)
    go_region
    all_goals go_wp2
    all_goals refine flag_end (by rfl) (by rfl) (by rfl) ownbq si ?_
    all_goals exact⟨ret_sb rfl rfl (by simp[h9]),bel⟩
   ·go_enter Tryz.func87,Tryz.ntmps87;go_upto_region 6 with(fail)
    go_region
    all_goals go_wp2
    all_goals refine flag_end (by rfl) (by rfl) (by rfl) ownbq si ?_
    all_goals exact⟨ret_sb rfl rfl (by simp[h9]),bel⟩
theorem away_pre {B:Nat}{hh:HF}{f:PFunc}{frm:Nat}{x:PIns}{w:World}(hB:B<=w.heap.size) (hf:FuncOk B w hh f) (hfl:frm<f.code.length) (hn1:f.code.length<=1024) (hx:f.code.getD frm default=x):∃ pa pl pc cb co cc,hh=⟨pa,pl,pc,some ⟨cb,co,none⟩,f.code.length,cc⟩/\f.code.length<=maxLen/\cb<B /\
 (w.cell? ⟨cb,co+frm*5,none⟩=some (.int .i64 x.op)/\w.cell? ⟨cb,co+frm*5+1,none⟩=some (.int .i64 x.a)/\w.cell? ⟨cb,co+frm*5+2,none⟩=some (.int .i64 x.b)/\w.cell? ⟨cb,co+frm*5+3,none⟩=some (.int .i64 x.c)/\w.cell? ⟨cb,co+frm*5+4,none⟩=some (.int .i64 x.n)) /\
 cb<w.heap.size/\cb<w.heap.size+1/\cb<w.heap.size+1+1/\cb<w.heap.size+1+1+1/\(frm:Int)<(f.code.length:Int)/\IntKind.i64.wrap ((frm:Int)+1)=(frm:Int)+1:=by
 obtain⟨pa,pl,pc,ca,cl,cc⟩:=hh;obtain⟨h1,h2,⟨hcl,hcm,cb,co,hcb,hcells⟩,h4,h5⟩:=hf;dsimp only at *;subst hcl;obtain⟨rfl,hcB⟩:=hcb oz;obtain⟨g,-⟩:=hcells frm hfl;rw[hx]at g;exact⟨pa,pl,pc,cb,co,cc,rfl,hcm,hcB,g,oz,oz,oz,oz,oz,IntWalk.i64_in _ oz⟩
section
theorem flat2 {α:Type}(f:α->List Value) (hf:∀ a,(f a).length=2):∀ (l:List α) (i c:Nat),c<2->(l.flatMap f)[i*2+c]? = (l[i]?).bind fun a=>(f a)[c]?
 | [],i,c,hc=>by simp
 | a::l,0,c,hc=>by
  rw[List.flatMap_cons,List.getElem?_append_left (by rw[hf];omega)];simp
 | a::l,i+1,c,hc=>by
  rw[List.flatMap_cons,List.getElem?_append_right (by rw[hf];omega),hf,show(i+1)*2+c-2=i*2+c by omega,flat2 f hf l i c hc];simp
def spCell (p:PSpan):List Value:=[.int .i64 p.lo,.int .i64 p.hi]
def spCells (r:List PSpan):List Value:=r.flatMap spCell
theorem spCells_len (r:List PSpan):(spCells r).length=r.length*2:=by
 unfold spCells
 induction r with
 | nil=>rfl
 | cons a l ih=>rw[List.flatMap_cons,List.length_append,ih];simp[spCell];omega
theorem spCells_at (r:List PSpan) (i c:Nat) (hc:c<2):(spCells r)[i*2+c]? = (r[i]?).bind fun t=>(spCell t)[c]? := flat2 spCell (fun _=>rfl) r i c hc
theorem spCells_append (r s:List PSpan):spCells (r++s)=spCells r++spCells s:=by simp[spCells]
theorem spCells_set (r:List PSpan) (i:Nat) (p:PSpan) (hi:i<r.length):((spCells r).set (i*2) (.int .i64 p.lo)).set (i*2+1) (.int .i64 p.hi)=spCells (r.set i p):=by
 apply List.ext_getElem?;intro n;have hn:n=n / 2*2+n%2:=oz
 have hl:=spCells_len r;by_cases e:n=i*2+1
 ·subst e;rw[List.getElem?_set_self (by rw[List.length_set];omega),spCells_at _ _ _ (by omega),List.getElem?_set_self hi];rfl
 ·rw[List.getElem?_set_ne (by omega)];by_cases e2:n=i*2
  ·subst e2;have h0:=spCells_at (r.set i p) i 0 oz;rw[Nat.add_zero]at h0;rw[List.getElem?_set_self (by omega),h0,List.getElem?_set_self hi];rfl
  ·rw[List.getElem?_set_ne (by omega),hn,spCells_at _ _ _ (by omega),spCells_at _ _ _ (by omega),List.getElem?_set_ne (by omega)]
theorem spCells_one (r:List PSpan):∀ v∈spCells r,v.oneCell'=true:=by
 intro v hv;obtain⟨p,_,hp⟩:=List.mem_flatMap.1 hv;simp[spCell]at hp;rcases hp with rfl|rfl<;>rfl
/-- a row of spans of one's own; of its capacity nothing is asked -/
def SpRow (W:World) (b n c:Nat) (r:List PSpan):Prop:=∃ c',W.ownsRow 0 47 2 (.slice (some ⟨b,0,none⟩) n c') n (spCells r)
section
variable {W W' : World} {b n c : Nat} {r : List PSpan}
theorem SpRow.of {c':Nat}(h:W.ownsRow 0 47 2 (.slice (some ⟨b,0,none⟩) n c') n (spCells r)):SpRow W b n c r:=⟨c',h⟩
theorem SpRow.len (h:SpRow W b n c r):r.length=n:=by obtain⟨c',h⟩:=h;have:=h.1;rw[spCells_len]at this;omega
theorem SpRow.lt (h:SpRow W b n c r):b<W.heap.size:=by obtain⟨c',h⟩:=h;exact row_lt h rfl
theorem SpRow.chg {S:Nat->Prop}(h:SpRow W b n c r) (hc:Chg S W W') (hs:¬S b):SpRow W' b n c r:=by
 obtain⟨c',h⟩:=h;exact⟨c',row_chg hc h (fun k hk e=>hs (by have:b=k:=ob1 hk;subst this;exact e))⟩
theorem SpRow.below (h:SpRow W b n c r) (hc:Below W.heap.size W W'):SpRow W' b n c r:=by obtain⟨c',h⟩:=h;exact⟨c',row_below hc h⟩
theorem SpRow.cells (h:SpRow W b n c r) {i:Nat}(hi:i<n):W.cell? ⟨b,i*2,none⟩=some (.int .i64 (r.getD i default).lo)/\W.cell? ⟨b,i*2+1,none⟩=some (.int .i64 (r.getD i default).hi)/\W.frozen? ⟨b,i*2,none⟩=false/\W.frozen? ⟨b,i*2+1,none⟩=false:=by
 have hl:=h.len;obtain⟨c',h⟩:=h;have e:r[i]? = some (r.getD i default):=by rw[List.getD_eq_getElem?_getD,List.getElem?_eq_getElem (by omega)];rfl
 have h0:=spCells_at r i 0 oz;rw[Nat.add_zero]at h0;exact⟨row_cell h (by rw[h0,e];rfl),row_cell h (by rw[spCells_at r i 1 (by omega),e];rfl),h.frozenAt _,h.frozenAt _⟩
theorem SpRow.set (h:SpRow W b n c r) {i:Nat}(hi:i<n) (p:PSpan):SpRow ((W.setCell ⟨b,i*2,none⟩ (.int .i64 p.lo)).setCell ⟨b,i*2+1,none⟩ (.int .i64 p.hi)) b n c (r.set i p):=by
 have hl:=h.len;obtain⟨c',h⟩:=h;have h1:=row_set (row_set h (i*2) (.int .i64 p.lo)) (i*2+1) (.int .i64 p.hi);rw[spCells_set r i p (by omega)]at h1;exact⟨c',h1⟩
end
theorem chg2 (W:World) (b x y:Nat) (u v:Value):Chg (· = b) W ((W.setCell ⟨b,x,none⟩ u).setCell ⟨b,y,none⟩ v) :=
 Chg.setCell (S:=(· = b)) (Chg.setCell (S:=(· = b)) (Chg.refl _ _) (p:=⟨b,x,none⟩) (Or.inl rfl) _) (p:=⟨b,y,none⟩) (Or.inl rfl) _
theorem meet_is (a b:PSpan) (w:World):Calls Tryz.prog 84 #[.agg #[.int .i64 a.lo,.int .i64 a.hi],.agg #[.int .i64 b.lo,.int .i64 b.hi]] w fun e w'=>∃ v,e=.returned v/\v=.tuple #[.agg #[.int .i64 (meetQ a b).1.lo,.int .i64 (meetQ a b).1.hi],.bool (meetQ a b).2]/\Below w.heap.size w w' :=
 (smeet_any a b w).mono (by rintro e w' ⟨rfl,h⟩;exact⟨_,rfl,rfl,h⟩)
theorem meets_any (i:Nat) (a:PSpan) (rb b n c:Nat) (r:List PSpan) (w:World) (ho:Own w rb [.slice (some ⟨b,0,none⟩) n c]) (hr:SpRow w b n c r) (hi:i<n) (hne:b≠rb) (hn:n<=64) :
 Calls Tryz.prog 83 #[.int .i64 i,spanV a,.pointer (some ⟨rb,0,none⟩)] w fun e w'=>e=.returned (.bool (meetR r i a).2)/\SpRow w' b n c (meetR r i a).1/\Chg (· = b) w w':=by
 obtain⟨lo,hi'⟩:=a;have hcf:∀ (args:Array Value) (w:World),(callFunc 84 args).run Tryz.prog w=.ok (.enter 84 args) w:=fun _ _=>rfl;unfold meetR spanV;dsimp only;have HM:=qd (fun w=>meet_is (r.getD i default) ⟨lo,hi'⟩ w);have HO:=qd ho;have HR:=qd hr;obtain⟨r0,r1,r2,r3⟩:=hr.cells hi;obtain⟨o0,o1,o2⟩:=own1 ho;have hbl:=hr.lt;generalize meetQ (r.getD i default) ⟨lo,hi'⟩=mq at *;obtain⟨⟨mlo,mhi⟩,mb⟩:=mq;obtain⟨p,hp⟩:∃ p,r.getD i default=p:=⟨_,rfl⟩
 rw[hp]at HM r0 r1;obtain⟨plo,phi⟩:=p;dsimp only at HM r0 r1 ⊢;have hii:(i:Int)<(n:Int):=oz
 clear ho hr;go_enter Tryz.func83,Tryz.ntmps83;go_upto_region 1 with(fail)
 generalize hW0:World.alloc _ _=W0;have hb0:Below w.heap.size w W0:=by rw[<-hW0];exact bel
 have OA:Own W0 w.heap.size [.int .i64 lo,.int .i64 hi']:=by rw[<-hW0];exact Own.new _ _ _
 have hz0:w.heap.size<W0.heap.size:=OA.1;clear hW0 r0 r1 r2 r3 o0 o1 o2;have hrb:rb<w.heap.size:=HO.out.1;have HSS:Hid (∀ w',Below W0.heap.size W0 w'->w'.cell? ⟨rb,0,none⟩=some (.slice (some ⟨b,0,none⟩) n c)/\w'.cell? ⟨b,i*2,none⟩=some (.int .i64 plo)/\w'.cell? ⟨b,i*2+1,none⟩=some (.int .i64 phi)/\w'.cell? ⟨w.heap.size,0,none⟩=some (.int .i64 lo)/\w'.cell? ⟨w.heap.size,1,none⟩=some (.int .i64 hi')):=qd (fun w' hw=>by
  obtain⟨o0,o1,o2⟩:=own1 ((HO.out.below hb0).below hw);obtain⟨r0,r1,r2,r3⟩:=((HR.out.below hb0).below hw).cells hi;obtain⟨a0,a1,a2,a3,a4⟩:=own2 (OA.below hw);rw[hp]at r0 r1;exact⟨o1,r0,r1,a1,a2⟩)
 have HOA:=qd OA;clear OA;go_cut [6,7] (fun v6 v7 wc=>∃ k:Nat,v6=.pointer (some ⟨k,0,none⟩)/\v7=.bool mb/\Hid (Own wc k [.int .i64 mlo,.int .i64 mhi])/\Below W0.heap.size W0 wc/\W0.heap.size<=k)
 case first =>
  go_region_held3 (fun w'=>w'.cell? ⟨rb,0,none⟩=some (.slice (some ⟨b,0,none⟩) n c)/\w'.cell? ⟨b,i*2,none⟩=some (.int .i64 plo)/\w'.cell? ⟨b,i*2+1,none⟩=some (.int .i64 phi)/\w'.cell? ⟨w.heap.size,0,none⟩=some (.int .i64 lo)/\w'.cell? ⟨w.heap.size,1,none⟩=some (.int .i64 hi')) (exact HSS.out _ bel)
   (first
   | (refine step_callF rfl 84 [.tmp 12,.tmp 13] #[47,47] rfl hcf [.agg #[.int .i64 plo,.int .i64 phi],.agg #[.int .i64 lo,.int .i64 hi']] rfl _ (HM.out _) ?_;rintro v wM ⟨rfl,hbM⟩;have hwM:Below W0.heap.size W0 wM:=bel;have hzM:=hwM.size;(try(have pM:=Own.below (Own.drew (Own.new' W0 [.int .i64 0,.int .i64 0] 47 W0.heap.size rfl)) (by with_reducible exact hbM);have oM:=own2 pM))))
  all_goals go_wp2
  all_goals go_meet
  all_goals first
   | exact⟨wM.heap.size,rfl,rfl,qd (Own.new _ _ _),bel,hzM⟩
   | exact⟨W0.heap.size,rfl,rfl,qd ((pM.set 0 _ si).set 1 _ si),bel,Nat.le_refl _⟩
 case rest =>
  obtain⟨k,rfl,rfl,OK,hbc,hkl⟩:=hcut;obtain⟨k0,k1,k2,k3,k4⟩:=own2 OK.out;obtain⟨o0,o1,o2⟩:=own1 ((HO.out.below hb0).below hbc);have HR2:=qd ((HR.out.below hb0).below hbc);obtain⟨r0,r1,r2,r3⟩:=HR2.out.cells hi;have hzc:=hbc.size;go_wp2;go_ret;go_light;refine⟨rfl,HR2.out.set hi ⟨mlo,mhi⟩,?_⟩;exact((Chg.of (hb0.trans (hbc.mono oz))).trans (chg2 _ _ _ _ _ _))
end
section
/-- where it stands; tg: whose a block is (0: nobody's, 1 the state's, 2 to 5 the four rows', 6 + 2 v the spans' at v, 7 + 2 v the changes' at v) -/
structure BAd where
 k:Nat
 ib:Nat
 ic:Nat
 cb:Nat
 cc:Nat
 mb:Nat
 mc:Nat
 jb:Nat
 jc:Nat
 iv:Nat->Option (Nat×Nat)
 cv:Nat->Nat×Nat
 tg:Nat->Nat
def ivVal (regs:Nat) (o:Option (Nat×Nat)):Value:=match o with|none=>.slice none 0 0|some p=>.slice (some ⟨p.1,0,none⟩) regs p.2
def cvVal (regs:Nat) (p:Nat×Nat):Value:=.slice (some ⟨p.1,0,none⟩) regs p.2
def BAd.cells (A:BAd) (n:Nat):List Value:=[.slice (some ⟨A.ib,0,none⟩) n A.ic,.slice (some ⟨A.cb,0,none⟩) n A.cc,.slice (some ⟨A.mb,0,none⟩) n A.mc,.slice (some ⟨A.jb,0,none⟩) n A.jc]
def ivCells (n regs:Nat) (iv:Nat->Option (Nat×Nat)):List Value:=(List.range n).map fun v=>ivVal regs (iv v)
def cvCells (n regs:Nat) (cv:Nat->Nat×Nat):List Value:=(List.range n).map fun v=>cvVal regs (cv v)
structure BAt (N:Nat) (W:World) (A:BAd) (n regs:Nat) (s:PBS):Prop where
 st:Own W A.k (A.cells n)
 ri:W.ownsRow 0 39 1 (.slice (some ⟨A.ib,0,none⟩) n A.ic) n (ivCells n regs A.iv)
 rc:W.ownsRow 0 50 1 (.slice (some ⟨A.cb,0,none⟩) n A.cc) n (cvCells n regs A.cv)
 rm:W.ownsRow 0 4 1 (.slice (some ⟨A.mb,0,none⟩) n A.mc) n (Bools s.mrk)
 rj:W.ownsRow 0 3 1 (.slice (some ⟨A.jb,0,none⟩) n A.jc) n (Nums s.jn)
 ei:∀ v,v<n->(A.iv v=none/\s.inn.getD v []=[])\/∃ b c,A.iv v=some (b,c)/\SpRow W b regs c (s.inn.getD v [])/\A.tg b=6+2*v
 ec:∀ v,v<n->W.ownsRow 0 3 1 (cvVal regs (A.cv v)) regs (Nums (s.chg.getD v []))/\A.tg (A.cv v).1=7+2*v
 tk:A.tg A.k=1
 ti:A.tg A.ib=2
 tc:A.tg A.cb=3
 tm:A.tg A.mb=4
 tj:A.tg A.jb=5
 fr:∀ b,W.heap.size<=b->A.tg b=0
 lo:∀ b,A.tg b≠0->N<=b
 li:s.inn.length=n
 lc:s.chg.length=n
section
variable {N : Nat} {W W' : World} {A : BAd} {n regs : Nat} {s : PBS} {S : Nat -> Prop}
theorem BAt.lm (h:BAt N W A n regs s):s.mrk.length=n:=by have:=h.rm.1;simpa[Bools]using this
theorem BAt.lj (h:BAt N W A n regs s):s.jn.length=n:=by have:=h.rj.1;simpa[Nums]using this
theorem rowB_chg {e size n b c m:Nat}{xs:List Value}(hc:Chg S W W') (h:W.ownsRow 0 e size (.slice (some ⟨b,0,none⟩) n c) m xs) (hb:¬S b):W'.ownsRow 0 e size (.slice (some ⟨b,0,none⟩) n c) m xs :=
 row_chg hc h (fun k hk e=>hb (by have:b=k:=ob1 hk;subst this;exact e))
/-- what others write leaves it -/
theorem BAt.keep (h:BAt N W A n regs s) (hc:Chg S W W') (hS:∀ x,S x->A.tg x=0):BAt N W' A n regs s:=by
 have no:∀ (b t:Nat),A.tg b=t->t≠0->¬S b:=fun b t hb ht e=>ht (by rw[<-hb,hS b e]);refine⟨hc.own h.st (no _ _ h.tk oz),rowB_chg hc h.ri (no _ _ h.ti oz),rowB_chg hc h.rc (no _ _ h.tc oz),rowB_chg hc h.rm (no _ _ h.tm oz),rowB_chg hc h.rj (no _ _ h.tj oz),fun v hv=>?_,fun v hv=>?_,h.tk,h.ti,h.tc,h.tm,h.tj,fun b hb=>h.fr b (Nat.le_trans hc.size hb),h.lo,h.li,h.lc⟩
 ·rcases h.ei v hv with h1|⟨b,c,h1,h2,h3⟩
  ·exact .inl h1
  ·exact .inr ⟨b,c,h1,h2.chg hc (no _ _ h3 oz),h3⟩
 ·obtain⟨h1,h2⟩:=h.ec v hv;exact⟨rowB_chg hc h1 (no _ _ h2 oz),h2⟩
theorem BAt.below (h:BAt N W A n regs s) (hb:Below W.heap.size W W'):BAt N W' A n regs s:=h.keep (S:=fun _=>False) (Chg.of hb) (fun _ e=>e.elim)
theorem chgSet (W:World) (b i:Nat) (u:Value):Chg (· = b) W (W.setCell ⟨b,i,none⟩ u):=Chg.setCell (S:=(· = b)) (Chg.refl _ _) (p:=⟨b,i,none⟩) (Or.inl rfl) _
/-- a mark is written -/
theorem BAt.setM (h:BAt N W A n regs s) (v:Nat) (x:Bool):BAt N (W.setCell ⟨A.mb,v,none⟩ (.bool x)) A n regs { s with mrk:=s.mrk.set v x }:=by
 have hc:=chgSet W A.mb v (.bool x);have no:∀ (b t:Nat),A.tg b=t->t≠4->¬(b=A.mb):=fun b t hb ht e=>ht (by rw[<-hb,e,h.tm]);have hm:=row_set h.rm v (.bool x);have e:(Bools s.mrk).set v (.bool x)=Bools (s.mrk.set v x):=by simp[Bools,List.map_set]
 rw[e]at hm;refine⟨hc.own h.st (no _ _ h.tk oz),rowB_chg hc h.ri (no _ _ h.ti oz),rowB_chg hc h.rc (no _ _ h.tc oz),hm,rowB_chg hc h.rj (no _ _ h.tj oz),fun v hv=>?_,fun v hv=>?_,h.tk,h.ti,h.tc,h.tm,h.tj,fun b hb=>h.fr b (Nat.le_trans hc.size hb),h.lo,h.li,h.lc⟩
 ·rcases h.ei v hv with h1|⟨b,c,h1,h2,h3⟩
  ·exact .inl h1
  ·exact .inr ⟨b,c,h1,h2.chg hc (no _ _ h3 oz),h3⟩
 ·obtain⟨h1,h2⟩:=h.ec v hv;exact⟨rowB_chg hc h1 (no _ _ h2 oz),h2⟩
/-- how often something came is written -/
theorem BAt.setJ (h:BAt N W A n regs s) (v:Nat) (x:Int):BAt N (W.setCell ⟨A.jb,v,none⟩ (.int .i64 x)) A n regs { s with jn:=s.jn.set v x }:=by
 have hc:=chgSet W A.jb v (.int .i64 x);have no:∀ (b t:Nat),A.tg b=t->t≠5->¬(b=A.jb):=fun b t hb ht e=>ht (by rw[<-hb,e,h.tj]);have hm:=row_set h.rj v (.int .i64 x);have e:(Nums s.jn).set v (.int .i64 x)=Nums (s.jn.set v x):=by simp[Nums,List.map_set]
 rw[e]at hm;refine⟨hc.own h.st (no _ _ h.tk oz),rowB_chg hc h.ri (no _ _ h.ti oz),rowB_chg hc h.rc (no _ _ h.tc oz),rowB_chg hc h.rm (no _ _ h.tm oz),hm,fun v hv=>?_,fun v hv=>?_,h.tk,h.ti,h.tc,h.tm,h.tj,fun b hb=>h.fr b (Nat.le_trans hc.size hb),h.lo,h.li,h.lc⟩
 ·rcases h.ei v hv with h1|⟨b,c,h1,h2,h3⟩
  ·exact .inl h1
  ·exact .inr ⟨b,c,h1,h2.chg hc (no _ _ h3 oz),h3⟩
 ·obtain⟨h1,h2⟩:=h.ec v hv;exact⟨rowB_chg hc h1 (no _ _ h2 oz),h2⟩
/-- a register's changes are written -/
theorem BAt.setC (h:BAt N W A n regs s) {v:Nat}(hv:v<n) (i:Nat) (x:Int):BAt N (W.setCell ⟨(A.cv v).1,i,none⟩ (.int .i64 x)) A n regs { s with chg:=s.chg.set v ((s.chg.getD v []).set i x) }:=by
 have hc:=chgSet W (A.cv v).1 i (.int .i64 x);have hlc:=h.lc;obtain⟨hrow,htag⟩:=h.ec v hv;have no:∀ (b t:Nat),A.tg b=t->t≠7+2*v->¬(b=(A.cv v).1):=fun b t hb ht e=>ht (by rw[<-hb,e,htag]);have hm:=row_set hrow i (.int .i64 x);have e:(Nums (s.chg.getD v [])).set i (.int .i64 x)=Nums ((s.chg.getD v []).set i x):=by simp[Nums,List.map_set]
 rw[e]at hm;refine⟨hc.own h.st (no _ _ h.tk oz),rowB_chg hc h.ri (no _ _ h.ti oz),rowB_chg hc h.rc (no _ _ h.tc oz),rowB_chg hc h.rm (no _ _ h.tm oz),rowB_chg hc h.rj (no _ _ h.tj oz),fun u hu=>?_,fun u hu=>?_,h.tk,h.ti,h.tc,h.tm,h.tj,fun b hb=>h.fr b (Nat.le_trans hc.size hb),h.lo,h.li,by simpa using hlc⟩
 ·rcases h.ei u hu with h1|⟨b,c,h1,h2,h3⟩
  ·exact .inl h1
  ·exact .inr ⟨b,c,h1,h2.chg hc (no _ _ h3 oz),h3⟩
 ·dsimp only;by_cases e:u=v
  ·subst e;rw[getD_set _ _ _ _ _ (by omega),if_pos rfl];exact⟨hm,htag⟩
  ·rw[getD_set _ _ _ _ _ (by omega),if_neg e];obtain⟨h1,h2⟩:=h.ec u hu;exact⟨rowB_chg hc h1 (no _ _ h2 oz),h2⟩
/-- a register's span is written -/
theorem BAt.setS (h:BAt N W A n regs s) {v:Nat}(hv:v<n) {b c:Nat}(hb:A.iv v=some (b,c)) {i:Nat}(hi:i<regs) (p:PSpan):BAt N ((W.setCell ⟨b,i*2,none⟩ (.int .i64 p.lo)).setCell ⟨b,i*2+1,none⟩ (.int .i64 p.hi)) A n regs { s with inn:=s.inn.set v ((s.inn.getD v []).set i p) }:=by
 have hc:=chg2 W b (i*2) (i*2+1) (.int .i64 p.lo) (.int .i64 p.hi);have hli:=h.li;obtain⟨hrow,htag⟩:SpRow W b regs c (s.inn.getD v [])/\A.tg b=6+2*v:=by
  rcases h.ei v hv with⟨h1,_⟩|⟨b',c',h1,h2,h3⟩
  ·rw[hb]at h1;cases h1
  ·rw[hb]at h1;cases h1;exact⟨h2,h3⟩
 have no:∀ (x t:Nat),A.tg x=t->t≠6+2*v->¬(x=b):=fun x t hx ht e=>ht (by rw[<-hx,e,htag]);have hm:=hrow.set hi p;refine⟨hc.own h.st (no _ _ h.tk oz),rowB_chg hc h.ri (no _ _ h.ti oz),rowB_chg hc h.rc (no _ _ h.tc oz),rowB_chg hc h.rm (no _ _ h.tm oz),rowB_chg hc h.rj (no _ _ h.tj oz),fun u hu=>?_,fun u hu=>?_,h.tk,h.ti,h.tc,h.tm,h.tj,fun b hb=>h.fr b (Nat.le_trans hc.size hb),h.lo,by simpa using hli,h.lc⟩
 ·dsimp only;by_cases e:u=v
  ·subst e;rw[getD_set _ _ _ _ _ (by omega),if_pos rfl];exact .inr ⟨b,c,hb,hm,htag⟩
  ·rw[getD_set _ _ _ _ _ (by omega),if_neg e];rcases h.ei u hu with h1|⟨b,c,h1,h2,h3⟩
   ·exact .inl h1
   ·exact .inr ⟨b,c,h1,h2.chg hc (no _ _ h3 oz),h3⟩
 ·obtain⟨h1,h2⟩:=h.ec u hu;exact⟨rowB_chg hc h1 (no _ _ h2 oz),h2⟩
def updF {α:Type}(g:Nat->α) (i:Nat) (x:α):Nat->α:=fun j=>if j=i then x else g j
theorem updF_self {α:Type}(g:Nat->α) (i:Nat) (x:α):updF g i x i=x:=if_pos rfl
theorem updF_ne {α:Type}(g:Nat->α) {i j:Nat}(x:α) (h:j≠i):updF g i x j=g j:=if_neg h
theorem ivCells_set (n regs:Nat) (iv:Nat->Option (Nat×Nat)) (v:Nat) (o:Option (Nat×Nat)):(ivCells n regs iv).set v (ivVal regs o)=ivCells n regs (updF iv v o):=by
 unfold ivCells;apply List.ext_getElem?;intro i;by_cases e:i=v
 ·subst e;by_cases h:i<n
  ·rw[List.getElem?_set_self (by simpa using h)];simp[h,updF]
  ·rw[List.set_eq_of_length_le (by simp;omega)];simp[h]
 ·rw[List.getElem?_set_ne (by omega)];by_cases h:i<n
  ·rw[List.getElem?_map,List.getElem?_map,List.getElem?_range h];simp[updF,e]
  ·rw[List.getElem?_eq_none (by simp;omega),List.getElem?_eq_none (by simp;omega)]
/-- the spans at an instruction at which nothing stood -/
theorem BAt.setI (h:BAt N W A n regs s) {v:Nat}(hv:v<n) {b c:Nat}{next:List PSpan}(hr:SpRow W b regs c next) (hb:A.tg b=0) (hN:N<=b):BAt N (W.setCell ⟨A.ib,v,none⟩ (.slice (some ⟨b,0,none⟩) regs c)) { A with iv:=updF A.iv v (some (b,c)),tg:=updF A.tg b (6+2*v) } n regs { s with inn:=s.inn.set v next }:=by
 have hc:=chgSet W A.ib v (.slice (some ⟨b,0,none⟩) regs c);have hli:=h.li;have no:∀ (x t:Nat),A.tg x=t->t≠2->¬(x=A.ib):=fun x t hx ht e=>ht (by rw[<-hx,e,h.ti]);have tn:∀ (x t:Nat),A.tg x=t->t≠0->updF A.tg b (6+2*v) x=t:=fun x t hx ht=>by rw[updF_ne _ _ (fun e=>ht (by rw[<-hx,e,hb])),hx]
 have hm:=row_set h.ri v (.slice (some ⟨b,0,none⟩) regs c);have e:=ivCells_set n regs A.iv v (some (b,c));rw[show ivVal regs (some (b,c))=.slice (some ⟨b,0,none⟩) regs c from rfl]at e;rw[e]at hm;have hbl:=hr.lt;refine⟨hc.own h.st (no _ _ h.tk oz),hm,rowB_chg hc h.rc (no _ _ h.tc oz),rowB_chg hc h.rm (no _ _ h.tm oz),rowB_chg hc h.rj (no _ _ h.tj oz),fun u hu=>?_,fun u hu=>?_,tn _ _ h.tk oz,tn _ _ h.ti oz,tn _ _ h.tc oz,tn _ _ h.tm oz,tn _ _ h.tj oz,fun x hx=>?_,fun x hx=>?_,by simpa using hli,h.lc⟩
 ·dsimp only;by_cases e:u=v
  ·subst e;rw[getD_set _ _ _ _ _ (by omega),if_pos rfl,updF_self];exact .inr ⟨b,c,rfl,hr.chg hc (no _ _ hb oz),updF_self _ _ _⟩
  ·rw[getD_set _ _ _ _ _ (by omega),if_neg e,updF_ne _ _ e];rcases h.ei u hu with h1|⟨b',c',h1,h2,h3⟩
   ·exact .inl h1
   ·exact .inr ⟨b',c',h1,h2.chg hc (no _ _ h3 oz),tn _ _ h3 oz⟩
 ·obtain⟨h1,h2⟩:=h.ec u hu;exact⟨rowB_chg hc h1 (no _ _ h2 oz),tn _ _ h2 oz⟩
 ·have h3:W.heap.size<=x:=Nat.le_trans hc.size hx;dsimp only;rw[updF_ne _ _ (by omega)];exact h.fr x h3
 ·dsimp only at hx;by_cases e:x=b
  ·subst e;exact hN
  ·rw[updF_ne _ _ e]at hx;exact h.lo x hx
/-- as it is read -/
theorem BAt.rd (h:BAt N W A n regs s) {v:Nat}(hv:v<n):W.cell? ⟨A.ib,v,none⟩=some (ivVal regs (A.iv v))/\W.cell? ⟨A.cb,v,none⟩=some (cvVal regs (A.cv v))/\W.cell? ⟨A.mb,v,none⟩=some (.bool (s.mrk.getD v false))/\W.cell? ⟨A.jb,v,none⟩=some (.int .i64 (s.jn.getD v 0)):=by
 have hm:=h.lm;have hj:=h.lj;refine⟨row_cell h.ri (by simp[ivCells,hv]),row_cell h.rc (by simp[cvCells,hv]),row_cell h.rm ?_,row_cell h.rj ?_⟩
 ·unfold Bools;rw[List.getElem?_map,List.getD_eq_getElem?_getD,List.getElem?_eq_getElem (by omega)];rfl
 ·unfold Nums;rw[List.getElem?_map,List.getD_eq_getElem?_getD,List.getElem?_eq_getElem (by omega)];rfl
theorem BAt.fz (h:BAt N W A n regs s) (v:Nat):W.frozen? ⟨A.ib,v,none⟩=false/\W.frozen? ⟨A.mb,v,none⟩=false/\W.frozen? ⟨A.jb,v,none⟩=false:=⟨h.ri.frozenAt _,h.rm.frozenAt _,h.rj.frozenAt _⟩
theorem BAt.rdC (h:BAt N W A n regs s) {v:Nat}(hv:v<n) {i:Nat}(hi:i<regs):W.cell? ⟨(A.cv v).1,i,none⟩=some (.int .i64 ((s.chg.getD v []).getD i 0))/\W.frozen? ⟨(A.cv v).1,i,none⟩=false:=by
 obtain⟨h1,_⟩:=h.ec v hv;have hl:(s.chg.getD v []).length=regs:=by have:=h1.1;simpa[Nums]using this
 unfold cvVal at h1;refine⟨row_cell h1 ?_,h1.frozenAt _⟩;unfold Nums;rw[List.getElem?_map,List.getD_eq_getElem?_getD (l:=s.chg.getD v []),List.getElem?_eq_getElem (by omega)];rfl
theorem BAt.rdS (h:BAt N W A n regs s) {v:Nat}(hv:v<n) {b c:Nat}(hb:A.iv v=some (b,c)):SpRow W b regs c (s.inn.getD v [])/\A.tg b=6+2*v:=by
 rcases h.ei v hv with⟨h1,_⟩|⟨b',c',h1,h2,h3⟩
 ·rw[hb]at h1;cases h1
 ·rw[hb]at h1;cases h1;exact⟨h2,h3⟩
end
end
section
def dstOf (ops:Array Oper) (i:Nat):Option Nat:=(ops[i]?).bind (·.dst)
def FrameOk (ops:Array Oper) (a0:Act) (L:Array Bool) (V:Nat->Value) (a:Act):Prop :=
 a.tmps.size=a0.tmps.size/\a.defers=a0.defers/\(∀ j,(∀ i,dstOf ops i=some j->L.getD i false≠true)->a.eval (.tmp j)=a0.eval (.tmp j))/\∀ i d,dstOf ops i=some d->L.getD i false=true->a.eval (.tmp d)=V i
theorem getD_sets (L:Array Bool) (i j:Nat) (hi:i<L.size):(L.setIfInBounds i true).getD j false=if j=i then true else L.getD j false:=by
 by_cases e:j=i
 ·subst e;rw[if_pos rfl];simp[Array.getD,hi]
 ·rw[if_neg e,getD_set_ne false (fun h=>e h.symm)]
theorem FrameOk.start (ops:Array Oper) (a0:Act) (V:Nat->Value) (k:Nat):FrameOk ops a0 (Array.replicate k false) V a0:=by
 refine⟨rfl,rfl,fun _ _=>rfl,fun i d _ h=>?_⟩;exfalso;by_cases hi:i<k<;>simp[Array.getD,hi]at h
theorem FrameOk.put {ops:Array Oper}{a0 a:Act}{L:Array Bool}{V:Nat->Value}(h:FrameOk ops a0 L V a) (hinj:∀ i j d,dstOf ops i=some d->dstOf ops j=some d->i=j) (hsz:∀ i d,dstOf ops i=some d->d<a0.tmps.size) {i:Nat}{o:Oper}(ho:ops[i]? = some o) (hi:i<L.size) (v:Value) (V':Nat->Value) (hv:V' i=v) (hV:∀ j,j≠i->L.getD j false=true->V' j=V j) :
 FrameOk ops a0 (L.setIfInBounds i true) V' (a.put o.dst v):=by
 obtain⟨h1,h2,h3,h4⟩:=h;have hdi:dstOf ops i=o.dst:=by unfold dstOf;rw[ho];rfl
 have hdf:(a.put o.dst v).defers=a0.defers:=by cases o.dst<;>exact h2
 refine⟨by rw[size_putI];exact h1,hdf,fun j hj=>?_,fun j d hjd hjl=>?_⟩
 ·cases hd:o.dst with
  | none =>
   refine h3 j (fun k hk hl=>hj k hk ?_);rw[getD_sets _ _ _ hi];split
   ·rfl
   ·exact hl
  | some e =>
   have hne:e≠j:=fun e2=>hj i (by rw[hdi,hd,e2]) (by rw[getD_sets _ _ _ hi,if_pos rfl]);rw[eval_putI _ _ _ _ (by rw[h1];exact hsz i e (by rw[hdi,hd])),if_neg hne];refine h3 j (fun k hk hl=>hj k hk ?_);rw[getD_sets _ _ _ hi];split
   ·rfl
   ·exact hl
 ·by_cases e:j=i
  ·subst e;rw[hdi]at hjd;rw[hjd,eval_putI _ _ _ _ (by rw[h1];exact hsz j d (by rw[hdi,hjd])),if_pos rfl,hv]
  ·rw[getD_sets _ _ _ hi,if_neg e]at hjl;rw[hV j e hjl];cases hd:o.dst with
   | none=>exact h4 j d hjd hjl
   | some e2 =>
    have hne:e2≠d:=fun e3=>e (hinj j i d hjd (by rw[hdi,hd,e3]));rw[eval_putI _ _ _ _ (by rw[h1];exact hsz i e2 (by rw[hdi,hd])),if_neg hne];exact h4 j d hjd hjl
theorem act_ext {a b:Act}(hs:a.tmps.size=b.tmps.size) (hd:a.defers=b.defers) (he:∀ j,a.eval (.tmp j)=b.eval (.tmp j)):a=b:=by
 obtain⟨t,d⟩:=a;obtain⟨t2,d2⟩:=b;dsimp only at hs hd;subst hd;have:t=t2:=by
  apply Array.ext hs;intro i h1 h2;have h3:=he i;simp only[Act.eval,Array.getD,h1,h2,dif_pos]at h3;simpa using h3
 rw[this]
theorem FrameOk.uniq {ops:Array Oper}{a0 a b:Act}{L M:Array Bool}{V:Nat->Value}(h:FrameOk ops a0 L V a) (k:FrameOk ops a0 M V b) (hL:∀ i,i<ops.size->L.getD i false=true) (hM:∀ i,i<ops.size->M.getD i false=true):a=b:=by
 obtain⟨h1,h2,h3,h4⟩:=h;obtain⟨k1,k2,k3,k4⟩:=k;refine act_ext (by rw[h1,k1]) (by rw[h2,k2]) (fun j=>?_);by_cases hj:∃ i,dstOf ops i=some j
 ·obtain⟨i,hi⟩:=hj;have hlt:i<ops.size:=by
   unfold dstOf at hi;cases ho:ops[i]? with
   | none=>rw[ho]at hi;cases hi
   | some o=>exact(Array.getElem?_eq_some_iff.1 ho).1
  rw[h4 i j hi (hL i hlt),k4 i j hi (hM i hlt)]
 ·rw[h3 j (fun i hi=>absurd ⟨i,hi⟩ hj),k3 j (fun i hi=>absurd ⟨i,hi⟩ hj)]
theorem wpOp_val {P:Program}{ops:Array Oper}{Q:Exit->Act->World->Prop}{i:Nat}{o:Oper}{K:Act->World->Prop}{a:Act}{w:World}(ho:ops[i]? = some o) (hg:o.guard=none) (v:Value) (w2:World) (hr:(execOp a.eval o).run P w=.ok (.value v) w2) (h:K (a.put o.dst v) w2):wpOp P ops Q i K a w:=by
 have hw:Region.wanted o (yielded ops a.tmps)=true:=by simp[Region.wanted,hg]
 unfold wpOp;simp only[ho,hw,if_true];left;unfold Oper.wp;rw[hr];exact h
theorem wpOp_skip {P:Program}{ops:Array Oper}{Q:Exit->Act->World->Prop}{i:Nat}{o:Oper}{K:Act->World->Prop}{a:Act}{w:World}(ho:ops[i]? = some o) (hg:o.guard=none) (w2:World) (hr:(execOp a.eval o).run P w=.ok .skip w2) (h:K (a.put o.dst undef) w2):wpOp P ops Q i K a w:=by
 have hw:Region.wanted o (yielded ops a.tmps)=true:=by simp[Region.wanted,hg]
 unfold wpOp;simp only[ho,hw,if_true];left;unfold Oper.wp;rw[hr];exact h
def dstInj (ops:Array Oper):Bool:=(List.range ops.size).all fun i=>(List.range ops.size).all fun j=>decide (i=j)||decide (dstOf ops i=none)||decide (dstOf ops i≠dstOf ops j)
def dstLt (ops:Array Oper) (n:Nat):Bool:=(List.range ops.size).all fun i=>match dstOf ops i with|some d=>decide (d<n)|none=>true
theorem dstOf_lt {ops:Array Oper}{i d:Nat}(h:dstOf ops i=some d):i<ops.size:=by
 unfold dstOf at h;cases ho:ops[i]? with
 | none=>rw[ho]at h;cases h
 | some o=>exact(Array.getElem?_eq_some_iff.1 ho).1
theorem dstInj_spec {ops:Array Oper}(h:dstInj ops=true):∀ i j d,dstOf ops i=some d->dstOf ops j=some d->i=j:=fun i j d hi hj=>by
 unfold dstInj at h;have h1:=List.all_eq_true.1 (List.all_eq_true.1 h i (List.mem_range.2 (dstOf_lt hi))) j (List.mem_range.2 (dstOf_lt hj));rw[hi,hj]at h1;simpa using h1
theorem dstLt_spec {ops:Array Oper}{n:Nat}(h:dstLt ops n=true):∀ i d,dstOf ops i=some d->d<n:=fun i d hi=>by
 unfold dstLt at h;have h1:=List.all_eq_true.1 h i (List.mem_range.2 (dstOf_lt hi));rw[hi]at h1;simpa using h1
def putsTo (ops:Array Oper) (V:Nat->Value) (a0:Act) (k:Nat):Act:=(List.range k).foldl (fun a i=>a.put (dstOf ops i) (V i)) a0
def firstL (n k:Nat):Array Bool:=(List.range k).foldl (fun L i=>L.setIfInBounds i true) (Array.replicate n false)
theorem firstL_succ (n k:Nat):firstL n (k+1)=(firstL n k).setIfInBounds k true:=by unfold firstL;rw[List.range_succ,List.foldl_append];rfl
theorem firstL_size (n k:Nat):(firstL n k).size=n:=by
 induction k with
 | zero=>simp[firstL]
 | succ k ih=>rw[firstL_succ,Array.size_setIfInBounds,ih]
theorem firstL_at (n:Nat):∀ k i,i<k->k<=n->(firstL n k).getD i false=true
 | k+1,i,hi,hk=>by
  rw[firstL_succ,getD_sets _ _ _ (by rw[firstL_size];omega)];split
  ·rfl
  ·exact firstL_at n k i oz oz
theorem putsTo_ok (ops:Array Oper) (V:Nat->Value) (a0:Act) (hinj:dstInj ops=true) (hsz:dstLt ops a0.tmps.size=true):∀ k,k<=ops.size->FrameOk ops a0 (firstL ops.size k) V (putsTo ops V a0 k)
 | 0,_=>FrameOk.start ops a0 V ops.size
 | k+1,hk=>by
  have h:=putsTo_ok ops V a0 hinj hsz k oz;have ho:ops[k]? = some (ops[k]'(oz)):=Array.getElem?_eq_getElem oz;rw[firstL_succ];have e:putsTo ops V a0 (k+1)=(putsTo ops V a0 k).put (ops[k]'(oz)).dst (V k):=by
   unfold putsTo;rw[List.range_succ,List.foldl_append];simp only[List.foldl_cons,List.foldl_nil];unfold dstOf;rw[ho];rfl
  rw[e];exact h.put (dstInj_spec hinj) (dstLt_spec hsz) ho (by rw[firstL_size];omega) _ V rfl (fun _ _ _=>rfl)
def noDst (ops:Array Oper) (j:Nat):Bool:=(List.range ops.size).all fun i=>decide (dstOf ops i≠some j)
theorem noDst_spec {ops:Array Oper}{j:Nat}(h:noDst ops j=true):∀ i,dstOf ops i≠some j:=fun i hi=>by
 unfold noDst at h;have h1:=List.all_eq_true.1 h i (List.mem_range.2 (dstOf_lt hi));rw[hi]at h1;simp at h1
def putsL (V:Nat->Value):Nat->List (Option Nat)->Act->Act
 | _,[],a=>a
 | i,d::ds,a=>putsL V (i+1) ds (a.put d (V i))
theorem putsL_snoc (V:Nat->Value) (d:Option Nat):∀ (ds:List (Option Nat)) (i:Nat) (a:Act),putsL V i (ds++[d]) a=(putsL V i ds a).put d (V (i+ds.length))
 | [],i,a=>rfl
 | e::ds,i,a=>by
  show putsL V (i+1) (ds++[d]) _=(putsL V (i+1) ds _).put d _;rw[putsL_snoc V d ds (i+1),List.length_cons,show i+1+ds.length=i+(ds.length+1) by omega]
theorem putsTo_L (ops:Array Oper) (V:Nat->Value) (a0:Act):∀ k,putsTo ops V a0 k=putsL V 0 ((List.range k).map (dstOf ops)) a0
 | 0=>rfl
 | k+1=>by
  have e:putsTo ops V a0 (k+1)=(putsTo ops V a0 k).put (dstOf ops k) (V k):=by unfold putsTo;rw[List.range_succ,List.foldl_append];rfl
  rw[e,putsTo_L ops V a0 k,List.range_succ,List.map_append,List.map_cons,List.map_nil,putsL_snoc,List.length_map,List.length_range,Nat.zero_add]
/-- a region of operations that each yield a value, whatever order they come in -/
theorem region_frame {P:Program}{ops:Array Oper}{Q:Exit->Act->World->Prop}{id:Nat}{a:Act}{w:World}(hm:P.follows .mixedOrders=true) (hord:afterOk ops=true) (hinj:dstInj ops=true) (hsz:dstLt ops a.tmps.size=true) (ds:List (Option Nat)) (hds:(List.range ops.size).map (dstOf ops)=ds) (hg:(List.range ops.size).all (fun i=>match ops[i]? with|some o=>o.guard.isNone|none=>true)=true)
 (F:Array Bool->(Nat->Value)->World->Prop) (h0:∀ V,F (Array.replicate ops.size false) V w.drew)
 (hstep:∀ (i:Nat) (o:Oper) (L:Array Bool) (V:Nat->Value) (ev:Operand->Value) (W:World),ops[i]? = some o->i<L.size->L.getD i false≠true->(∀ e∈o.after,Region.binds .any e=true->L.getD e.on false=true)->ClosedL ops L ->
   (∀ v,ev (.const v)=v)->(∀ j,(∀ i,dstOf ops i≠some j)->ev (.tmp j)=a.eval (.tmp j))->(∀ i d,dstOf ops i=some d->L.getD i false=true->ev (.tmp d)=V i)->F L V W ->
   (∃ v W',(execOp ev o).run P W=.ok (.value v) W'/\F (L.setIfInBounds i true) (updF V i v) W')\/(∃ W',(execOp ev o).run P W=.ok .skip W'/\F (L.setIfInBounds i true) (updF V i undef) W'))
 (hend:∀ L V W,(∀ i,i<ops.size->L.getD i false=true)->F L V W->Q .normal (putsL V 0 ds a) W):(Code.region id ops true).wp P Q a w:=by
 refine region_inv2 hm hord (fun L a' W=>∃ V,FrameOk ops a L V a'/\F L V W) ⟨fun _=>undef,FrameOk.start ops a _ ops.size,h0 _⟩ (fun i o L a' W ho hlt hne hd hc hI=>?_) (fun L a' W hL hI=>?_)
 ·obtain⟨V,hf,hF⟩:=hI;have hgo:o.guard=none:=by
   have h1:=List.all_eq_true.1 hg i (List.mem_range.2 (Array.getElem?_eq_some_iff.1 ho).1);rw[ho]at h1;simpa using h1
  have hput:∀ v,FrameOk ops a (L.setIfInBounds i true) (updF V i v) (a'.put o.dst v):=fun v=>hf.put (dstInj_spec hinj) (dstLt_spec hsz) ho hlt v _ (updF_self _ _ _) (fun j hj _=>updF_ne _ _ hj);rcases hstep i o L V a'.eval W ho hlt hne hd hc (fun _=>rfl) (fun j hj=>hf.2.2.1 j (fun k hk=>absurd hk (hj k))) hf.2.2.2 hF with⟨v,W',hr,hF'⟩|⟨W',hr,hF'⟩
  ·exact wpOp_val ho hgo v W' hr ⟨_,hput v,hF'⟩
  ·exact wpOp_skip ho hgo W' hr ⟨_,hput undef,hF'⟩
 ·obtain⟨V,hf,hF⟩:=hI;have e:a'=putsTo ops V a ops.size:=hf.uniq (putsTo_ok ops V a hinj hsz ops.size lr) hL (fun i hi=>firstL_at _ _ _ hi lr);rw[e,putsTo_L,hds];exact hend L V W hL hF
theorem madeOne (n:Nat) (z:Value):madeCells #[z] n=(List.replicate n z).toArray:=by
 apply Array.ext
 ·simp[madeCells]
 ·intro i h1 h2;simp[madeCells,Nat.mod_one]
def MkRow (W:World) (e:TypeId) (z:Value) (n:Nat) (v:Value) (tg:Nat->Nat) (t:Nat):Prop:=∃ b,v=.slice (some ⟨b,0,none⟩) n n/\W.ownsRow 0 e 1 v n (List.replicate n z)/\tg b=t
theorem MkRow.up {W W':World}{e:TypeId}{z:Value}{n:Nat}{v:Value}{tg tg':Nat->Nat}{t:Nat}(h:MkRow W e z n v tg t) (hb:Below W.heap.size W W') (ht:∀ b,b<W.heap.size->tg' b=tg b):MkRow W' e z n v tg' t:=by
 obtain⟨b,h1,h2,h3⟩:=h;subst h1;exact⟨b,rfl,row_below hb h2,by rw[ht b (row_ltB h2)];exact h3⟩
theorem MkRow.new (W:World) (e:TypeId) (z:Value) (n t:Nat) (tg:Nat->Nat) (hn:n<=maxLen):MkRow (W.alloc (.cells (List.replicate n z).toArray e)) e z n (.slice (some ⟨W.heap.size,0,none⟩) n n) (updF tg W.heap.size t) t:=by
 refine⟨W.heap.size,rfl,?_,updF_self _ _ _⟩;have:=World.ownsRow_lit W (base:=0) (e:=e) (size:=1) (List.replicate n z).toArray n (Nat.zero_le _) hn si;simpa using this
/-- what holds, whatever has come -/
structure RunF (n:Nat) (W5:World) (L:Array Bool) (V:Nat->Value) (W:World) (tg:Nat->Nat):Prop where
 bel:Below W5.heap.size W5 W
 num:∀ i,(i=0\/i=2\/i=5\/i=7)->L.getD i false=true->V i=.int .i64 n
 b4:L.getD 4 false=true->V 4=.agg #[V 1,V 3]
 b9:L.getD 9 false=true->V 9=.agg #[V 1,V 3,V 6,V 8]
 fr:∀ b,W.heap.size<=b->tg b=0
 lo:∀ b,tg b≠0->W5.heap.size<=b
 r1:L.getD 1 false=true->MkRow W 39 (.slice none 0 0) n (V 1) tg 2
 r3:L.getD 3 false=true->MkRow W 50 (.slice none 0 0) n (V 3) tg 3
 r6:L.getD 6 false=true->MkRow W 4 (.bool false) n (V 6) tg 4
 r8:L.getD 8 false=true->MkRow W 3 (.int .i64 0) n (V 8) tg 5
 st:L.getD 10 false=true->∃ k,V 10=.pointer (some ⟨k,0,none⟩)/\Own W k [V 1,V 3,V 6,V 8]/\tg k=1
 pt:L.getD 11 false=true->∃ p,V 11=.pointer (some ⟨p,0,none⟩)/\tg p=6/\Own W p [if L.getD 12 false=true then V 10 else .pointer none]
section
variable {n : Nat} {W5 W W' : World} {L : Array Bool} {V : Nat -> Value} {tg : Nat -> Nat}
theorem RunF.start (n:Nat) (W5:World) (V:Nat->Value) (hW:Below W5.heap.size W5 W):RunF n W5 (Array.replicate 13 false) V W (fun _=>0):=by
 have no:∀ i,¬((Array.replicate 13 false).getD i false=true):=fun i h=>by
  by_cases hi:i<13<;>simp[Array.getD,hi]at h
 exact⟨hW,fun i _ h=>absurd h (no i),fun h=>absurd h (no _),fun h=>absurd h (no _),fun _ _=>rfl,fun _ h=>absurd rfl h,fun h=>absurd h (no _),fun h=>absurd h (no _),fun h=>absurd h (no _),fun h=>absurd h (no _),fun h=>absurd h (no _),fun h=>absurd h (no _)⟩
theorem RunF.s0 (h:RunF n W5 L V W tg) (hs:0<L.size) (hl:L.getD 12 false=true->False)  : RunF n W5 (L.setIfInBounds 0 true) (updF V 0 (.int .i64 n)) W tg:=by
 have lk:∀ j,j≠0->(L.setIfInBounds 0 true).getD j false=L.getD j false:=fun j hj=>by rw[getD_sets _ _ _ hs,if_neg hj]
 have vk:∀ j,j≠0->updF V 0 (.int .i64 n) j=V j:=fun j hj=>updF_ne _ _ hj;refine⟨?_,?_,?_,?_,?_,?_,?_,?_,?_,?_,?_,?_⟩
 ·exact h.bel
 ·exact fun j hj hq=>by
   by_cases e:j=0
   ·subst e;exact updF_self _ _ _
   ·rw[lk j e]at hq;rw[vk j e];exact h.num j hj hq
 ·exact fun hq=>by rw[lk 4 (by decide)]at hq;rw[vk 4 (by decide),vk 1 (by decide),vk 3 (by decide)];exact h.b4 hq
 ·exact fun hq=>by rw[lk 9 (by decide)]at hq;rw[vk 9 (by decide),vk 1 (by decide),vk 3 (by decide),vk 6 (by decide),vk 8 (by decide)];exact h.b9 hq
 ·exact h.fr
 ·exact h.lo
 ·exact fun hq=>by rw[lk 1 (by decide)]at hq;rw[vk 1 (by decide)];exact h.r1 hq
 ·exact fun hq=>by rw[lk 3 (by decide)]at hq;rw[vk 3 (by decide)];exact h.r3 hq
 ·exact fun hq=>by rw[lk 6 (by decide)]at hq;rw[vk 6 (by decide)];exact h.r6 hq
 ·exact fun hq=>by rw[lk 8 (by decide)]at hq;rw[vk 8 (by decide)];exact h.r8 hq
 ·exact fun hq=>by
   rw[lk 10 (by decide)]at hq;rw[vk 10 (by decide),vk 1 (by decide),vk 3 (by decide),vk 6 (by decide),vk 8 (by decide)];obtain⟨k,h1,h2,h3⟩:=h.st hq;exact⟨k,h1,h2,h3⟩
 ·exact fun hq=>by
   rw[lk 11 (by decide)]at hq;rw[vk 11 (by decide),lk 12 (by decide),if_neg hl];obtain⟨p,h1,h2,h3⟩:=h.pt hq;rw[if_neg hl]at h3;exact⟨p,h1,h2,h3⟩
theorem RunF.s2 (h:RunF n W5 L V W tg) (hs:2<L.size) (hl:L.getD 12 false=true->False)  : RunF n W5 (L.setIfInBounds 2 true) (updF V 2 (.int .i64 n)) W tg:=by
 have lk:∀ j,j≠2->(L.setIfInBounds 2 true).getD j false=L.getD j false:=fun j hj=>by rw[getD_sets _ _ _ hs,if_neg hj]
 have vk:∀ j,j≠2->updF V 2 (.int .i64 n) j=V j:=fun j hj=>updF_ne _ _ hj;refine⟨?_,?_,?_,?_,?_,?_,?_,?_,?_,?_,?_,?_⟩
 ·exact h.bel
 ·exact fun j hj hq=>by
   by_cases e:j=2
   ·subst e;exact updF_self _ _ _
   ·rw[lk j e]at hq;rw[vk j e];exact h.num j hj hq
 ·exact fun hq=>by rw[lk 4 (by decide)]at hq;rw[vk 4 (by decide),vk 1 (by decide),vk 3 (by decide)];exact h.b4 hq
 ·exact fun hq=>by rw[lk 9 (by decide)]at hq;rw[vk 9 (by decide),vk 1 (by decide),vk 3 (by decide),vk 6 (by decide),vk 8 (by decide)];exact h.b9 hq
 ·exact h.fr
 ·exact h.lo
 ·exact fun hq=>by rw[lk 1 (by decide)]at hq;rw[vk 1 (by decide)];exact h.r1 hq
 ·exact fun hq=>by rw[lk 3 (by decide)]at hq;rw[vk 3 (by decide)];exact h.r3 hq
 ·exact fun hq=>by rw[lk 6 (by decide)]at hq;rw[vk 6 (by decide)];exact h.r6 hq
 ·exact fun hq=>by rw[lk 8 (by decide)]at hq;rw[vk 8 (by decide)];exact h.r8 hq
 ·exact fun hq=>by
   rw[lk 10 (by decide)]at hq;rw[vk 10 (by decide),vk 1 (by decide),vk 3 (by decide),vk 6 (by decide),vk 8 (by decide)];obtain⟨k,h1,h2,h3⟩:=h.st hq;exact⟨k,h1,h2,h3⟩
 ·exact fun hq=>by
   rw[lk 11 (by decide)]at hq;rw[vk 11 (by decide),lk 12 (by decide),if_neg hl];obtain⟨p,h1,h2,h3⟩:=h.pt hq;rw[if_neg hl]at h3;exact⟨p,h1,h2,h3⟩
theorem RunF.s5 (h:RunF n W5 L V W tg) (hs:5<L.size) (hl:L.getD 12 false=true->False)  : RunF n W5 (L.setIfInBounds 5 true) (updF V 5 (.int .i64 n)) W tg:=by
 have lk:∀ j,j≠5->(L.setIfInBounds 5 true).getD j false=L.getD j false:=fun j hj=>by rw[getD_sets _ _ _ hs,if_neg hj]
 have vk:∀ j,j≠5->updF V 5 (.int .i64 n) j=V j:=fun j hj=>updF_ne _ _ hj;refine⟨?_,?_,?_,?_,?_,?_,?_,?_,?_,?_,?_,?_⟩
 ·exact h.bel
 ·exact fun j hj hq=>by
   by_cases e:j=5
   ·subst e;exact updF_self _ _ _
   ·rw[lk j e]at hq;rw[vk j e];exact h.num j hj hq
 ·exact fun hq=>by rw[lk 4 (by decide)]at hq;rw[vk 4 (by decide),vk 1 (by decide),vk 3 (by decide)];exact h.b4 hq
 ·exact fun hq=>by rw[lk 9 (by decide)]at hq;rw[vk 9 (by decide),vk 1 (by decide),vk 3 (by decide),vk 6 (by decide),vk 8 (by decide)];exact h.b9 hq
 ·exact h.fr
 ·exact h.lo
 ·exact fun hq=>by rw[lk 1 (by decide)]at hq;rw[vk 1 (by decide)];exact h.r1 hq
 ·exact fun hq=>by rw[lk 3 (by decide)]at hq;rw[vk 3 (by decide)];exact h.r3 hq
 ·exact fun hq=>by rw[lk 6 (by decide)]at hq;rw[vk 6 (by decide)];exact h.r6 hq
 ·exact fun hq=>by rw[lk 8 (by decide)]at hq;rw[vk 8 (by decide)];exact h.r8 hq
 ·exact fun hq=>by
   rw[lk 10 (by decide)]at hq;rw[vk 10 (by decide),vk 1 (by decide),vk 3 (by decide),vk 6 (by decide),vk 8 (by decide)];obtain⟨k,h1,h2,h3⟩:=h.st hq;exact⟨k,h1,h2,h3⟩
 ·exact fun hq=>by
   rw[lk 11 (by decide)]at hq;rw[vk 11 (by decide),lk 12 (by decide),if_neg hl];obtain⟨p,h1,h2,h3⟩:=h.pt hq;rw[if_neg hl]at h3;exact⟨p,h1,h2,h3⟩
theorem RunF.s7 (h:RunF n W5 L V W tg) (hs:7<L.size) (hl:L.getD 12 false=true->False)  : RunF n W5 (L.setIfInBounds 7 true) (updF V 7 (.int .i64 n)) W tg:=by
 have lk:∀ j,j≠7->(L.setIfInBounds 7 true).getD j false=L.getD j false:=fun j hj=>by rw[getD_sets _ _ _ hs,if_neg hj]
 have vk:∀ j,j≠7->updF V 7 (.int .i64 n) j=V j:=fun j hj=>updF_ne _ _ hj;refine⟨?_,?_,?_,?_,?_,?_,?_,?_,?_,?_,?_,?_⟩
 ·exact h.bel
 ·exact fun j hj hq=>by
   by_cases e:j=7
   ·subst e;exact updF_self _ _ _
   ·rw[lk j e]at hq;rw[vk j e];exact h.num j hj hq
 ·exact fun hq=>by rw[lk 4 (by decide)]at hq;rw[vk 4 (by decide),vk 1 (by decide),vk 3 (by decide)];exact h.b4 hq
 ·exact fun hq=>by rw[lk 9 (by decide)]at hq;rw[vk 9 (by decide),vk 1 (by decide),vk 3 (by decide),vk 6 (by decide),vk 8 (by decide)];exact h.b9 hq
 ·exact h.fr
 ·exact h.lo
 ·exact fun hq=>by rw[lk 1 (by decide)]at hq;rw[vk 1 (by decide)];exact h.r1 hq
 ·exact fun hq=>by rw[lk 3 (by decide)]at hq;rw[vk 3 (by decide)];exact h.r3 hq
 ·exact fun hq=>by rw[lk 6 (by decide)]at hq;rw[vk 6 (by decide)];exact h.r6 hq
 ·exact fun hq=>by rw[lk 8 (by decide)]at hq;rw[vk 8 (by decide)];exact h.r8 hq
 ·exact fun hq=>by
   rw[lk 10 (by decide)]at hq;rw[vk 10 (by decide),vk 1 (by decide),vk 3 (by decide),vk 6 (by decide),vk 8 (by decide)];obtain⟨k,h1,h2,h3⟩:=h.st hq;exact⟨k,h1,h2,h3⟩
 ·exact fun hq=>by
   rw[lk 11 (by decide)]at hq;rw[vk 11 (by decide),lk 12 (by decide),if_neg hl];obtain⟨p,h1,h2,h3⟩:=h.pt hq;rw[if_neg hl]at h3;exact⟨p,h1,h2,h3⟩
theorem RunF.s1 (h:RunF n W5 L V W tg) (hs:1<L.size) (hl:¬L.getD 12 false=true)  (nb9:¬L.getD 9 false=true) (nb10:¬L.getD 10 false=true) (nb4:¬L.getD 4 false=true) (hn:n<=maxLen):RunF n W5 (L.setIfInBounds 1 true) (updF V 1 (.slice (some ⟨W.heap.size,0,none⟩) n n)) (W.alloc (.cells (List.replicate n (.slice none 0 0)).toArray 39)) (updF tg W.heap.size 2):=by
 have lk:∀ j,j≠1->(L.setIfInBounds 1 true).getD j false=L.getD j false:=fun j hj=>by rw[getD_sets _ _ _ hs,if_neg hj]
 have vk:∀ j,j≠1->updF V 1 (.slice (some ⟨W.heap.size,0,none⟩) n n) j=V j:=fun j hj=>updF_ne _ _ hj;have hb:Below W.heap.size W (W.alloc (.cells (List.replicate n (.slice none 0 0)).toArray 39)):=bal;have hz:(W.alloc (.cells (List.replicate n (.slice none 0 0)).toArray 39)).heap.size=W.heap.size+1:=si
 have ht:∀ b,b<W.heap.size->updF tg W.heap.size 2 b=tg b:=fun b hbl=>updF_ne _ _ oz;have hsz:=h.bel.size;refine⟨?_,?_,?_,?_,?_,?_,?_,?_,?_,?_,?_,?_⟩
 ·exact h.bel.trans (hb.mono hsz)
 ·exact fun j hj hq=>by rw[lk j (by omega)]at hq;rw[vk j (by omega)];exact h.num j hj hq
 ·exact fun hq=>absurd (by rw[lk 4 (by decide)]at hq;exact hq) nb4
 ·exact fun hq=>absurd (by rw[lk 9 (by decide)]at hq;exact hq) nb9
 ·exact fun b hq=>by rw[updF_ne _ _ (by omega)];exact h.fr b oz
 ·exact fun b hq=>by
   by_cases e:b=W.heap.size
   ·omega
   ·rw[updF_ne _ _ e]at hq;exact h.lo b hq
 ·exact fun _=>by rw[show updF V 1 (.slice (some ⟨W.heap.size,0,none⟩) n n) 1=_ from updF_self _ _ _];exact MkRow.new W _ _ n 2 tg hn
 ·exact fun hq=>by rw[lk 3 (by decide)]at hq;rw[vk 3 (by decide)];exact(h.r3 hq).up hb ht
 ·exact fun hq=>by rw[lk 6 (by decide)]at hq;rw[vk 6 (by decide)];exact(h.r6 hq).up hb ht
 ·exact fun hq=>by rw[lk 8 (by decide)]at hq;rw[vk 8 (by decide)];exact(h.r8 hq).up hb ht
 ·exact fun hq=>absurd (by rw[lk 10 (by decide)]at hq;exact hq) nb10
 ·exact fun hq=>by
   rw[lk 11 (by decide)]at hq;rw[vk 11 (by decide),lk 12 (by decide),if_neg hl];obtain⟨p,h1,h2,h3⟩:=h.pt hq;rw[if_neg hl]at h3;exact⟨p,h1,by rw[ht p h3.1];exact h2,h3.below hb⟩
theorem RunF.s3 (h:RunF n W5 L V W tg) (hs:3<L.size) (hl:¬L.getD 12 false=true)  (nb9:¬L.getD 9 false=true) (nb10:¬L.getD 10 false=true) (nb4:¬L.getD 4 false=true) (hn:n<=maxLen):RunF n W5 (L.setIfInBounds 3 true) (updF V 3 (.slice (some ⟨W.heap.size,0,none⟩) n n)) (W.alloc (.cells (List.replicate n (.slice none 0 0)).toArray 50)) (updF tg W.heap.size 3):=by
 have lk:∀ j,j≠3->(L.setIfInBounds 3 true).getD j false=L.getD j false:=fun j hj=>by rw[getD_sets _ _ _ hs,if_neg hj]
 have vk:∀ j,j≠3->updF V 3 (.slice (some ⟨W.heap.size,0,none⟩) n n) j=V j:=fun j hj=>updF_ne _ _ hj;have hb:Below W.heap.size W (W.alloc (.cells (List.replicate n (.slice none 0 0)).toArray 50)):=bal;have hz:(W.alloc (.cells (List.replicate n (.slice none 0 0)).toArray 50)).heap.size=W.heap.size+1:=si
 have ht:∀ b,b<W.heap.size->updF tg W.heap.size 3 b=tg b:=fun b hbl=>updF_ne _ _ oz;have hsz:=h.bel.size;refine⟨?_,?_,?_,?_,?_,?_,?_,?_,?_,?_,?_,?_⟩
 ·exact h.bel.trans (hb.mono hsz)
 ·exact fun j hj hq=>by rw[lk j (by omega)]at hq;rw[vk j (by omega)];exact h.num j hj hq
 ·exact fun hq=>absurd (by rw[lk 4 (by decide)]at hq;exact hq) nb4
 ·exact fun hq=>absurd (by rw[lk 9 (by decide)]at hq;exact hq) nb9
 ·exact fun b hq=>by rw[updF_ne _ _ (by omega)];exact h.fr b oz
 ·exact fun b hq=>by
   by_cases e:b=W.heap.size
   ·omega
   ·rw[updF_ne _ _ e]at hq;exact h.lo b hq
 ·exact fun hq=>by rw[lk 1 (by decide)]at hq;rw[vk 1 (by decide)];exact(h.r1 hq).up hb ht
 ·exact fun _=>by rw[show updF V 3 (.slice (some ⟨W.heap.size,0,none⟩) n n) 3=_ from updF_self _ _ _];exact MkRow.new W _ _ n 3 tg hn
 ·exact fun hq=>by rw[lk 6 (by decide)]at hq;rw[vk 6 (by decide)];exact(h.r6 hq).up hb ht
 ·exact fun hq=>by rw[lk 8 (by decide)]at hq;rw[vk 8 (by decide)];exact(h.r8 hq).up hb ht
 ·exact fun hq=>absurd (by rw[lk 10 (by decide)]at hq;exact hq) nb10
 ·exact fun hq=>by
   rw[lk 11 (by decide)]at hq;rw[vk 11 (by decide),lk 12 (by decide),if_neg hl];obtain⟨p,h1,h2,h3⟩:=h.pt hq;rw[if_neg hl]at h3;exact⟨p,h1,by rw[ht p h3.1];exact h2,h3.below hb⟩
theorem RunF.s6 (h:RunF n W5 L V W tg) (hs:6<L.size) (hl:¬L.getD 12 false=true)  (nb9:¬L.getD 9 false=true) (nb10:¬L.getD 10 false=true) (hn:n<=maxLen):RunF n W5 (L.setIfInBounds 6 true) (updF V 6 (.slice (some ⟨W.heap.size,0,none⟩) n n)) (W.alloc (.cells (List.replicate n (.bool false)).toArray 4)) (updF tg W.heap.size 4):=by
 have lk:∀ j,j≠6->(L.setIfInBounds 6 true).getD j false=L.getD j false:=fun j hj=>by rw[getD_sets _ _ _ hs,if_neg hj]
 have vk:∀ j,j≠6->updF V 6 (.slice (some ⟨W.heap.size,0,none⟩) n n) j=V j:=fun j hj=>updF_ne _ _ hj;have hb:Below W.heap.size W (W.alloc (.cells (List.replicate n (.bool false)).toArray 4)):=bal;have hz:(W.alloc (.cells (List.replicate n (.bool false)).toArray 4)).heap.size=W.heap.size+1:=si
 have ht:∀ b,b<W.heap.size->updF tg W.heap.size 4 b=tg b:=fun b hbl=>updF_ne _ _ oz;have hsz:=h.bel.size;refine⟨?_,?_,?_,?_,?_,?_,?_,?_,?_,?_,?_,?_⟩
 ·exact h.bel.trans (hb.mono hsz)
 ·exact fun j hj hq=>by rw[lk j (by omega)]at hq;rw[vk j (by omega)];exact h.num j hj hq
 ·exact fun hq=>by rw[lk 4 (by decide)]at hq;rw[vk 4 (by decide),vk 1 (by decide),vk 3 (by decide)];exact h.b4 hq
 ·exact fun hq=>absurd (by rw[lk 9 (by decide)]at hq;exact hq) nb9
 ·exact fun b hq=>by rw[updF_ne _ _ (by omega)];exact h.fr b oz
 ·exact fun b hq=>by
   by_cases e:b=W.heap.size
   ·omega
   ·rw[updF_ne _ _ e]at hq;exact h.lo b hq
 ·exact fun hq=>by rw[lk 1 (by decide)]at hq;rw[vk 1 (by decide)];exact(h.r1 hq).up hb ht
 ·exact fun hq=>by rw[lk 3 (by decide)]at hq;rw[vk 3 (by decide)];exact(h.r3 hq).up hb ht
 ·exact fun _=>by rw[show updF V 6 (.slice (some ⟨W.heap.size,0,none⟩) n n) 6=_ from updF_self _ _ _];exact MkRow.new W _ _ n 4 tg hn
 ·exact fun hq=>by rw[lk 8 (by decide)]at hq;rw[vk 8 (by decide)];exact(h.r8 hq).up hb ht
 ·exact fun hq=>absurd (by rw[lk 10 (by decide)]at hq;exact hq) nb10
 ·exact fun hq=>by
   rw[lk 11 (by decide)]at hq;rw[vk 11 (by decide),lk 12 (by decide),if_neg hl];obtain⟨p,h1,h2,h3⟩:=h.pt hq;rw[if_neg hl]at h3;exact⟨p,h1,by rw[ht p h3.1];exact h2,h3.below hb⟩
theorem RunF.s8 (h:RunF n W5 L V W tg) (hs:8<L.size) (hl:¬L.getD 12 false=true)  (nb9:¬L.getD 9 false=true) (nb10:¬L.getD 10 false=true) (hn:n<=maxLen):RunF n W5 (L.setIfInBounds 8 true) (updF V 8 (.slice (some ⟨W.heap.size,0,none⟩) n n)) (W.alloc (.cells (List.replicate n (.int .i64 0)).toArray 3)) (updF tg W.heap.size 5):=by
 have lk:∀ j,j≠8->(L.setIfInBounds 8 true).getD j false=L.getD j false:=fun j hj=>by rw[getD_sets _ _ _ hs,if_neg hj]
 have vk:∀ j,j≠8->updF V 8 (.slice (some ⟨W.heap.size,0,none⟩) n n) j=V j:=fun j hj=>updF_ne _ _ hj;have hb:Below W.heap.size W (W.alloc (.cells (List.replicate n (.int .i64 0)).toArray 3)):=bal;have hz:(W.alloc (.cells (List.replicate n (.int .i64 0)).toArray 3)).heap.size=W.heap.size+1:=si
 have ht:∀ b,b<W.heap.size->updF tg W.heap.size 5 b=tg b:=fun b hbl=>updF_ne _ _ oz;have hsz:=h.bel.size;refine⟨?_,?_,?_,?_,?_,?_,?_,?_,?_,?_,?_,?_⟩
 ·exact h.bel.trans (hb.mono hsz)
 ·exact fun j hj hq=>by rw[lk j (by omega)]at hq;rw[vk j (by omega)];exact h.num j hj hq
 ·exact fun hq=>by rw[lk 4 (by decide)]at hq;rw[vk 4 (by decide),vk 1 (by decide),vk 3 (by decide)];exact h.b4 hq
 ·exact fun hq=>absurd (by rw[lk 9 (by decide)]at hq;exact hq) nb9
 ·exact fun b hq=>by rw[updF_ne _ _ (by omega)];exact h.fr b oz
 ·exact fun b hq=>by
   by_cases e:b=W.heap.size
   ·omega
   ·rw[updF_ne _ _ e]at hq;exact h.lo b hq
 ·exact fun hq=>by rw[lk 1 (by decide)]at hq;rw[vk 1 (by decide)];exact(h.r1 hq).up hb ht
 ·exact fun hq=>by rw[lk 3 (by decide)]at hq;rw[vk 3 (by decide)];exact(h.r3 hq).up hb ht
 ·exact fun hq=>by rw[lk 6 (by decide)]at hq;rw[vk 6 (by decide)];exact(h.r6 hq).up hb ht
 ·exact fun _=>by rw[show updF V 8 (.slice (some ⟨W.heap.size,0,none⟩) n n) 8=_ from updF_self _ _ _];exact MkRow.new W _ _ n 5 tg hn
 ·exact fun hq=>absurd (by rw[lk 10 (by decide)]at hq;exact hq) nb10
 ·exact fun hq=>by
   rw[lk 11 (by decide)]at hq;rw[vk 11 (by decide),lk 12 (by decide),if_neg hl];obtain⟨p,h1,h2,h3⟩:=h.pt hq;rw[if_neg hl]at h3;exact⟨p,h1,by rw[ht p h3.1];exact h2,h3.below hb⟩
theorem RunF.s4 (h:RunF n W5 L V W tg) (hs:4<L.size) (hl:¬L.getD 12 false=true) (d1:L.getD 1 false=true) (d3:L.getD 3 false=true)   : RunF n W5 (L.setIfInBounds 4 true) (updF V 4 (.agg #[V 1,V 3])) (W) (tg):=by
 have lk:∀ j,j≠4->(L.setIfInBounds 4 true).getD j false=L.getD j false:=fun j hj=>by rw[getD_sets _ _ _ hs,if_neg hj]
 have vk:∀ j,j≠4->updF V 4 (.agg #[V 1,V 3]) j=V j:=fun j hj=>updF_ne _ _ hj;refine⟨?_,?_,?_,?_,?_,?_,?_,?_,?_,?_,?_,?_⟩
 ·exact h.bel
 ·exact fun j hj hq=>by rw[lk j (by omega)]at hq;rw[vk j (by omega)];exact h.num j hj hq
 ·exact fun _=>by rw[updF_self,vk 1 (by decide),vk 3 (by decide)]
 ·exact fun hq=>by rw[lk 9 (by decide)]at hq;rw[vk 9 (by decide),vk 1 (by decide),vk 3 (by decide),vk 6 (by decide),vk 8 (by decide)];exact h.b9 hq
 ·exact h.fr
 ·exact h.lo
 ·exact fun hq=>by rw[lk 1 (by decide)]at hq;rw[vk 1 (by decide)];exact h.r1 hq
 ·exact fun hq=>by rw[lk 3 (by decide)]at hq;rw[vk 3 (by decide)];exact h.r3 hq
 ·exact fun hq=>by rw[lk 6 (by decide)]at hq;rw[vk 6 (by decide)];exact h.r6 hq
 ·exact fun hq=>by rw[lk 8 (by decide)]at hq;rw[vk 8 (by decide)];exact h.r8 hq
 ·exact fun hq=>by
   rw[lk 10 (by decide)]at hq;rw[vk 10 (by decide),vk 1 (by decide),vk 3 (by decide),vk 6 (by decide),vk 8 (by decide)];obtain⟨k,h1,h2,h3⟩:=h.st hq;exact⟨k,h1,h2,h3⟩
 ·exact fun hq=>by
   rw[lk 11 (by decide)]at hq;rw[vk 11 (by decide),lk 12 (by decide),if_neg hl];obtain⟨p,h1,h2,h3⟩:=h.pt hq;rw[if_neg hl]at h3;exact⟨p,h1,h2,h3⟩
theorem RunF.s9 (h:RunF n W5 L V W tg) (hs:9<L.size) (hl:¬L.getD 12 false=true)    : RunF n W5 (L.setIfInBounds 9 true) (updF V 9 (.agg #[V 1,V 3,V 6,V 8])) (W) (tg):=by
 have lk:∀ j,j≠9->(L.setIfInBounds 9 true).getD j false=L.getD j false:=fun j hj=>by rw[getD_sets _ _ _ hs,if_neg hj]
 have vk:∀ j,j≠9->updF V 9 (.agg #[V 1,V 3,V 6,V 8]) j=V j:=fun j hj=>updF_ne _ _ hj;refine⟨?_,?_,?_,?_,?_,?_,?_,?_,?_,?_,?_,?_⟩
 ·exact h.bel
 ·exact fun j hj hq=>by rw[lk j (by omega)]at hq;rw[vk j (by omega)];exact h.num j hj hq
 ·exact fun hq=>by rw[lk 4 (by decide)]at hq;rw[vk 4 (by decide),vk 1 (by decide),vk 3 (by decide)];exact h.b4 hq
 ·exact fun _=>by rw[updF_self,vk 1 (by decide),vk 3 (by decide),vk 6 (by decide),vk 8 (by decide)]
 ·exact h.fr
 ·exact h.lo
 ·exact fun hq=>by rw[lk 1 (by decide)]at hq;rw[vk 1 (by decide)];exact h.r1 hq
 ·exact fun hq=>by rw[lk 3 (by decide)]at hq;rw[vk 3 (by decide)];exact h.r3 hq
 ·exact fun hq=>by rw[lk 6 (by decide)]at hq;rw[vk 6 (by decide)];exact h.r6 hq
 ·exact fun hq=>by rw[lk 8 (by decide)]at hq;rw[vk 8 (by decide)];exact h.r8 hq
 ·exact fun hq=>by
   rw[lk 10 (by decide)]at hq;rw[vk 10 (by decide),vk 1 (by decide),vk 3 (by decide),vk 6 (by decide),vk 8 (by decide)];obtain⟨k,h1,h2,h3⟩:=h.st hq;exact⟨k,h1,h2,h3⟩
 ·exact fun hq=>by
   rw[lk 11 (by decide)]at hq;rw[vk 11 (by decide),lk 12 (by decide),if_neg hl];obtain⟨p,h1,h2,h3⟩:=h.pt hq;rw[if_neg hl]at h3;exact⟨p,h1,h2,h3⟩
theorem RunF.s10 (h:RunF n W5 L V W tg) (hs:10<L.size) (hl:¬L.getD 12 false=true)    : RunF n W5 (L.setIfInBounds 10 true) (updF V 10 (.pointer (some ⟨W.heap.size,0,none⟩))) (W.alloc (.cells #[V 1,V 3,V 6,V 8] 97)) (updF tg W.heap.size 1):=by
 have lk:∀ j,j≠10->(L.setIfInBounds 10 true).getD j false=L.getD j false:=fun j hj=>by rw[getD_sets _ _ _ hs,if_neg hj]
 have vk:∀ j,j≠10->updF V 10 (.pointer (some ⟨W.heap.size,0,none⟩)) j=V j:=fun j hj=>updF_ne _ _ hj;have hb:Below W.heap.size W (W.alloc (.cells #[V 1,V 3,V 6,V 8] 97)):=bal;have hz:(W.alloc (.cells #[V 1,V 3,V 6,V 8] 97)).heap.size=W.heap.size+1:=si
 have ht:∀ b,b<W.heap.size->updF tg W.heap.size 1 b=tg b:=fun b hbl=>updF_ne _ _ oz;have hsz:=h.bel.size;refine⟨?_,?_,?_,?_,?_,?_,?_,?_,?_,?_,?_,?_⟩
 ·exact h.bel.trans (hb.mono hsz)
 ·exact fun j hj hq=>by rw[lk j (by omega)]at hq;rw[vk j (by omega)];exact h.num j hj hq
 ·exact fun hq=>by rw[lk 4 (by decide)]at hq;rw[vk 4 (by decide),vk 1 (by decide),vk 3 (by decide)];exact h.b4 hq
 ·exact fun hq=>by rw[lk 9 (by decide)]at hq;rw[vk 9 (by decide),vk 1 (by decide),vk 3 (by decide),vk 6 (by decide),vk 8 (by decide)];exact h.b9 hq
 ·exact fun b hq=>by rw[updF_ne _ _ (by omega)];exact h.fr b oz
 ·exact fun b hq=>by
   by_cases e:b=W.heap.size
   ·omega
   ·rw[updF_ne _ _ e]at hq;exact h.lo b hq
 ·exact fun hq=>by rw[lk 1 (by decide)]at hq;rw[vk 1 (by decide)];exact(h.r1 hq).up hb ht
 ·exact fun hq=>by rw[lk 3 (by decide)]at hq;rw[vk 3 (by decide)];exact(h.r3 hq).up hb ht
 ·exact fun hq=>by rw[lk 6 (by decide)]at hq;rw[vk 6 (by decide)];exact(h.r6 hq).up hb ht
 ·exact fun hq=>by rw[lk 8 (by decide)]at hq;rw[vk 8 (by decide)];exact(h.r8 hq).up hb ht
 ·exact fun _=>⟨W.heap.size,updF_self _ _ _,by rw[vk 1 (by decide),vk 3 (by decide),vk 6 (by decide),vk 8 (by decide)];exact Own.new W [V 1,V 3,V 6,V 8] _,updF_self _ _ _⟩
 ·exact fun hq=>by
   rw[lk 11 (by decide)]at hq;rw[vk 11 (by decide),lk 12 (by decide),if_neg hl];obtain⟨p,h1,h2,h3⟩:=h.pt hq;rw[if_neg hl]at h3;exact⟨p,h1,by rw[ht p h3.1];exact h2,h3.below hb⟩
theorem RunF.s11 (h:RunF n W5 L V W tg) (hs:11<L.size) (hl:¬L.getD 12 false=true)    : RunF n W5 (L.setIfInBounds 11 true) (updF V 11 (.pointer (some ⟨W.heap.size,0,none⟩))) (W.alloc (.cells #[.pointer none] 95)) (updF tg W.heap.size 6):=by
 have lk:∀ j,j≠11->(L.setIfInBounds 11 true).getD j false=L.getD j false:=fun j hj=>by rw[getD_sets _ _ _ hs,if_neg hj]
 have vk:∀ j,j≠11->updF V 11 (.pointer (some ⟨W.heap.size,0,none⟩)) j=V j:=fun j hj=>updF_ne _ _ hj;have hb:Below W.heap.size W (W.alloc (.cells #[.pointer none] 95)):=bal;have hz:(W.alloc (.cells #[.pointer none] 95)).heap.size=W.heap.size+1:=si
 have ht:∀ b,b<W.heap.size->updF tg W.heap.size 6 b=tg b:=fun b hbl=>updF_ne _ _ oz;have hsz:=h.bel.size;refine⟨?_,?_,?_,?_,?_,?_,?_,?_,?_,?_,?_,?_⟩
 ·exact h.bel.trans (hb.mono hsz)
 ·exact fun j hj hq=>by rw[lk j (by omega)]at hq;rw[vk j (by omega)];exact h.num j hj hq
 ·exact fun hq=>by rw[lk 4 (by decide)]at hq;rw[vk 4 (by decide),vk 1 (by decide),vk 3 (by decide)];exact h.b4 hq
 ·exact fun hq=>by rw[lk 9 (by decide)]at hq;rw[vk 9 (by decide),vk 1 (by decide),vk 3 (by decide),vk 6 (by decide),vk 8 (by decide)];exact h.b9 hq
 ·exact fun b hq=>by rw[updF_ne _ _ (by omega)];exact h.fr b oz
 ·exact fun b hq=>by
   by_cases e:b=W.heap.size
   ·omega
   ·rw[updF_ne _ _ e]at hq;exact h.lo b hq
 ·exact fun hq=>by rw[lk 1 (by decide)]at hq;rw[vk 1 (by decide)];exact(h.r1 hq).up hb ht
 ·exact fun hq=>by rw[lk 3 (by decide)]at hq;rw[vk 3 (by decide)];exact(h.r3 hq).up hb ht
 ·exact fun hq=>by rw[lk 6 (by decide)]at hq;rw[vk 6 (by decide)];exact(h.r6 hq).up hb ht
 ·exact fun hq=>by rw[lk 8 (by decide)]at hq;rw[vk 8 (by decide)];exact(h.r8 hq).up hb ht
 ·exact fun hq=>by
   rw[lk 10 (by decide)]at hq;rw[vk 10 (by decide),vk 1 (by decide),vk 3 (by decide),vk 6 (by decide),vk 8 (by decide)];obtain⟨k,h1,h2,h3⟩:=h.st hq;exact⟨k,h1,h2.below hb,by rw[ht k h2.1];exact h3⟩
 ·exact fun _=>⟨W.heap.size,updF_self _ _ _,updF_self _ _ _,by rw[lk 12 (by decide),if_neg hl];exact Own.new W [.pointer none] _⟩
theorem RunF.s12 {p:Nat}(h:RunF n W5 L V W tg) (hs:12<L.size) (hl:¬L.getD 12 false=true) (d11:L.getD 11 false=true) (hp:V 11=.pointer (some ⟨p,0,none⟩)) (x:Value):RunF n W5 (L.setIfInBounds 12 true) (updF V 12 x) (W.setCell ⟨p,0,none⟩ (V 10)) tg:=by
 have lk:∀ j,j≠12->(L.setIfInBounds 12 true).getD j false=L.getD j false:=fun j hj=>by rw[getD_sets _ _ _ hs,if_neg hj]
 have vk:∀ j,j≠12->updF V 12 x j=V j:=fun j hj=>updF_ne _ _ hj;obtain⟨q,g1,g2,g3⟩:=h.pt d11;rw[hp]at g1;cases g1;rw[if_neg hl]at g3;have hlo:=h.lo p oz;have hc:Chg (· = p) W (W.setCell ⟨p,0,none⟩ (V 10)):=chgSet W p 0 (V 10);have no:∀ {e:TypeId}{z v:Value}{t:Nat},t≠6->MkRow W e z n v tg t->MkRow (W.setCell ⟨p,0,none⟩ (V 10)) e z n v tg t:=fun hne ⟨b,h1,h2,h3⟩=>by
  subst h1;exact⟨b,rfl,rowB_chg hc h2 (fun e=>hne (by rw[<-h3,e,g2])),h3⟩
 refine⟨?_,?_,?_,?_,?_,?_,?_,?_,?_,?_,?_,?_⟩
 ·exact h.bel.setCell (p:=⟨p,0,none⟩) hlo _
 ·exact fun j hj hq=>by rw[lk j (by omega)]at hq;rw[vk j (by omega)];exact h.num j hj hq
 ·exact fun hq=>by rw[lk 4 (by decide)]at hq;rw[vk 4 (by decide),vk 1 (by decide),vk 3 (by decide)];exact h.b4 hq
 ·exact fun hq=>by rw[lk 9 (by decide)]at hq;rw[vk 9 (by decide),vk 1 (by decide),vk 3 (by decide),vk 6 (by decide),vk 8 (by decide)];exact h.b9 hq
 ·exact fun b hq=>h.fr b (Nat.le_trans hc.size hq)
 ·exact h.lo
 ·exact fun hq=>by rw[lk 1 (by decide)]at hq;rw[vk 1 (by decide)];exact no dc (h.r1 hq)
 ·exact fun hq=>by rw[lk 3 (by decide)]at hq;rw[vk 3 (by decide)];exact no dc (h.r3 hq)
 ·exact fun hq=>by rw[lk 6 (by decide)]at hq;rw[vk 6 (by decide)];exact no dc (h.r6 hq)
 ·exact fun hq=>by rw[lk 8 (by decide)]at hq;rw[vk 8 (by decide)];exact no dc (h.r8 hq)
 ·exact fun hq=>by
   rw[lk 10 (by decide)]at hq;rw[vk 10 (by decide),vk 1 (by decide),vk 3 (by decide),vk 6 (by decide),vk 8 (by decide)];obtain⟨k,h1,h2,h3⟩:=h.st hq;exact⟨k,h1,hc.own h2 (fun e=>by rw[e,g2]at h3;omega),h3⟩
 ·exact fun _=>⟨p,by rw[vk 11 (by decide)];exact hp,g2,by
   rw[getD_sets _ _ _ hs,if_pos rfl,if_pos rfl,vk 10 (by decide)];exact g3.set 0 _ si⟩
end
end
end Go.Proofs.YteebpnbdihcfmaaGreatDoor
