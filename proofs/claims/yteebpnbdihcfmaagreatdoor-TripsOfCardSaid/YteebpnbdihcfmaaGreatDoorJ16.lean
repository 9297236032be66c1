/- Plain law; loops; Loops in memory of one; The parents of loops; R12 -/
import Derived.Test.YteebpnbdihcfmaaGreatDoorJ11
import Derived.Deep.RegionLawGrows
set_option linter.unusedVariables false
set_option linter.unusedSimpArgs false
set_option maxRecDepth 100000
set_option maxHeartbeats 20000000
namespace Go.Proofs.YteebpnbdihcfmaaGreatDoor
open Go.RowKit
theorem aT2 {p:Prop}(h:p:=by
 refine⟨⟨k+1,L,oz,si,qd (hL.out.below hft),qd (by rw[hL0.out,HPS.out]),hLl,hbx.trans (hft.mono hbx.size)⟩,?_⟩;go_light;exact ml):p:=h
theorem GE.{u}:(∀ {α:Type u}(l:List α) (i:Nat) (h:i<l.toArray.size),l.toArray[i]=l[i]'(by simpa using h))/\(∀ {α:Type u}(a:α) (l:List α) (i:Nat) (h:i+1<(a::l).length),(a::l)[i+1]=l[i]'(by simpa using h))/\(∀ {α:Type u}(a:α) (l:List α) (h:0<(a::l).length),(a::l)[0]=a):=⟨fun l i h=>by simp,fun _ _ _ _=>rfl,fun _ _ _=>rfl⟩
theorem MX.{u,v}:(∀ {α:Type u}{β:Type v}(f:α->β) (l:List α),l.toArray.map f=(l.map f).toArray)/\(∀ {α:Type u}{β:Type v}(f:α->β) (a:α) (l:List α),(a::l).map f=f a::l.map f)/\(∀ {α:Type u}{β:Type v}(f:α->β),([]:List α).map f=[]) :=
  ⟨fun _ _=>by simp,fun _ _ _=>rfl,fun _=>rfl⟩
section
theorem mE.perm {nx:Int->List Int}{b0:Int->Bool}{t0:List Int}{been:Int->Bool}{t t':List Int}(h:mE nx b0 t0 been t) (e:∀ x,x∈t↔x∈t'):mE nx b0 t0 been t' :=
 ⟨fun x hx=>h.tr x ((e x).2 hx),h.br,h.b0b,fun x hx=>(h.t0t x hx).imp (e x).1 id,fun x h1 h2 y hy=>(h.cl x h1 h2 y hy).imp (e y).1 id⟩
/-- what can be reached from the first one by ways without one instruction -/
inductive WR (f:aC) (g:Int):Nat->Prop
 | zero:g≠0->WR f g 0
 | step (u v:Nat):WR f g u->(v:Int)∈aY f u->(v:Int)≠g->WR f g v
theorem WR.rch {f:aC}{g:Int}{v:Nat}(h:WR f g v):lA f v:=by
 induction h with
 | zero=>exact .zero
 | step u v _ h1 _ ih=>exact .step u v ih h1
theorem aU7 {f:aC}{g:Int}(hg:g<0) (v:Nat):WR f g v↔lA f v:=by
 refine⟨WR.rch,fun h=>?_⟩
 induction h with
 | zero=>exact .zero oz
 | step u v _ h1 ih=>exact .step u v ih h1 oz
theorem aVo {f:aC}{v u:Nat}:WR f v u↔v≠0/\Wx (jL f) v 0 u:=by
 constructor
 ·intro h
  induction h with
  | zero h0=>exact⟨oz,.refl⟩
  | step u w hu h1 h2 ih=>exact⟨ih.1,.step u w ih.2 ⟨hu.rch,h1⟩ oz⟩
 ·rintro⟨h0,h⟩
  induction h with
  | refl=>exact .zero oz
  | step u w _ he hx ih=>exact .step u w ih he.2 oz
open Classical in
theorem aQx {f:aC}{v u:Nat}:kL f v u=true↔¬WR f v u:=by rw[aVo];unfold kL;exact decide_eq_true_iff
open Classical in
noncomputable def lI (f:aC) (g:Int):List Bool:=(List.range f.code.length).map fun v=>decide (WR f g v)
theorem vX:∀ (n:Nat) (l:List Nat),l.Nodup->(∀ v∈l,v<n)->l.length<=n
 | 0,l,_,h=>by
  cases l with
  | nil=>exact Nat.le_refl _
  | cons x l=>exact absurd (h x si) (Nat.not_lt_zero x)
 | n+1,l,hd,h=>by
  by_cases hn:n∈l
  ·have h1:=vX n (l.erase n) (hd.erase n) (fun v hv=>by
    obtain⟨h2,h3⟩:=(hd.mem_erase_iff).1 hv;have:=h v h3;omega)
   rw[List.length_erase_of_mem hn]at h1;omega
  ·have h1:=vX n l hd (fun v hv=>by
    have:=h v hv;have:v≠n:=fun e=>hn (e▸hv);omega)
   omega
/-- a search by a row that grows; i: so many of the row have been gone through, of the next one k ways -/
structure lT (f:aC) (g:Int) (can:List Bool) (todo:List Nat) (i k:Nat):Prop where
 len:can.length=f.code.length
 nd:todo.Nodup
 mem:∀ v,can.getD v false=true↔v∈todo
 lt:∀ v∈todo,v<f.code.length
 wr:∀ v∈todo,WR f g v
 st:0∈todo
 cl:∀ j u,todo[j]? = some u->j<i->∀ t∈aY f u,t≠g->t.toNat∈todo
 cn:∀ u,todo[i]? = some u->∀ t∈(aY f u).take k,t≠g->t.toNat∈todo
section
variable {f : aC} {g : Int} {can : List Bool} {todo : List Nat} {i k : Nat}
theorem lT.size (h:lT f g can todo i k):todo.length<=f.code.length:=by
 exact vX _ _ h.nd h.lt
theorem lT.next (h:lT f g can todo i k) {u:Nat}(hu:todo[i]? = some u) (hk:(aY f u).length<=k):lT f g can todo (i+1) 0:=by
 refine⟨h.len,h.nd,h.mem,h.lt,h.wr,h.st,fun j w hw hj t ht hg=>?_,fun _ _ t ht=>by simp at ht⟩;by_cases e:j=i
 ·subst e;rw[hu]at hw;cases hw;exact h.cn u hu t (by rw[List.take_of_length_le hk];exact ht) hg
 ·exact h.cl j w hw oz t ht hg
/-- a way that was gone before, or that is not to be gone -/
theorem lT.skip (h:lT f g can todo i k) {u t:Nat}(hu:todo[i]? = some u) (ht:(aY f u)[k]? = some (t:Int)) (hs:(t:Int)=g\/can.getD t false=true):lT f g can todo i (k+1):=by
 refine⟨h.len,h.nd,h.mem,h.lt,h.wr,h.st,h.cl,fun w hw q hq hg=>?_⟩;rw[hu]at hw;cases hw;rw[List.take_add_one,ht]at hq;rcases List.mem_append.1 hq with hq|hq
 ·exact h.cn u hu q hq hg
 ·have:q=(t:Int):=by simpa using hq
  subst this;rcases hs with hs|hs
  ·exact absurd hs hg
  ·rw[Int.toNat_natCast];exact(h.mem t).1 hs
/-- a new one -/
theorem lT.push (h:lT f g can todo i k) {u t:Nat}(hu:todo[i]? = some u) (ht:(aY f u)[k]? = some (t:Int)) (hg:(t:Int)≠g) (hc:can.getD t false=false):lT f g (can.set t true) (todo++[t]) i (k+1):=by
 have htm:=List.mem_of_getElem? ht;have htn:t<f.code.length:=by have:=gQ f u _ htm;omega
 have hnt:t∉todo:=fun e=>by rw[(h.mem t).2 e]at hc;cases hc
 have hul:=(List.getElem?_eq_some_iff.1 hu).1;have hget:∀ j w,(todo++[t])[j]? = some w->j<=i->todo[j]? = some w:=fun j w hw hj=>by
  rw[List.getElem?_append_left (by omega)]at hw;exact hw
 refine⟨by simp[h.len],?_,fun v=>?_,fun v hv=>?_,fun v hv=>?_,by simp[h.st],fun j w hw hj q hq hgq=>?_,fun w hw q hq hgq=>?_⟩
 ·rw[List.nodup_append];exact⟨h.nd,si,fun a ha b hb=>by simp at hb;subst hb;exact fun e=>hnt (e▸ha)⟩
 ·have e:(can.set t true).getD v false=if t=v/\t<can.length then true else can.getD v false:=by
   simp only[List.getD_eq_getElem?_getD];by_cases e:t=v
   ·subst e;rw[if_pos ⟨rfl,by rw[h.len];exact htn⟩,List.getElem?_set_self (by rw[h.len];exact htn)];rfl
   ·rw[if_neg (fun q=>e q.1),List.getElem?_set_ne e]
  rw[e,List.mem_append,List.mem_singleton];split
  ·rename_i q;simp[q.1]
  ·rename_i q;rw[h.mem v];constructor
   ·exact .inl
   ·rintro(a|a)
    ·exact a
    ·exact absurd ⟨a.symm,by rw[h.len];exact htn⟩ q
 ·rcases List.mem_append.1 hv with hv|hv
  ·exact h.lt v hv
  ·rw[List.mem_singleton]at hv;omega
 ·rcases List.mem_append.1 hv with hv|hv
  ·exact h.wr v hv
  ·rw[List.mem_singleton]at hv;subst hv;exact .step u v (h.wr u (List.mem_of_getElem? hu)) htm hg
 ·exact List.mem_append_left _ (h.cl j w (hget j w hw oz) hj q hq hgq)
 ·have hw2:=hget i w hw lr;rw[hu]at hw2;cases hw2;rw[List.take_add_one,ht]at hq;rcases List.mem_append.1 hq with hq|hq
  ·exact List.mem_append_left _ (h.cn u hu q hq hgq)
  ·have:q=(t:Int):=by simpa using hq
   subst this;rw[Int.toNat_natCast];simp
open Classical in
theorem lT.done (h:lT f g can todo i k) (hi:todo.length<=i):can=lI f g:=by
 have hall:∀ v,v∈todo↔WR f g v:=fun v=>by
  refine⟨h.wr v,fun hv=>?_⟩
  induction hv with
  | zero _=>exact h.st
  | step u v _ h1 h2 ih =>
   obtain⟨j,hj⟩:=List.getElem?_of_mem ih;have:=h.cl j u hj (by have:=(List.getElem?_eq_some_iff.1 hj).1;omega) _ h1 h2
   rwa [Int.toNat_natCast]at this
 unfold lI;apply List.ext_getElem (by simp[h.len]);intro v h1 h2;rw[List.getElem_map,List.getElem_range];have hm:=h.mem v;rw[List.getD_eq_getElem?_getD,List.getElem?_eq_getElem h1,hall v]at hm;have hm':can[v]=true↔WR f g v:=hm;by_cases hw:WR f g v
 ·rw[hm'.2 hw,decide_eq_true hw]
 ·rw[decide_eq_false hw];cases e:can[v]with
  | false=>rfl
  | true=>exact absurd (hm'.1 e) hw
end
theorem lT.start {f:aC}{g:Int}(h0:0<f.code.length) (hg:g≠0):lT f g ((List.replicate f.code.length false).set 0 true) [0] 0 0:=by
 refine⟨si,si,fun v=>?_,fun v hv=>by simp at hv;omega,fun v hv=>by simp at hv;subst hv;exact .zero hg,si,fun _ _ _ hj=>by omega,fun _ _ t ht=>by simp at ht⟩;have e:((List.replicate f.code.length false).set 0 true).getD v false=decide (v=0):=by
  simp only[List.getD_eq_getElem?_getD];by_cases e:v=0
  ·subst e;rw[List.getElem?_set_self (by simpa using h0)];rfl
  ·rw[List.getElem?_set_ne (Ne.symm e),List.getElem?_replicate];split<;>simp[e]
 rw[e];simp
open Classical in
theorem aL6 (f:aC):lI f 0=List.replicate f.code.length false:=by
 have hn:∀ v,¬WR f 0 v:=fun v h=>by
  induction h with
  | zero h=>exact h rfl
  | step _ _ _ _ _ ih=>exact ih
 unfold lI;apply List.ext_getElem si;intro v h1 h2;rw[List.getElem_map,List.getElem_replicate,decide_eq_false (hn _)]
open Classical in
theorem aQ1 (f:aC) {g:Int}(hg:g<0):lI f g=dY f:=by
 unfold lI dY;apply List.map_congr_left;intro v _;rw[decide_eq_decide];exact aU7 hg v
end
theorem uS {p:Prop}(h:p:=by
 rw[<-hW0];exact aF.new _ _ _):p:=h
theorem aFp (lo b0 n:Nat) (G:Nat->Nat->List Int) (S:Nat->Nat->Option Value) (w:World) (hg:bG w lo b0 n G S) (hB:aI6 G) (v:Nat) (hv:v<1024) :
 Calls Tryz.prog 52 #[.agg #[.map (some b0),.map (some (b0+1)),.map (some (b0+2))],.int .i64 v] w fun e w'=>∃ b q,e=.returned (.map (some b))/\w.heap.size<=b/\bY w' b q (iV (gS G v))/\Below w.heap.size w w':=by
 have hmm:=@run_makeMap Tryz.prog;have HG:=qd hg;clear hg;have hvi:=dI hv;go_enter Tryz.func52,Tryz.ntmps52;go_upto_region 1 with(fail)
 generalize hW0:World.alloc _ _=W0;have hb0:Below w.heap.size w W0:=by rw[<-hW0];exact bel
 have OB0:aF W0 w.heap.size [.map (some b0),.map (some (b0+1)),.map (some (b0+2))]:=uS
 have hz00:W0.heap.size=w.heap.size+1:=by rw[<-hW0];simp
 have hMa:bY (W0.alloc (.map #[] 0)) (w.heap.size+1) 0 (fun _=>none):=by have h:=bY.made W0;rwa [hz00]at h
 have hba:Below W0.heap.size W0 (W0.alloc (.map #[] 0)):=eN;obtain⟨W1,hrun1,hM1,hc1⟩:=hMa.set Tryz.mapU dc hvi (.agg #[]);have hz1:=hc1.size;simp only[World.size_alloc]at hz1;have e0:tV (fun _=>none) (v:Int) (.agg #[])=iV (fun x=>decide (x=(v:Int))):=by
  funext i;unfold tV iV;by_cases h:i=(v:Int)<;>simp[h]
 rw[e0]at hM1;have hba1:Below w.heap.size w (W0.alloc (.map #[] 0)):=hb0.trans (hba.mono oz);have hb1':Below w.heap.size w W1:=hba1.trans (hc1.below _ (by simp;omega) (fun k hk e=>by omega));have OB1:=hc1.own (OB0.below hba) oz;go_upto_region 2 with(fail)
 clear hrun1 hmm hba1 hba hMa OB0 hc1 hb0 e0;clear hW0
 try rw[hz00]
 have hz0:w.heap.size+2<=W1.heap.size:=oz
 clear hz1;have hg0:=HG.out.below hb1';have b3:=gV OB1;have hlk:=(hg0.map 2 dc).get Tryz.mapS pE hvi;rw[fC]at hlk;have hrow:=hg0.row (c:=2) (v:=v) dc;have hnil:=hg0.nil (c:=2) (v:=v) dc;have hln:=hB.ln 2 v;have HB0:=qd OB1;have HM0:=qd hM1;have HR0:=qd hrow;clear hg0 OB1 hM1 hrow;generalize (S 2 v).getD kN=sv at *;go_wp2_with (first|(at_builtin;refine dD rfl (.const (.slice none 0 0)) (.tmp 17) 50 3 1 8 (.int .i64 0) rfl Tryz.underlying50 Tryz.infoI rfl dc (.slice none 0 0) 0 [] rfl (World.ownsRow_nil _ _ _ _) sv (G 2 v).length (aR (G 2 v)) rfl HR0.out hnil (bZ _) bH oz ?_;intro u6 w1 hr1 hc1 hg1)|fail)
 have hb01:Below W1.heap.size W1 w1:=hc1.below _ lr (fun k _ e=>by cases e);have hz1:=hb01.size;have hb1:Below w.heap.size w w1:=hb1'.trans (hb01.mono oz);have hg1':∀ j,u6.ownBlock=some j->w.heap.size+2<=j:=fun j hj=>by
  rcases hg1 j hj with h|h
  ·cases h
  ·omega
 rw[Nat.zero_add,List.nil_append]at hr1;have HB1:=qd (HB0.out.below hb01);have HM1:=qd (HM0.out.below hb01);have HR1:=qd hr1;have HS:=qd (mE.start (nx:=xS G 0) (b0:=fun x=>decide (x=(v:Int))) (t0:=G 2 v));have hk0:iU (fun x=>decide (x=(v:Int))) (G 2 v)<=8396800:=aE4 oz;have hz1':w.heap.size+2<=w1.heap.size:=oz
 clear HB0 HM0 HR0 hr1 hc1 hg1 hb01 hb1' hz1 hz0 hlk b3 hnil
 go_loopg [6] (iU (fun x=>decide (x=(v:Int))) (G 2 v)) (fun k v6 wr=>∃ (been:Int->Bool) (todo:List Int) (m:Nat),k=iU been todo/\Hid (mE (xS G 0) (fun x=>decide (x=(v:Int))) (G 2 v) been todo)/\m+k<=8396801/\Below w.heap.size w wr/\w.heap.size+2<=wr.heap.size/\Hid (aF wr w.heap.size [.map (some b0),.map (some (b0+1)),.map (some (b0+2))])/\Hid (bY wr (w.heap.size+1) m (iV been))/\(∀ j,v6.ownBlock=some j->w.heap.size+2<=j)/\Hid (wr.ownsRow 0 3 1 v6 todo.length (aR todo)))
 case atStart=>exact⟨_,_,1,rfl,HS,oz,hb1,hz1',HB1,HM1,hg1',HR1⟩
 case round =>
  clear hb1 hz1' HB1 HM1 hg1' HR1 HS hk0;obtain⟨been,todo,m,rfl,hI,hm,hbr,hz,hb,hM,hvb,ht⟩:=hrel;have b3:=gV hb.out;rcases lD todo with rfl|⟨t,x,rfl⟩
  ·obtain⟨va,vc,rfl⟩:∃ va vc,u6=.slice va 0 vc:=by
    exact aHj
   go_wp2;go_ret;go_light;refine⟨w.heap.size+1,m,rfl,oz,?_,hbr⟩;have e:iV (gS G v)=iV been:=by
    funext i;have h:=hI.out.done i;unfold iV;congr 1;have e2:gS G v i=been i:=by
     rw[Bool.eq_iff_iff,h];unfold gS;simp
    rw[e2]
   rw[e];exact hM.out
  ·have hln2:(t++[x]).length=t.length+1:=si
   have hlt:t.length+1<=8396801:=by
    have:=qV (been:=been) (t:=t++[x]);rw[hln2]at this;omega
   have hT2:=ht.out;rw[hln2]at hT2;obtain⟨g,c,rfl,hgc,hgm,hgl⟩:=bB hT2 oz;have hgm':c<=9223372036854775807:=hgm;have t0:=aH hT2 (aV (show(t++[x])[t.length]? = some x by simp));have hw1:IntKind.i64.wrap ((t.length:Int)+1-1)=(t.length:Int):=tU
   have j1:(0:Int)<(t.length:Int)+1:=oz
   obtain⟨a,rfl,ha⟩:=Cl.nat hB (hI.out.tr x si);have hpop:=pL hT2 t.length oz;rw[Nat.mul_one,show(aR (t++[(a:Int)])).take t.length=aR t by rw[bK,<-pX t,List.take_left]]at hpop;have hvg:=hvb g rfl;have HP:=qd hpop;clear hpop hT2 ht;have hlk:=hM.out.getOk Tryz.mapU aRi (dI ha);rw[(nZ been a).1,(nZ been a).2]at hlk;have hmk:=qd (fun hb=>hI.out.mark (a:=(a:Int)) hb);have hdp:=qd (fun hb=>hI.out.drop (a:=(a:Int)) hb);have hlm:=qd (fun(hb:been (a:Int)=false)=>yP (nx:=xS G 0) (been:=been) (t:=t) ha hb (hB.ln 0 _));have hld:=qd (aAf (been:=been) (t:=t) (a:=(a:Int)));cases hba:been (a:Int)
   ·rw[hba]at hlk;go_upto_region 8 with(fail)
    have hbA:Below wr.heap.size wr (wr.alloc (.cells #[] 111)):=eN;generalize hWA:wr.alloc (.cells #[] 111)=WA at *;have hzA:=hbA.size;have hmq:m<maxLen:=by unfold maxLen;omega
    obtain⟨W2,hrun2,hM2,hc2⟩:=(hM.out.below hbA).set Tryz.mapU hmq (dI ha) (.agg #[]);rw[uD]at hM2;have hz2:=hc2.size;have hbw:Below w.heap.size w WA:=hbr.trans (hbA.mono oz);have hb2:Below w.heap.size w W2:=hbw.trans (hc2.below _ oz (fun k hk e=>by omega));have OB2:=hc2.own (hb.out.below hbA) oz;have b3':=gV OB2;have P2:=aN hc2 (aA hbA HP.out) (fun k hk e=>by have h7:g=k:=eL hk;omega);have hg2:=HG.out.below hb2;have hlk2:=(hg2.map 0 dc).get Tryz.mapS pE (dI ha);rw[fC]at hlk2
    try rw[Nat.add_zero]at hlk2
    have hrow2:=hg2.row (c:=0) (v:=a) dc;have hnil2:=hg2.nil (c:=0) (v:=a) dc;have hln3:=hB.ln 0 a;have hlm2:=hlm.out hba;have hmk2:=qd (hmk.out hba);unfold xS at hlm2;rw[Int.toNat_natCast]at hlm2;have hnx:xS G 0 (a:Int)=G 0 a:=by unfold xS;rw[Int.toNat_natCast]
    have HNX:=qd hnx;clear hnx;have hsl:(t++G 0 a).length<=iU (gJ been (a:Int)) (t++G 0 a):=qV;rw[List.length_append]at hsl;have HLM:=qd hlm2;have HR2:=qd hrow2;have HP2:=qd P2;have HO2:=qd OB2;have HM2:=qd hM2;have hz3:w.heap.size+2<=W2.heap.size:=oz
    have hvg2:∀ k,(Value.slice (some ⟨g,0,none⟩) t.length c).ownBlock=some k->k=g:=fun k hk=>by simpa[Value.ownBlock,eq_comm]using hk
    clear hM2 OB2 P2 hrow2 hg2 hlk b3 hb HP hM hbA hWA hc2 hbw hbr hmk hdp hlm hld hI hlm2;generalize (S 0 a).getD kN=sv2 at *;go_wp2_with (first|(at_builtin;refine dD rfl (.tmp 44) (.tmp 48) 50 3 1 8 (.int .i64 0) rfl Tryz.underlying50 Tryz.infoI rfl dc _ t.length (aR t) rfl HP2.out sv2 (G 0 a).length (aR (G 0 a)) rfl HR2.out hnil2 (bZ _) bH oz ?_;intro u7 w3 hr3 hc3 hg3)|fail)
    have hz4:=hc3.size;rw[<-bK,<-List.length_append]at hr3
    go_roundg (iU (gJ been (a:Int)) (t++G 0 a))
    case measure=>exact HLM.out
    case rel =>
     refine⟨gJ been (a:Int),t++G 0 a,m+1,rfl,qd (HNX.out▸hmk2.out),by have:=HLM.out;omega,hb2.trans (hc3.below _ hb2.size (fun k hk e=>by have:=hvg2 k e;omega)),oz,qd (hc3.own HO2.out (fun e=>by have:=hvg2 _ e;omega)),qd (HM2.out.chg hc3 (fun e=>by have:=hvg2 _ e;omega)),?_,qd hr3⟩;exact aM8
   ·rw[hba]at hlk;go_wp2
    go_roundg (iU been t)
    case measure=>exact hld.out
    case rel =>
     have hbA:Below wr.heap.size wr (wr.alloc (.cells #[] 111)):=eN;have:=hbA.size;exact⟨been,t,m,rfl,qd (hdp.out hba),by have:=hld.out;omega,hbr.trans (hbA.mono oz),oz,qd (hb.out.below hbA),qd (hM.out.below hbA),fun j hj=>hvb j hj,qd (aA hbA HP.out)⟩
section
theorem pY.mono {B B':Nat}{a:Option Addr}{n b o:Nat}(h:pY B a n b o) (hB:B<=B'):pY B' a n b o:=fun h0=>⟨(h h0).1,Nat.lt_of_lt_of_le (h h0).2 hB⟩
theorem aZ.mono {B B':Nat}{w:World}{h:HF}{f:aC}(k:aZ B w h f) (hB:B<=B'):aZ B' w h f:=by
 obtain⟨h1,⟨a1,a2,b,o,a3,a4⟩,⟨c1,c2,b',o',c3,c4⟩,h4,h5⟩:=k;exact⟨h1,⟨a1,a2,b,o,a3.mono hB,a4⟩,⟨c1,c2,b',o',c3.mono hB,c4⟩,h4,h5⟩
theorem aTq {α:Type}(f:α->List Value) (hf:∀ a,(f a).length=4):∀ (l:List α) (i c:Nat),c<4->(l.flatMap f)[i*4+c]? = (l[i]?).bind fun a=>(f a)[c]?
 | [],i,c,hc=>by simp
 | a::l,0,c,hc=>by
  rw[List.flatMap_cons,List.getElem?_append_left (by rw[hf];omega)];simp
 | a::l,i+1,c,hc=>by
  rw[List.flatMap_cons,List.getElem?_append_right (by rw[hf];omega),hf,show(i+1)*4+c-4=i*4+c by omega,aTq f hf l i c hc];simp
abbrev jR:=cE×Value×Value
def gT (t:jR):List Value:=[.int .i64 t.1.head,.int .i64 t.1.parent,t.2.1,t.2.2]
def mJ (L:List jR):List Value:=L.flatMap gT
theorem aH6 (L:List jR):(mJ L).length=L.length*4:=by
 unfold mJ
 induction L with
 | nil=>rfl
 | cons a l ih=>rw[List.flatMap_cons,List.length_append,ih];simp[gT];omega
theorem qY (L:List jR) (i c:Nat) (hc:c<4):(mJ L)[i*4+c]? = (L[i]?).bind fun t=>(gT t)[c]? := aTq gT (fun _=>rfl) L i c hc
theorem aD9 (L:List jR) (t:jR):mJ (L++[t])=mJ L++gT t:=by simp[mJ]
def oO (t:jR) (k:Int):jR:=({ t.1 with parent:=k },t.2)
theorem aG3 (L:List jR) (i:Nat) (k:Int) (t:jR) (ht:L[i]? = some t):(mJ L).set (i*4+1) (.int .i64 k)=mJ (L.set i (oO t k)):=by
 have hi:i<L.length:=(List.getElem?_eq_some_iff.1 ht).1;apply List.ext_getElem?;intro n;have hn:n=n / 4*4+n%4:=oz
 by_cases e:n=i*4+1
 ·subst e;rw[List.getElem?_set_self (by rw[aH6];omega),qY _ _ _ (by omega),List.getElem?_set_self hi];rfl
 ·rw[List.getElem?_set_ne (by omega)];rw[hn,qY _ _ _ (by omega),qY _ _ _ (by omega)];by_cases e2:n / 4=i
  ·rw[e2,List.getElem?_set_self hi,ht];have h1:n%4≠1:=oz
   have h2:n%4<4:=oz
   generalize n%4=c at *;simp only[Option.bind_some];obtain rfl|rfl|rfl:c=0\/c=2\/c=3:=oz
   all_goals rfl
  ·rw[List.getElem?_set_ne (by omega)]
structure bR (W:World) (v:Value) (L:List jR):Prop where
 row:W.ownsRow 0 52 4 v L.length (mJ L)
 each:∀ t∈L,W.ownsRow 0 3 1 t.2.1 t.1.members.length (aR t.1.members)/\W.ownsRow 0 3 1 t.2.2 t.1.backs.length (aR t.1.backs)
 dis:∀ t∈L,∀ k,v.ownBlock=some k->t.2.1.ownBlock≠some k/\t.2.2.ownBlock≠some k
section
variable {W W' : World} {v : Value} {L : List jR}
theorem bR.below (h:bR W v L) (hb:Below W.heap.size W W'):bR W' v L :=
 ⟨aA hb h.row,fun t ht=>⟨aA hb (h.each t ht).1,aA hb (h.each t ht).2⟩,h.dis⟩
theorem bR.nil (W:World):bR W (.slice none 0 0) []:=⟨World.ownsRow_nil _ _ _ _,fun t ht=>by simp at ht,fun t ht=>by simp at ht⟩
theorem bR.form (h:bR W v L):∃ a c,v=.slice a L.length c:=by
 rcases bU h.row with⟨h1,h2,_⟩|⟨g,c,h1,_⟩
 ·exact⟨none,0,by rw[h1,h2]⟩
 ·exact⟨_,c,h1⟩
/-- a loop more -/
theorem bR.push {v':Value}{t:jR}(h:bR W v L) (hr:W'.ownsRow 0 52 4 v' (L.length+1) (mJ L++gT t)) (hc:aG (fun k=>v.ownBlock=some k) W W')
 (hb:∀ k,v'.ownBlock=some k->v.ownBlock=some k\/W.heap.size<=k) (h1:W.ownsRow 0 3 1 t.2.1 t.1.members.length (aR t.1.members)) (h2:W.ownsRow 0 3 1 t.2.2 t.1.backs.length (aR t.1.backs))
 (h3:∀ k,v.ownBlock=some k->t.2.1.ownBlock≠some k/\t.2.2.ownBlock≠some k):bR W' v' (L++[t]):=by
 have key:∀ t'∈L++[t],(W.ownsRow 0 3 1 t'.2.1 t'.1.members.length (aR t'.1.members)/\W.ownsRow 0 3 1 t'.2.2 t'.1.backs.length (aR t'.1.backs))/\∀ k,v.ownBlock=some k->t'.2.1.ownBlock≠some k/\t'.2.2.ownBlock≠some k:=fun t' ht=>by
  rcases List.mem_append.1 ht with ht|ht
  ·exact⟨h.each t' ht,h.dis t' ht⟩
  ·have:t'=t:=by simpa using ht
   subst this;exact⟨⟨h1,h2⟩,h3⟩
 refine⟨by rw[List.length_append,aD9];exact hr,fun t' ht=>?_,fun t' ht k hk=>?_⟩
 ·obtain⟨⟨e1,e2⟩,e3⟩:=key t' ht;exact⟨aN hc e1 (fun k hk e=>(e3 k e).1 hk),aN hc e2 (fun k hk e=>(e3 k e).2 hk)⟩
 ·obtain⟨⟨e1,e2⟩,e3⟩:=key t' ht;rcases hb k hk with h|h
  ·exact e3 k h
  ·exact⟨fun e=>by have:=cA e1 e;omega,fun e=>by have:=cA e2 e;omega⟩
/-- a loop's parent is written -/
theorem bR.par {b c:Nat}(h:bR W (.slice (some ⟨b,0,none⟩) L.length c) L) {i:Nat}{t:jR}(ht:L[i]? = some t) (k:Int):bR (W.setCell ⟨b,i*4+1,none⟩ (.int .i64 k)) (.slice (some ⟨b,0,none⟩) L.length c) (L.set i (oO t k)):=by
 have hc:aG (· = b) W (W.setCell ⟨b,i*4+1,none⟩ (.int .i64 k)):=aG.setCell (S:=(· = b)) (aG.refl _ _) (p:=⟨b,i*4+1,none⟩) (Or.inl rfl) _;have hm:∀ t'∈L.set i (oO t k),∃ t2∈L,t'.2=t2.2/\t'.1.members=t2.1.members/\t'.1.backs=t2.1.backs:=fun t' ht'=>by
  rcases List.mem_or_eq_of_mem_set ht' with h|h
  ·exact⟨t',h,rfl,rfl,rfl⟩
  ·subst h;exact⟨t,List.mem_of_getElem? ht,rfl,rfl,rfl⟩
 refine⟨?_,fun t' ht'=>?_,fun t' ht' k' hk'=>?_⟩
 ·rw[List.length_set,<-aG3 L i k t ht];exact cH h.row _ _
 ·obtain⟨t2,h2,e1,e2,e3⟩:=hm t' ht';rw[e1,e2,e3];have hd:=h.dis t2 h2 b rfl;exact⟨aN hc (h.each t2 h2).1 (fun k hk e=>hd.1 (e▸hk)),aN hc (h.each t2 h2).2 (fun k hk e=>hd.2 (e▸hk))⟩
 ·obtain⟨t2,h2,e1,e2,e3⟩:=hm t' ht';rw[e1];exact h.dis t2 h2 k' hk'
theorem bR.cells {b c:Nat}(h:bR W (.slice (some ⟨b,0,none⟩) L.length c) L) {i:Nat}{t:jR}(ht:L[i]? = some t) :
 W.cell? ⟨b,i*4,none⟩=some (.int .i64 t.1.head)/\W.cell? ⟨b,i*4+1,none⟩=some (.int .i64 t.1.parent)/\W.cell? ⟨b,i*4+2,none⟩=some t.2.1/\W.cell? ⟨b,i*4+3,none⟩=some t.2.2:=by
 have key:∀ c',c'<4->∀ u,(gT t)[c']? = some u->W.cell? ⟨b,i*4+c',none⟩=some u:=fun c' hc' u hu=>aH h.row (by rw[qY L i c' hc',ht];exact hu);exact⟨key 0 oz _ rfl,key 1 oz _ rfl,key 2 oz _ rfl,key 3 oz _ rfl⟩
/-- as it is read -/
theorem bR.rd {b c:Nat}(h:bR W (.slice (some ⟨b,0,none⟩) L.length c) L) (h64:∀ t∈L,(∀ x∈t.1.members,aM x)/\∀ x∈t.1.backs,aM x) {i:Nat}{t:jR}(ht:L[i]? = some t):tR W.heap.size W b (i*4) t.1:=by
 obtain⟨c0,c1,c2,c3⟩:=h.cells ht;have hm:=List.mem_of_getElem? ht;obtain⟨ma,mc,e1,n1⟩:=cI.ofRow (B:=W.heap.size) (h.each t hm).1 (h64 t hm).1 (fun k hk=>cA (h.each t hm).1 hk);obtain⟨ba,bc,e2,n2⟩:=cI.ofRow (B:=W.heap.size) (h.each t hm).2 (h64 t hm).2 (fun k hk=>cA (h.each t hm).2 hk);rw[e1]at c2;rw[e2]at c3;exact⟨ma,mc,ba,bc,c0,c1,c2,c3,n1,n2⟩
end
theorem Tryz.infoL:(Tryz.prog.info? 52).map (fun i=>(i.zero,i.size,i.bytes))=some (some (.agg #[.int .i64 0,.int .i64 0,.slice none 0 0,.slice none 0 0]),4,64):=kr
end
/-- is k, when it comes, the parent of i? cur: the parent as yet -/
def aMy (ls:List cE) (i k:Nat) (cur:Int):Prop:=i≠k/\(ls.getD k default).members.contains ((ls.getD i default).head:Int)=true/\(cur<0\/(ls.getD k default).members.length<(ls.getD cur.toNat default).members.length)
theorem yZ (ls:List cE) (i:Nat):jH ls i 0 = -1:=rfl
theorem aBk (ls:List cE) (i k:Nat) (h:aMy ls i k (jH ls i k)):jH ls i (k+1)=k:=by
 unfold jH;rw[List.range_succ,List.foldl_append,List.foldl_cons,List.foldl_nil];exact if_pos h
theorem aFd (ls:List cE) (i k:Nat) (h:¬aMy ls i k (jH ls i k)):jH ls i (k+1)=jH ls i k:=by
 show(List.range (k+1)).foldl _ _=_;rw[List.range_succ,List.foldl_append,List.foldl_cons,List.foldl_nil];exact if_neg h
theorem uZ (ls:List cE) (i:Nat):∀ k:Nat,jH ls i k = -1\/∃ q:Nat,q<k/\jH ls i k=q
 | 0=>.inl rfl
 | k+1=>by
  by_cases h:aMy ls i k (jH ls i k)
  ·exact .inr ⟨k,oz,aBk ls i k h⟩
  ·rw[aFd ls i k h];rcases uZ ls i k with h|⟨q,h1,h2⟩
   ·exact .inl h
   ·exact .inr ⟨q,oz,h2⟩
/-- the loops, as parents are being set: those of the first i are, of the next one those before k were looked at -/
def lP (ls:List cE) (i k:Nat):List cE:=(List.range ls.length).map fun j=>if j<i then { (ls.getD j default)with parent:=jH ls j ls.length } else if j=i then { (ls.getD j default)with parent:=jH ls j k } else ls.getD j default
theorem nQ (ls:List cE) (i k:Nat):(lP ls i k).length=ls.length:=by simp[lP]
theorem lV (ls:List cE) (i k:Nat) {j:Nat}(hj:j<ls.length):(lP ls i k)[j]? = some (if j<i then { (ls.getD j default)with parent:=jH ls j ls.length } else if j=i then { (ls.getD j default)with parent:=jH ls j k } else ls.getD j default):=by
 unfold lP;rw[List.getElem?_map,List.getElem?_range hj];rfl
theorem rE (ls:List cE) (i k:Nat) {j:Nat}(hj:j<ls.length):∃ t,(lP ls i k)[j]? = some t/\t.head=(ls.getD j default).head/\t.members=(ls.getD j default).members/\t.backs=(ls.getD j default).backs:=by
 refine⟨_,lV ls i k hj,?_,?_,?_⟩
 all_goals repeat(first|rfl|split)
theorem aBq (ls:List cE) (i k:Nat) (hi:i<ls.length):∃ t,(lP ls i k)[i]? = some t/\t.head=(ls.getD i default).head/\t.members=(ls.getD i default).members/\t.backs=(ls.getD i default).backs/\t.parent=jH ls i k:=by
 refine⟨_,lV ls i k hi,?_⟩;rw[if_neg (Nat.lt_irrefl _),if_pos rfl];exact⟨rfl,rfl,rfl,rfl⟩
theorem aQk {p:Prop}(h:p:=by
 have:=h j hj;generalize ls.getD j default=t at *;obtain⟨a,b,c,d⟩:=t;dsimp only at this;subst this;rfl):p:=h
theorem aBp (ls:List cE) (h:∀ j,j<ls.length->(ls.getD j default).parent = -1):lP ls 0 0=ls:=by
 apply List.ext_getElem?;intro j;by_cases hj:j<ls.length
 ·rw[lV ls 0 0 hj,if_neg (by omega)];have e:ls[j]? = some (ls.getD j default):=by rw[List.getD_eq_getElem?_getD,List.getElem?_eq_getElem hj];rfl
  rw[e];by_cases h0:j=0
  ·rw[if_pos h0,yZ];exact aQk
  ·rw[if_neg h0]
 ·rw[List.getElem?_eq_none (by rw[nQ];omega),List.getElem?_eq_none (by omega)]
theorem aMf (ls:List cE) (h:∀ j,j<ls.length->(ls.getD j default).parent = -1) (i:Nat):lP ls i ls.length=lP ls (i+1) 0:=by
 apply List.ext_getElem?;intro j;by_cases hj:j<ls.length
 ·rw[lV ls _ _ hj,lV ls _ _ hj];by_cases h1:j<i
  ·rw[if_pos h1,if_pos (by omega)]
  ·rw[if_neg h1];by_cases h2:j=i
   ·subst h2;rw[if_pos rfl,if_pos (by omega)]
   ·rw[if_neg h2,if_neg (by omega)];by_cases h3:j=i+1
    ·rw[if_pos h3,yZ];exact aQk
    ·rw[if_neg h3]
 ·rw[List.getElem?_eq_none (by rw[nQ];omega),List.getElem?_eq_none (by rw[nQ];omega)]
theorem aFy (ls:List cE):lP ls ls.length 0=yK ls:=by
 unfold lP yK;apply List.map_congr_left;intro j hj;rw[if_pos (List.mem_range.1 hj)]
theorem tQ (ls:List cE) (i k:Nat) (hi:i<ls.length) (h:aMy ls i k (jH ls i k)) {t:cE}(ht:(lP ls i k)[i]? = some t):(lP ls i k).set i { t with parent:=(k:Int) }=lP ls i (k+1):=by
 apply List.ext_getElem?;intro j;by_cases hj:j<ls.length
 ·by_cases e:j=i
  ·subst e;rw[List.getElem?_set_self (by rw[nQ];exact hj),lV ls _ _ hj,if_neg (Nat.lt_irrefl _),if_pos rfl,aBk ls j k h];rw[lV ls _ _ hj,if_neg (Nat.lt_irrefl _),if_pos rfl]at ht;cases ht;rfl
  ·rw[List.getElem?_set_ne (by omega),lV ls _ _ hj,lV ls _ _ hj];simp only[e,if_false]
 ·rw[List.getElem?_eq_none (by rw[List.length_set,nQ];omega),List.getElem?_eq_none (by rw[nQ];omega)]
theorem qU (ls:List cE) (i k:Nat) (h:¬aMy ls i k (jH ls i k)):lP ls i (k+1)=lP ls i k:=by
 unfold lP;apply List.map_congr_left;intro j _;by_cases h1:j<i
 ·rw[if_pos h1,if_pos h1]
 ·rw[if_neg h1,if_neg h1];by_cases h2:j=i
  ·subst h2;rw[if_pos rfl,if_pos rfl,aFd ls j k h]
  ·rw[if_neg h2,if_neg h2]
theorem aPh (ls:List cE) (i k:Nat) {x:cE}(hx:x∈lP ls i k):∃ y∈ls,x.members=y.members/\x.backs=y.backs:=by
 obtain⟨j,hj,rfl⟩:=List.mem_map.1 hx;have hj:=List.mem_range.1 hj;have hm:ls.getD j default∈ls:=by
  rw[List.getD_eq_getElem?_getD,List.getElem?_eq_getElem hj];exact List.getElem_mem hj
 refine⟨_,hm,?_,?_⟩
 all_goals repeat(first|rfl|split)
theorem aLw (t:cE) (x:Int):aGq [t] x=if t.members.contains x then 1 else 0:=by
 show jM [t] x 1=_;rw[oQ];show(if t.members.contains x=true then(0:Int)+1 else 0)=_;split<;>rfl
theorem aJ4 (L:List jR) (i:Nat) (k:Int) (t:jR) (ht:L[i]? = some t):(L.set i (oO t k)).map (fun t=>t.1)=(L.map fun t=>t.1).set i { t.1 with parent:=k }:=by
 rw[List.map_set];rfl
def aCy (l:List Nat):List Int:=l.map Int.ofNat
theorem aLa (l:List Nat) (a:Nat):aCy (l++[a])=aCy l++[(a:Int)]:=by simp[aCy]
theorem aSt {l:List Nat}{i u:Nat}(h:l[i]? = some u):(aCy l)[i]? = some (u:Int):=by unfold aCy;rw[List.getElem?_map,h];rfl
theorem aI1 (B:Nat) (hh:HF) (f:aC) (w:World) (hf:aZ B w hh f) (hn0:0<f.code.length) (hn:f.code.length<=1024):Calls Tryz.prog 103 #[aI hh f] w fun e w'=>e=.returned (.bool true)/\Below w.heap.size w w':=by
 obtain⟨pa,pl,pc,ca,cl,cc⟩:=hh;obtain⟨_,_,⟨hcl,_⟩,_,_⟩:=hf;subst hcl;have:(f.code.length:Int)<=1024:=oz
 unfold aI;go_wp2;go_ret;exact⟨rfl,bel⟩
theorem aRq {p:Prop}(h:p:=by
 go_wp2;refine⟨⟨can,todo,k+1,si,oz,HU,HI2,HB,HCr,HT,HN,hov,HBE⟩,?_⟩;go_light;exact ml):p:=h
theorem aJ9 {p:Prop}(h:p:=by
 rcases bU HT.out with⟨rfl,h0,_⟩|⟨b,c,rfl,_⟩
 ·exact⟨none,0,by rw[h0]⟩
 ·exact⟨_,c,rfl⟩):p:=h
theorem aP9 {p:Prop}(h:p:=by
 rcases bU hr5 with⟨rfl,h0,_⟩|⟨b,c,rfl,_⟩
 ·exact⟨none,0,by rw[h0]⟩
 ·exact⟨_,c,rfl⟩):p:=h
theorem tD (B:Nat) (hh:HF) (f:aC) (g:Int) (w:World) (hB:B<=w.heap.size) (hf:aZ B w hh f) (hn0:0<f.code.length) (hn:f.code.length<=1024):Calls Tryz.prog 75 #[aI hh f,.int .i64 g] w (aI5 w (lI f g)):=by
 obtain⟨j0,gi,gz0,gz1,gz2⟩:=info_parts Tryz.infoB;have hmk:=run_make_row' (P:=Tryz.prog) 89 4 (.bool false) 1 Tryz.underlying89 Tryz.infoB rfl .i64 .i64 f.code.length oz oz;rw[mB]at hmk;have HF:=qd hf;have HHas:=qd (fun w' (h:aZ B w' hh f)=>aI1 B hh f w' h hn0 hn);have HNX:=qd (fun(a:Nat) w' (hw:B<=w'.heap.size) (h:aZ B w' hh f) (ha:a<f.code.length)=>vG B hh f a w' hw h ha hn);obtain⟨pa,pl,pc,ca,cl,cc⟩:=hh;have hcl:f.code.length=cl:=hf.2.2.1.1;subst hcl;clear hf;unfold aI at *;dsimp only at *;have hZ:=qd (fun e:g=0=>show lI f g=_ from e▸aL6 f);have hD:Hid (∀ can todo i k,lT f g can todo i k->todo.length<=i->can=lI f g):=qd (fun can todo i k h hi=>h.done hi);have hLen:Hid ((lI f g).length=f.code.length):=qd (by simp[lI]);generalize lI f g=RP at *;go_enter Tryz.func75,Tryz.ntmps75;go_upto_region 3 with(first|(go_at_call 103;refine(HHas.out _ (HF.out.same (aQ.of (by exact bel) hB))).mono ?_;rintro e w1 ⟨rfl,hb1⟩)|fail)
 have hbw1:Below w.heap.size w w1:=eN.trans (hb1.mono si);have OB1:aF w1 w.heap.size [.string f.name,.slice pa pl pc,.int .i64 f.regs,.int .i64 f.words,.slice ca f.code.length cc]:=(aF.new w [.string f.name,.slice pa pl pc,.int .i64 f.regs,.int .i64 f.words,.slice ca f.code.length cc] _).below hb1;have hz1:w.heap.size+1<=w1.heap.size:=by have:=hb1.size;simpa using this
 have b5:=aX OB1;clear hb1 HHas;by_cases hg0:g=0
 ·have hr0:=hZ.out hg0;subst hg0;have HR0:=qd hr0;clear hr0 hZ hD;go_wp2
  try rw[Exit.noGoto_ret]
  go_ret;refine⟨_,rfl,hbw1.alloc oz _,?_,fun j hj=>?_⟩
  ·rw[hLen.out,HR0.out];have h9:=World.ownsRow_lit w1 (base:=0) (e:=4) (size:=1) (bQ (List.replicate f.code.length false)).toArray f.code.length (Nat.zero_le _) bH (by simp[bQ]);exact h9
  ·have e:w1.heap.size=j:=eL hj
   omega
 ·have i1:(g==0)=false:=by simpa using hg0
  have i2:¬g=0:=hg0;have hS:=qd (lT.start (f:=f) (g:=g) hn0 hg0);have i3:(0:Int)<(f.code.length:Int):=oz
  clear hZ;go_upto_region 6 with(fail)
  have HC:(w1.alloc (.cells (bQ (List.replicate f.code.length false)).toArray 4)).ownsRow 0 4 1 (.slice (some ⟨w1.heap.size,0,none⟩) f.code.length f.code.length) f.code.length (bQ (List.replicate f.code.length false)):=World.ownsRow_lit w1 (base:=0) (e:=4) (size:=1) (bQ (List.replicate f.code.length false)).toArray f.code.length (Nat.zero_le _) bH (by simp[bQ]);generalize hW2:World.alloc _ _=W2 at *;obtain⟨cb,hcb⟩:∃ cb,w1.heap.size=cb:=⟨_,rfl⟩
  rw[hcb]at HC ⊢;have hb2:Below w.heap.size w W2:=by rw[<-hW2];exact hbw1.alloc oz _
  have OB2:aF W2 w.heap.size [.string f.name,.slice pa pl pc,.int .i64 f.regs,.int .i64 f.words,.slice ca f.code.length cc]:=by rw[<-hW2];exact OB1.alloc _
  have hcl:cb<W2.heap.size:=by rw[<-hW2,<-hcb];simp
  have hwc:w.heap.size<cb:=oz
  have c0:=aH HC (j:=0) (u:=.bool false) (by unfold bQ;rw[List.getElem?_map,List.getElem?_replicate,if_pos hn0];rfl);have z0:=HC.frozenAt 0;clear hW2 hcb hz1 hbw1 OB1 b5 gz0 gz1 gz2 gi hmk;go_upto_region 8 with(fail)
  have C3:=cH HC 0 (.bool true);rw[iR]at C3;generalize hW3:World.setCell _ _ _=W3 at *;have hc3:aG (fun j=>j=cb) W2 W3:=by rw[<-hW3];exact aG.setCell (S:=fun j=>j=cb) (aG.refl _ _) (p:=⟨cb,0,none⟩) (.inl rfl) _
  have OB3:=hc3.own OB2 (by show ¬(w.heap.size=cb);omega);have hb3:Below w.heap.size w W3:=hb2.trans (hc3.below _ hb2.size (fun j hj e=>by have e2:j=cb:=e;omega));have hcl3:cb<W3.heap.size:=by have:=hc3.size;omega
  have hsW:W3.heap.size=W2.heap.size:=by rw[<-hW3];simp
  have T4:(W3.alloc (.cells #[.int .i64 0] 3)).ownsRow 0 3 1 (.slice (some ⟨W2.heap.size,0,none⟩) 1 1) 1 (aR (aCy [0])):=by rw[<-hsW];exact World.ownsRow_lit W3 (base:=0) (e:=3) (size:=1) #[.int .i64 0] 1 (Nat.zero_le _) dc si
  have C4:=aA (w':=W3.alloc (.cells #[.int .i64 0] 3)) eN C3;have hb4:Below w.heap.size w (W3.alloc (.cells #[.int .i64 0] 3)):=hb3.alloc hb3.size _;have OB4:=OB3.alloc (.cells #[.int .i64 0] 3);have hz3:∀ j,(Value.slice (some ⟨W2.heap.size,0,none⟩) 1 1).ownBlock=some j->cb<j:=fun j hj=>by have e:W2.heap.size=j:=eL hj;omega
  clear hsW;generalize hW4:World.alloc _ _=W4 at *;have HC4:=qd C4;have HT4:=qd T4;have HB4:=qd OB4;have HBE:=qd hb4;clear hW4 hW3 HC c0 z0 hc3 hb2 hb3 OB2 OB3 C3 C4 T4 hb4 OB4 hcl hcl3;go_wp2;go_loopw [6,7] (fun v6 v7 wx=>∃ (can:List Bool) (todo:List Nat) (i:Nat),v7=.int .i64 i/\i<=todo.length/\Hid (lT f g can todo i 0)/\Hid (aF wx w.heap.size [.string f.name,.slice pa pl pc,.int .i64 f.regs,.int .i64 f.words,.slice ca f.code.length cc])/\Hid (wx.ownsRow 0 4 1 (.slice (some ⟨cb,0,none⟩) f.code.length f.code.length) f.code.length (bQ can))/\Hid (wx.ownsRow 0 3 1 v6 todo.length (aR (aCy todo)))/\(∀ j,v6.ownBlock=some j->cb<j)/\Hid (Below w.heap.size w wx)) (fun _ i _=>f.code.length-(intOf i).toNat)
  case atStart=>exact⟨_,[0],0,rfl,Nat.zero_le _,hS,HB4,HC4,HT4,hz3,HBE⟩
  case round =>
   clear HB4 HC4 HT4 hz3 HBE hS;obtain⟨can,todo,i,rfl,hi,HI,HB,HCr,HT,hov,HBE⟩:=hrel;have hsz:=HI.out.size;have b5:=aX HB.out;have hbw:=HBE.out.size;by_cases hit:i<todo.length
   ·have d1:(i:Int)<(todo.length:Int):=oz
    obtain⟨u,hu⟩:∃ u,todo[i]? = some u:=⟨_,List.getElem?_eq_getElem hit⟩
    have hul:=HI.out.lt u (List.mem_of_getElem? hu);obtain⟨tb,tc,rfl,htc,htm,htl⟩:=bB HT.out oz;have t0:=aH HT.out (aV (aSt hu));have hwi:IntKind.i64.wrap ((i:Int)+1)=(i:Int)+1:=IntWalk.i64_in _ oz;have HU:=qd hu;clear hu;go_upto_region 11 with(fail)
    refine bC 5 kr kr ?_;simp only[TD];repeat(refine bS (fun K hK=>?_);go_simp;refine hK _ ?_;clear hK K)
    refine cF ?_;go_wp2_with fail;refine(HNX.out u wr.drew (by simp;omega) (HF.out.same (aQ.of (show Below w.heap.size w wr.drew from HBE.out.drew) hB)) hul).mono ?_;rintro e w5 ⟨nv,rfl,hb5,hr5,hf5⟩;obtain⟨na,nc,rfl⟩:∃ na nc,nv=.slice na (aY f u).length nc:=by
     exact aP9
    have hb5':Below wr.heap.size wr w5:=(Below.refl _ wr).drew.trans (hb5.mono si);have HB5:=qd (HB.out.below hb5');have HC5:=qd (aA hb5' HCr.out);have HT5:=qd (aA hb5' HT.out);have HN5:=qd hr5;have HBE5:=qd (HBE.out.trans (hb5'.mono hbw));have hcbl:=bJ HCr.out;have hf6:∀ j,(Value.slice na (aY f u).length nc).ownBlock=some j->cb<j:=fun j hj=>by have h9:=hf5 j hj;simp at h9;omega
    have HF6:=qd hf6;have htn:∀ j,(Value.slice (some ⟨tb,0,none⟩) todo.length tc).ownBlock=some j->cb<j/\¬(Value.slice na (aY f u).length nc).ownBlock=some j:=fun j hj=>⟨hov j hj,fun e=>by
     have h9:=hf5 j e;have e2:tb=j:=eL hj
     simp at h9;omega⟩
    have hin:=fun(t:Int) (ht:t∈aY f u)=>gQ f u t ht;have hnl:=iS f u;have HSK:Hid (∀ can todo k t,lT f g can todo i k->todo[i]? = some u->(aY f u)[k]? = some ((t:Nat):Int)->((t:Int)=g\/can.getD t false=true)->lT f g can todo i (k+1)):=qd (fun can todo k t h hu ht hs=>h.skip hu ht hs);have HPU:Hid (∀ can todo k t,lT f g can todo i k->todo[i]? = some u->(aY f u)[k]? = some ((t:Nat):Int)->(t:Int)≠g->can.getD t false=false->lT f g (can.set t true) (todo++[t]) i (k+1)):=qd (fun can todo k t h hu ht hg hc=>h.push hu ht hg hc);have HNE:Hid (∀ can todo k,lT f g can todo i k->todo[i]? = some u->(aY f u).length<=k->lT f g can todo (i+1) 0):=qd (fun can todo k h hu hk=>h.next hu hk);have HIN:=qd hin;clear hb5 hr5 hf5 hf6 hb5' HB HCr HT HBE t0 hin htl htc htm b5;generalize aY f u=nl at *;go_wp2;go_loopw [6,9] (fun v6 v9 wx=>∃ (can:List Bool) (todo:List Nat) (k:Nat),v9=.int .i64 k/\k<=nl.length/\Hid (todo[i]? = some u)/\Hid (lT f g can todo i k)/\Hid (aF wx w.heap.size [.string f.name,.slice pa pl pc,.int .i64 f.regs,.int .i64 f.words,.slice ca f.code.length cc])/\Hid (wx.ownsRow 0 4 1 (.slice (some ⟨cb,0,none⟩) f.code.length f.code.length) f.code.length (bQ can))/\Hid (wx.ownsRow 0 3 1 v6 todo.length (aR (aCy todo)))/\Hid (wx.ownsRow 0 3 1 (.slice na nl.length nc) nl.length (aR nl))/\(∀ j,v6.ownBlock=some j->cb<j/\¬(Value.slice na nl.length nc).ownBlock=some j)/\Hid (Below w.heap.size w wx)) (fun _ k _=>nl.length-(intOf k).toNat)
    case atStart=>exact⟨can,todo,0,rfl,Nat.zero_le _,HU,HI,HB5,HC5,HT5,HN5,htn,HBE5⟩
    case round =>
     clear HB5 HC5 HT5 HN5 htn HBE5 HU HI hov hi hsz hit d1;obtain⟨can,todo,k,rfl,hk,HU,HI,HB,HCr,HT,HN,hov,HBE⟩:=hrel;have hul2:=(List.getElem?_eq_some_iff.1 HU.out).1;have hsz:=HI.out.size;have hlen:=HI.out.len;have hbw2:=HBE.out.size;by_cases hkt:k<nl.length
     ·have d1:(k:Int)<(nl.length:Int):=oz
      have hwk:IntKind.i64.wrap ((k:Int)+1)=(k:Int)+1:=IntWalk.i64_in _ oz;obtain⟨nb,nc',hnv,-,-,hnbl⟩:=bB HN.out oz;cases hnv;have hgk:nl[k]? = some (nl[k]'hkt):=List.getElem?_eq_getElem hkt;have n0:=aH HN.out (aV hgk);obtain⟨h0,h1⟩:=HIN.out _ (List.getElem_mem hkt);have HGK:=qd hgk;clear hgk;generalize nl[k]'hkt=t at *;obtain⟨t,rfl⟩:=Int.eq_ofNat_of_zero_le h0;have htt:t<f.code.length:=oz
      have ht2:(t:Int)<(f.code.length:Int):=oz
      have hct:can[t]? = some (can.getD t false):=by rw[List.getD_eq_getElem?_getD,List.getElem?_eq_getElem (by omega)];rfl
      have c0:=aH HCr.out (j:=t) (u:=.bool (can.getD t false)) (by unfold bQ;rw[List.getElem?_map,hct];rfl);have z0:=HCr.out.frozenAt t;have hcbl:=bJ HCr.out;obtain⟨ta,tc,rfl⟩:∃ ta tc,u6=.slice ta todo.length tc:=by
       exact aJ9
      by_cases hg:(t:Int)=g
      ·have e1:((t:Int)!=g)=false:=by simp[hg]
       have HI2:=qd (HSK.out can todo k t HI.out HU.out HGK.out (.inl hg));have HG:=qd hg;clear hg;exact aRq
      ·have e1:((t:Int)!=g)=true:=by simpa using hg
       cases hcc:can.getD t false
       ·rw[hcc]at c0;have HI2:=qd (HPU.out can todo k t HI.out HU.out HGK.out hg hcc);have hsz2:=HI2.out.size;rw[List.length_append]at hsz2;simp only[List.length_cons,List.length_nil]at hsz2;have HHG:=qd hg;have HCC:=qd hcc;clear hg hcc;have hst:aG (fun j=>j=cb) wr (wr.setCell ⟨cb,t,none⟩ (.bool true)):=aG.setCell (S:=fun j=>j=cb) (aG.refl _ _) (p:=⟨cb,t,none⟩) (.inl rfl) _;have C2:=cH HCr.out t (.bool true);rw[iR]at C2;have HC2:=qd C2;have HT2:=qd (aN hst HT.out (fun j hj e=>by have:=(hov j hj).1;have e2:j=cb:=e;omega));have HN2:=qd (aN hst HN.out (fun j hj e=>by have:=HF6.out j hj;have e2:j=cb:=e;omega));have HB2:=qd (hst.own HB.out (by show ¬(w.heap.size=cb);omega));have HBE2:=qd (HBE.out.trans (hst.below _ hbw2 (fun j hj e=>by have e2:j=cb:=e;omega)));have n1:(wr.setCell ⟨cb,t,none⟩ (.bool true)).cell? ⟨nb,k,none⟩=some (.int .i64 t):=aH HN2.out (aV HGK.out);have hsS:wr.heap.size<=(wr.setCell ⟨cb,t,none⟩ (.bool true)).heap.size:=si
        have hcbS:cb<(wr.setCell ⟨cb,t,none⟩ (.bool true)).heap.size:=oz
        have hnbS:nb<(wr.setCell ⟨cb,t,none⟩ (.bool true)).heap.size:=oz
        clear C2 hst;go_upto_region 17 with(fail)
        generalize wr.setCell ⟨cb,t,none⟩ (.bool true)=ws at *;go_wp2_with (first|(at_builtin;refine bO rfl (.tmp 64) (.tmp 69) 50 3 1 8 (.int .i64 0) rfl Tryz.underlying50 Tryz.infoI rfl dc (.slice ta todo.length tc) _ _ rfl (aA eN HT2.out) ⟨ws.heap.size,0,none⟩ 1 1 (aR [(t:Int)]) rfl rfl (cC (aF.new' _ _ _ _ rfl)) (bZ _) bH oz dc ?_;intro g6 c6 w6 hr6 hc6 hg6)|fail)
        have hcA:aG (fun j=>(Value.slice ta todo.length tc).ownBlock=some j) ws w6:=(aG.of eN).trans hc6;have hv6:∀ j,(Value.slice (some ⟨g6,0,none⟩) (todo.length+1) c6).ownBlock=some j->cb<j/\¬(Value.slice (some ⟨nb,0,none⟩) nl.length nc).ownBlock=some j:=fun j hj=>by
         have e:g6=j:=eL hj
         subst e;rcases hg6 with h|h
         ·exact hov _ h
         ·simp at h;refine⟨oz,fun e=>?_⟩;have e2:nb=g6:=eL e
          omega
        have hr7:w6.ownsRow 0 3 1 (.slice (some ⟨g6,0,none⟩) (todo.length+1) c6) (todo++[t]).length (aR (aCy (todo++[t]))):=by
         rw[List.length_append,aLa,bK];exact hr6
        refine⟨⟨can.set t true,todo++[t],k+1,si,oz,qd (by rw[List.getElem?_append_left hul2];exact HU.out),HI2,qd (hcA.own HB2.out (fun e=>by have:=(hov _ e).1;omega)),qd (aN hcA HC2.out (fun j hj e=>by
         have h9:cb=j:=eL hj
         have:=(hov j e).1;omega)),qd hr7,qd (aN hcA HN2.out (fun j hj e=>(hov j e).2 hj)),hv6,qd (HBE2.out.trans (hcA.below _ HBE2.out.size (fun j hj e=>by have:=(hov j e).1;omega)))⟩,?_⟩
        go_light;exact ml
       ·rw[hcc]at c0;have HI2:=qd (HSK.out can todo k t HI.out HU.out HGK.out (.inr hcc));have HHG:=qd hg;have HCC:=qd hcc;clear hg hcc;exact aRq
     ·obtain rfl:k=nl.length:=oz
      have d1:¬(nl.length:Int)<(nl.length:Int):=oz
      have HI2:=qd (HNE.out can todo _ HI.out HU.out lr);go_wp2;refine⟨⟨can,todo,i+1,si,oz,HI2,HB,HCr,HT,fun j hj=>(hov j hj).1,HBE⟩,?_⟩;go_light;exact ml
   ·obtain rfl:i=todo.length:=oz
    have d1:¬(todo.length:Int)<(todo.length:Int):=oz
    have e:=hD.out can todo _ _ HI.out lr;have HE:=qd e;clear e;obtain⟨ta,tc,rfl⟩:∃ ta tc,u6=.slice ta todo.length tc:=by
     exact aJ9
    go_wp2
    try rw[Exit.noGoto_ret]
    go_ret;refine⟨_,rfl,HBE.out,?_,fun j hj=>?_⟩
    ·rw[hLen.out,<-HE.out];exact HCr.out
    ·have e:cb=j:=eL hj
     omega
theorem aGn (B:Nat) (hh:HF) (f:aC) (w:World) (hB:B<=w.heap.size) (hf:aZ B w hh f) (hn0:0<f.code.length) (hn:f.code.length<=1024):Calls Tryz.prog 61 #[aI hh f] w (aI5 w (dY f)):=by
 have HW:=qd (fun w' (h:Below w.heap.size w w')=>tD B hh f (-1) w' (Nat.le_trans hB h.size) (hf.same (aQ.of h hB)) hn0 hn);rw[aQ1 f (by decide)]at HW;obtain⟨pa,pl,pc,ca,cl,cc⟩:=hh;unfold aI at *;go_enter Tryz.func61,Tryz.ntmps61;go_wp2_with (first|(go_at_call 75;refine(HW.out _ bel).mono ?_;rintro e w1 ⟨v,rfl,hb,hr,hv⟩)|fail)
 go_ret;have hb0:Below w.heap.size w (w.alloc (.cells #[.string f.name,.slice pa pl pc,.int .i64 f.regs,.int .i64 f.words,.slice ca cl cc] 42)):=eN;exact⟨v,rfl,hb0.trans (hb.mono hb0.size),hr,fun k hk=>by have:=hv k hk;have:=hb0.size;omega⟩
def rQ (l:List (Nat×Int)):List Value:=l.flatMap fun e=>[.int .i64 e.1,.int .i64 e.2]
theorem aD2 (l k:List (Nat×Int)):rQ (l++k)=rQ l++rQ k:=by unfold rQ;rw[List.flatMap_append]
theorem tE (l:List (Nat×Int)):∀ v∈rQ l,v.oneCell'=true:=by
 intro v hv;obtain⟨e,_,h⟩:=List.mem_flatMap.1 hv;simp at h;rcases h with rfl|rfl<;>rfl
theorem aHe {l:List (Nat×Int)}{i:Nat}{e:Nat×Int}(h:l[i]? = some e):(rQ l)[i*2]? = some (.int .i64 e.1)/\(rQ l)[i*2+1]? = some (.int .i64 e.2):=by
 induction l generalizing i with
 | nil=>simp at h
 | cons x l ih =>
  cases i with
  | zero =>
   simp at h;subst h;exact⟨rfl,rfl⟩
  | succ i =>
   have h':l[i]? = some e:=by simpa using h
   obtain⟨a,b⟩:=ih h';have e1:rQ (x::l)=[.int .i64 x.1,.int .i64 x.2]++rQ l:=rfl;rw[e1];constructor
   ·rw[List.getElem?_append_right (by simp;omega)];have:(i+1)*2 - [Value.int .i64 x.1,.int .i64 x.2].length=i*2:=by simp;omega
    rw[this];exact a
   ·rw[List.getElem?_append_right (by simp;omega)];have:(i+1)*2+1 - [Value.int .i64 x.1,.int .i64 x.2].length=i*2+1:=by simp;omega
    rw[this];exact b
/-- a list of edges in memory of its own -/
def aVj (w:World) (l:List (Nat×Int)) (e:Ending) (w':World):Prop:=∃ v,e=.returned v/\Below w.heap.size w w'/\w'.ownsRow 0 77 2 v l.length (rQ l)/\(∀ k,v.ownBlock=some k->w.heap.size<=k)
theorem Tryz.infoEg:(Tryz.prog.info? 77).map (fun i=>(i.zero,i.size,i.bytes))=some (some (.agg #[.int .i64 0,.int .i64 0]),2,16):=kr
theorem aQm {p:Prop}(h:p:=by
 unfold bQ;rw[List.getElem?_map,List.getD_eq_getElem?_getD,List.getElem?_eq_getElem (by omega)];rfl):p:=h
theorem yN (B:Nat) (hh:HF) (f:aC) (w:World) (hB:B<=w.heap.size) (hf:aZ B w hh f) (hn0:0<f.code.length) (hn:f.code.length<=1024):Calls Tryz.prog 27 #[aI hh f] w (aVj w (aW f)):=by
 have HW:=qd (fun w' (h:Below w.heap.size w w')=>aGn B hh f w' (Nat.le_trans hB h.size) (hf.same (aQ.of h hB)) hn0 hn);have HNX:=qd (fun(a:Nat) w' (h:Below w.heap.size w w') (ha:a<f.code.length)=>vG B hh f a w' (Nat.le_trans hB h.size) (hf.same (aQ.of h hB)) ha hn);clear hf;obtain⟨pa,pl,pc,ca,cl,cc⟩:=hh;have hRl:(dY f).length=f.code.length:=fY f;unfold aW;have hE0:Hid (eU f 0=[]):=qd rfl;have hES:Hid (∀ u,eU f (u+1)=eU f u++(if(dY f).getD u false then(aY f u).map (fun v=>(u,v))else[])):=qd (dT f);have hEL:Hid (∀ u,u<=f.code.length->(eU f u).length<=2048):=qd (fun u hu=>by
  have h1:=(wK f u hu).length_le;have h2:=jV f;omega)
 have hNL:Hid (∀ u,(aY f u).length<=2):=qd (iS f);generalize dY f=RP at *;unfold aI at *;dsimp only at *;generalize eU f=ET at *;generalize aY f=NX at *;go_enter Tryz.func27,Tryz.ntmps27;go_upto_region 3 with(first|(go_at_call 61;refine(HW.out _ bel).mono ?_;rintro e w1 ⟨v,rfl,hb1,hr1,hv1⟩)|fail)
 rw[hRl]at hr1;obtain⟨rb,rc,rfl,hrc,hrm,hrl⟩:=bB hr1 hn0;have hOE:(w1.alloc (.cells #[] 77)).ownsRow 0 77 2 (.slice (some ⟨w1.heap.size,0,none⟩) 0 0) (ET 0).length (rQ (ET 0)):=by rw[hE0.out];exact eE w1 _ 2 rfl
 have hbw1:Below w.heap.size w w1:=eN.trans (hb1.mono si);have OB:aF w1 w.heap.size [.string f.name,.slice pa pl pc,.int .i64 f.regs,.int .i64 f.words,.slice ca cl cc]:=(aF.new w [.string f.name,.slice pa pl pc,.int .i64 f.regs,.int .i64 f.words,.slice ca cl cc] _).below hb1;have hz1:w.heap.size+1<=w1.heap.size:=by have:=hb1.size;simpa using this
 have hbw2:Below w.heap.size w (w1.alloc (.cells #[] 77)):=hbw1.alloc hbw1.size _;have OB2:=OB.alloc (.cells #[] 77);have R2:=aA (w':=w1.alloc (.cells #[] 77)) eN hr1;have hov:∀ j,(Value.slice (some ⟨w1.heap.size,0,none⟩) 0 0).ownBlock=some j->w.heap.size<j/\j≠rb:=fun j hj=>by
  have e:w1.heap.size=j:=eL hj
  omega
 have hl0:(ET 0).length=0:=by rw[hE0.out];rfl
 have hrb:w.heap.size<rb:=by have h9:=hv1 rb rfl;simp at h9;omega
 rw[hl0]at hOE;generalize hW2:World.alloc _ _=W2 at *;have HO2:=qd hOE;have HB2:=qd OB2;have HR2:=qd R2;have HBE2:=qd hbw2;clear hW2 hOE OB2 R2 hbw2 OB hbw1 hr1 hb1 hv1 HW;go_wp2;go_loopw [4,5] (fun v4 v5 wx=>∃ u:Nat,v5=.int .i64 u/\u<=f.code.length/\Hid (wx.ownsRow 0 77 2 v4 (ET u).length (rQ (ET u)))/\Hid (aF wx w.heap.size [.string f.name,.slice pa pl pc,.int .i64 f.regs,.int .i64 f.words,.slice ca cl cc])/\Hid (wx.ownsRow 0 4 1 (.slice (some ⟨rb,0,none⟩) f.code.length rc) f.code.length (bQ RP))/\(∀ j,v4.ownBlock=some j->w.heap.size<j/\j≠rb)/\Hid (Below w.heap.size w wx)) (fun _ u _=>f.code.length-(intOf u).toNat)
 case atStart=>exact⟨0,rfl,Nat.zero_le _,by rw[hl0];exact HO2,HB2,HR2,hov,HBE2⟩
 case round =>
  clear HO2 HB2 HR2 hov HBE2 hl0;obtain⟨u,rfl,hu,HO,HB,HR,hov,HBE⟩:=hrel;have b5:=aX HB.out;have hbw:=HBE.out.size;have hel:=hEL.out u hu;by_cases hut:u<f.code.length
  ·have d1:(u:Int)<(f.code.length:Int):=oz
   have hwu:IntKind.i64.wrap ((u:Int)+1)=(u:Int)+1:=IntWalk.i64_in _ oz;have r0:=aH HR.out (j:=u) (u:=.bool (RP.getD u false)) aQm;have HS:=qd (hES.out u);cases hcu:RP.getD u false
   ·rw[hcu]at r0;have e:ET (u+1)=ET u:=by rw[HS.out,hcu];simp
    have HEE:=qd e;clear e hcu;go_wp2;refine⟨⟨u+1,si,oz,by rw[HEE.out];exact HO,HB,HR,hov,HBE⟩,?_⟩;go_light;exact ml
   ·rw[hcu]at r0;have e:ET (u+1)=ET u++(NX u).map (fun v=>(u,v)):=by rw[HS.out,hcu];simp
    have HEE:=qd e;have hnl:=hNL.out u;have HNX2:=qd (HNX.out u wr HBE.out hut);clear e hcu;go_upto_region 8 with(first|(go_at_call 59;refine HNX2.out.mono ?_;rintro e w5 ⟨nv,rfl,hb5,hr5,hf5⟩)|fail)
    obtain⟨na,nc,rfl⟩:∃ na nc,nv=.slice na (NX u).length nc:=by
     exact aP9
    have HO5:=qd (aA hb5 HO.out);have HB5:=qd (HB.out.below hb5);have HR5:=qd (aA hb5 HR.out);have HN5:=qd hr5;have HBE5:=qd (HBE.out.trans (hb5.mono hbw));have hol:=fun j (hj:u4.ownBlock=some j)=>cA HO.out hj;have hov5:∀ j,u4.ownBlock=some j->(w.heap.size<j/\j≠rb)/\¬(Value.slice na (NX u).length nc).ownBlock=some j:=fun j hj=>⟨hov j hj,fun e=>by have:=hf5 j e;have:=hol j hj;omega⟩
    have hrbl:=bJ HR.out;have hz5:=hb5.size;clear hr5 HNX2 r0 b5 hf5;generalize NX u=nl at *;go_wp2;go_loopw [4,7] (fun v4 v7 wx=>∃ k:Nat,v7=.int .i64 k/\k<=nl.length/\Hid (wx.ownsRow 0 77 2 v4 ((ET u).length+k) (rQ (ET u++(nl.take k).map (fun v=>(u,v)))))/\Hid (aF wx w.heap.size [.string f.name,.slice pa pl pc,.int .i64 f.regs,.int .i64 f.words,.slice ca cl cc])/\Hid (wx.ownsRow 0 4 1 (.slice (some ⟨rb,0,none⟩) f.code.length rc) f.code.length (bQ RP))/\Hid (wx.ownsRow 0 3 1 (.slice na nl.length nc) nl.length (aR nl))/\(∀ j,v4.ownBlock=some j->(w.heap.size<j/\j≠rb)/\¬(Value.slice na nl.length nc).ownBlock=some j)/\Hid (Below w.heap.size w wx)/\rb<wx.heap.size) (fun _ k _=>nl.length-(intOf k).toNat)
    case atStart=>exact⟨0,rfl,Nat.zero_le _,by simpa using HO5,HB5,HR5,HN5,hov5,HBE5,oz⟩
    case round =>
     clear HO5 HB5 HR5 HN5 hov5 HBE5 HO HB HR hov HBE hol hrbl hz5 hb5;obtain⟨k,rfl,hk,HO,HB,HR,HN,hov,HBE,hrbl⟩:=hrel;have hbw2:=HBE.out.size;obtain⟨oa,oc,rfl⟩:∃ oa oc,u4=.slice oa ((ET u).length+k) oc:=by
      rcases bU HO.out with⟨rfl,h0,_⟩|⟨b,c,rfl,_⟩
      ·exact⟨none,0,by rw[h0]⟩
      ·exact⟨_,c,rfl⟩
     by_cases hkt:k<nl.length
     ·have d1:(k:Int)<(nl.length:Int):=oz
      have hwk:IntKind.i64.wrap ((k:Int)+1)=(k:Int)+1:=IntWalk.i64_in _ oz;obtain⟨nb,nc',hnv,-,-,hnbl⟩:=bB HN.out oz;cases hnv;have hgk:nl[k]? = some (nl[k]'hkt):=List.getElem?_eq_getElem hkt;have n0:=aH HN.out (aV hgk);have hTk:nl.take (k+1)=nl.take k++[nl[k]'hkt]:=by rw[List.take_add_one,hgk];rfl
      have HTK:=qd hTk;clear hgk hTk;generalize nl[k]'hkt=t at *;go_wp2_with (first|(at_builtin;refine bO rfl (.tmp 31) (.tmp 38) 73 77 2 16 (.agg #[.int .i64 0,.int .i64 0]) rfl Tryz.underlying73 Tryz.infoEg rfl dc (.slice oa ((ET u).length+k) oc) _ _ rfl (aA eN HO.out) ⟨wr.heap.size,0,none⟩ 1 1 (rQ [(u,t)]) rfl rfl (cC (aF.new' _ _ _ _ rfl)) (tE _) bH oz dc ?_;intro g6 c6 w6 hr6 hc6 hg6)|fail)
      have hcA:aG (fun j=>(Value.slice oa ((ET u).length+k) oc).ownBlock=some j) wr w6:=(aG.of eN).trans hc6;have hz6:=hcA.size;have hv6:∀ j,(Value.slice (some ⟨g6,0,none⟩) ((ET u).length+k+1) c6).ownBlock=some j->(w.heap.size<j/\j≠rb)/\¬(Value.slice (some ⟨nb,0,none⟩) nl.length nc).ownBlock=some j:=fun j hj=>by
       have e:g6=j:=eL hj
       subst e;rcases hg6 with h|h
       ·exact hov _ h
       ·simp at h;refine⟨⟨oz,oz⟩,fun e=>?_⟩;have e2:nb=g6:=eL e
        omega
      refine⟨⟨k+1,si,oz,qd ?_,qd (hcA.own HB.out (fun e=>by have:=(hov _ e).1.1;omega)),qd (aN hcA HR.out (fun j hj e=>by
       have h9:rb=j:=eL hj
       exact(hov j e).1.2 h9.symm)),qd (aN hcA HN.out (fun j hj e=>(hov j e).2 hj)),hv6,qd (HBE.out.trans (hcA.below _ hbw2 (fun j hj e=>by have:=(hov j e).1.1;omega))),oz⟩,?_⟩
      ·rw[HTK.out,List.map_append,<-List.append_assoc,aD2];exact hr6
      ·go_light;exact ml
     ·obtain rfl:k=nl.length:=oz
      have d1:¬(nl.length:Int)<(nl.length:Int):=oz
      have HO9:=HO.out;rw[List.take_length,<-HEE.out]at HO9;have hln:(ET (u+1)).length=(ET u).length+nl.length:=by rw[HEE.out];simp
      rw[<-hln]at HO9;have HO10:=qd HO9;have HLN:=qd hln;clear HO9 hln;go_wp2;refine⟨⟨u+1,si,oz,by rw[HLN.out]at HO10 ⊢;exact HO10,HB,HR,fun j hj=>(hov j hj).1,HBE⟩,?_⟩;go_light;exact ml
  ·obtain rfl:u=f.code.length:=oz
   have d1:¬(f.code.length:Int)<(f.code.length:Int):=oz
   go_wp2
   try rw[Exit.noGoto_ret]
   go_ret;exact⟨_,rfl,HBE.out,HO.out,fun j hj=>by have:=(hov j hj).1;omega⟩
theorem aVq (W:World) (b:Nat) (u v x y:Value):aG (· = b) W ((((W.setCell ⟨b,0,none⟩ u).setCell ⟨b,1,none⟩ v).setCell ⟨b,2,none⟩ x).setCell ⟨b,3,none⟩ y) :=
 aG.setCell (S:=(· = b)) (aG.setCell (S:=(· = b)) (aG.setCell (S:=(· = b)) (aG.setCell (S:=(· = b)) (aG.refl _ _) (p:=⟨b,0,none⟩) (Or.inl rfl) _) (p:=⟨b,1,none⟩) (Or.inl rfl) _) (p:=⟨b,2,none⟩) (Or.inl rfl) _) (p:=⟨b,3,none⟩) (Or.inl rfl) _
def pC (S:Nat->Nat->Option Value) (left:Int->Bool):Int->Bool:=fun i=>(jJ (S 2) i).isSome && !left i
theorem aHs {n:Nat}{f:aC}{W:World}{lo b0:Nat}{S:Nat->Nat->Option Value}(hg:bG W lo b0 n (GL f) S) {left:Int->Bool}(hl:∀ i,left i=false):dQ f.code.length (pC S left)=kH (GL f) f.code.length:=by
 unfold kH dQ;congr 1;refine List.filter_congr fun k hk=>?_;unfold pC;rw[hl,fC];dsimp only;rw[Int.toNat_natCast];have:=hg.ent 2 k dc;by_cases e:GL f 2 k=[]
 ·simp[e];cases hs:S 2 k with
  | none=>rfl
  | some s=>exact absurd e (this.1 (by rw[hs];rfl))
 ·have:=this.2 e;simp[e];cases hs:S 2 k with
  | none=>rw[hs]at this;cases this
  | some s=>rfl
theorem aMi {n:Nat}{f:aC}{W:World}{lo b0:Nat}{S:Nat->Nat->Option Value}(hg:bG W lo b0 n (GL f) S) {left:Int->Bool}:∀ x,pC S left x=true->∃ k:Nat,x=k/\k<f.code.length:=by
 intro x hx;unfold pC at hx;simp only[Bool.and_eq_true]at hx;have h1:=hx.1;unfold jJ at h1;split at h1
 ·rename_i h0;have h2:=(hg.ent 2 x.toNat dc).1 h1;obtain⟨y,hy⟩:=List.exists_mem_of_ne_nil _ h2;obtain⟨_,_,_,h3,_⟩:=pG f 2 x.toNat y hy;exact⟨x.toNat,oz,h3⟩
 ·cases h1
theorem aKq {S:Nat->Nat->Option Value}{left:Int->Bool}{a:Int}(h:(jJ (S 2) a).isSome=true):gJ (pC S left) a=pC S (fun k=>left k&&decide (k≠a)):=by
 funext x;unfold gJ pC;by_cases e:x=a
 ·subst e;simp[h]
 ·simp[e]
theorem aR3 {α:Type}{l:List α}{p:α->Bool}{j:Nat}{x:α}(hx:l[j]? = some x) (h:∀ (i:Nat) (y:α),i<j->l[i]? = some y->p y=false) (hp:p x=true):l.find? p=some x:=by
 obtain⟨hj,e⟩:=List.getElem?_eq_some_iff.1 hx;rw[List.find?_eq_some_iff_getElem];refine⟨hp,j,hj,e,fun k hk=>?_⟩;have:=h k _ hk (List.getElem?_eq_getElem oz);simp[this]
theorem aPs {α:Type}{l:List α}{p:α->Bool}(h:∀ (i:Nat) (y:α),l[i]? = some y->p y=false):l.find? p=none:=by
 rw[List.find?_eq_none];intro x hx;obtain⟨i,hi,e⟩:=List.getElem_of_mem hx;have:=h i x (by rw[List.getElem?_eq_getElem hi,e]);simp[this]
theorem aK3 (f:aC) (i:Nat):(cG f)[i]? = ((kH (GL f) f.code.length)[i]?).map fun h=>bD f h.toNat:=by unfold cG;rw[List.getElem?_map]
theorem aEn {f:aC}{i:Nat}{h:Int}(hi:(kH (GL f) f.code.length)[i]? = some h):∃ k:Nat,h=k/\k<f.code.length:=by
 obtain⟨k,e,hk,_⟩:=vP.1 (List.mem_of_getElem? hi);exact⟨k,e,hk⟩
/-- what a loop being made is, in memory -/
def aSe (f:aC) (a:Nat) (W:World) (k:Nat) (ms bs:Value):Prop:=aF W k [.int .i64 a,.int .i64 (-1),ms,bs]/\W.ownsRow 0 3 1 ms (bD f a).members.length (aR (bD f a).members)/\W.ownsRow 0 3 1 bs (bD f a).backs.length (aR (bD f a).backs)
theorem qF (f:aC) (hn:f.code.length<=1024) (a:Nat):(∀ x∈(bD f a).members,aM x/\∃ k:Nat,x=k/\k<f.code.length)/\∀ x∈(bD f a).backs,aM x/\∃ k:Nat,x=k/\k<f.code.length:=by
 constructor
 ·intro x hx;obtain⟨k,e,hk,_⟩:=vP.1 hx;exact⟨by unfold aM;omega,k,e,hk⟩
 ·intro x hx;obtain⟨k,e,hk,_⟩:=pG f 2 a x hx;exact⟨by unfold aM;omega,k,e,hk⟩
theorem aS7 {f:aC}{a:Nat}(ha:a<f.code.length):∀ x,gS (GL f) a x=true->∃ k:Nat,x=k/\k<f.code.length:=by
 intro x hx;unfold gS at hx;simp only[Bool.or_eq_true,decide_eq_true_eq]at hx;rcases hx with rfl|hx
 ·exact⟨a,rfl,ha⟩
 ·cases hx with
  | start _ h=>obtain⟨k,e,hk,_⟩:=pG f 2 a x h;exact⟨k,e,hk⟩
  | step y _ h1 h2 h3=>obtain⟨k,e,hk,_⟩:=pG f 0 y.toNat x h3;exact⟨k,e,hk⟩
/-- what Find hands back -/
def qP (f:aC) (w:World) (e:Ending) (w':World):Prop:=∃ v L,e=.returned (.tuple #[v,.int .i64 (jI f).2.1,.int .i64 (jI f).2.2])/\Below w.heap.size w w'/\bR w' v L/\L.map (fun t=>t.1)=(jI f).1
theorem aTx {p:Prop}(h:p:=by
 have hkk:nl=k:=oz
 subst hkk;have d3:¬(nl:Int)<(nl:Int):=oz
 have hL1:Hid (L.map (fun t=>t.1)=lP ls (a+1) 0):=qd (by rw[hL0.out,<-HHL.out];exact aMf ls HPAR.out a);go_wp2
 go_roundw
 case rel=>exact⟨a+1,L,oz,si,hL,hL1,hLl,hbx⟩
 case measure=>go_light;exact ml):p:=h
theorem aNv {p:Prop}(h:p:=by
 try clear Ee
 simp only[GE,Act.put,SU];go_wp2;have hft:Below wr.heap.size wr wM:=hwM;exact aT2):p:=h
theorem aUc {p:Prop}(h:p:=by
 try clear Ee
 simp only[GE,Act.put,SU];obtain⟨j0,j1,j2⟩:=HSS.out wM hwM;have hfz:wM.frozen? ⟨g,a*4+1,none⟩=false:=(hL'.below hwM).row.frozenAt _;go_wp2;refine⟨⟨k+1,L.set a (oO Ti (k:Int)),oz,si,qd ?_,qd (by rw[aJ4 L a k Ti hTi,hTi2,hL0.out,HYS.out]),by rw[List.length_set];exact hLl,(hbx.trans (hwM.mono hbx.size)).setCell (p:=⟨g,a*4+1,none⟩) hgw _⟩,?_⟩
 ·have hL9:=(hL'.below hwM).par hTi (k:Int);rw[hLl]at hL9;exact hL9
 ·go_light;exact ml):p:=h
theorem aJ2 {p:Prop}(h:p:=by
 simp only[GE,MX,EX,Ee,if_pos,if_neg,reduceIte,Nat.reduceEqDiff,Nat.reduceLT,Nat.reduceBEq];try rfl):p:=h
theorem aC6 {p:Prop}(h:p:=by
 simp only[GE,MX,EX,Ee];decide):p:=h
theorem vD {p:Prop}(h:p:=by
 rw[<-hA0];exact⟨rfl,rfl,rfl,rfl⟩):p:=h
theorem aNw {p:Prop}(h:p:=by
 obtain⟨y,hy,y1,y2⟩:=aPh ls a k (x:=t.1) (by rw[<-hL0.out];exact List.mem_map.2 ⟨t,ht,rfl⟩);rw[y1,y2];exact H64.out y hy):p:=h
theorem aOz {p:Prop}(h:p:=by
 rcases hnb i hi with h|h
 ·exact hvb i h
 ·omega):p:=h
theorem aO2 {p:Prop}(h:p:=by
 have e:g4=i:=by simpa[Value.ownBlock]using hi
 subst e;rcases hg4 with h|h
 ·exact .inl h
 ·simp at h;exact .inr oz):p:=h
theorem aOh {p:Prop}(h:p:=by
 intro u hu;simp[gT]at hu;rcases hu with rfl|rfl|rfl|rfl<;>rfl):p:=h
theorem oP {p:Prop}(h:p:=by
 show _<=wr.heap.size;omega):p:=h
theorem pH {p:Prop}(h:p:=by
 show _<=wM.heap.size;omega):p:=h
theorem aIm (B:Nat) (hh:HF) (f:aC) (w:World) (hB:B<=w.heap.size) (hf:aZ B w hh f) (hr:eO w) (hn0:0<f.code.length) (hn:f.code.length<=1024) :
 Calls Tryz.prog 17 #[aI hh f] w (qP f w):=by
 have hmm:=@run_makeMap Tryz.prog;have HF:=qd hf;have HRW:=qd hr;have HGr:=qd (fun w hB hf=>aFr B hh f w hB hf hn0 hn);have HRo:=qd (fun lo b0 n S w hB hf hg=>aLm lo b0 n B (GL f) S hh f w hB hf hn0 hn hg (aHb f hn) (fun u x hx=>by
  obtain⟨k,hk,_,_,h⟩:=pG f 1 u x hx;exact⟨k,hk,.step _ _ h.1 h.2⟩))
 have hfp:jI f=match iG f.code.length (eG (GL f))with
  | some v=>([],70,(v:Int))
  | none=>match (cG f).find? (fun l=>decide ((cS f l).1≠0))with
   | some l=>([],cS f l)
   | none=>(yK (cG f),0,0):=by unfold jI;rw[if_neg (by omega)];rfl
 have HFP:=qd hfp;clear hfp;have hGLb:=qd (aHb f hn);obtain⟨pa,pl,pc,ca,cl,cc⟩:=hh;obtain⟨h1,h2,⟨hcl,hcm,hcx⟩,h4,h5⟩:=hf;dsimp only at *;subst hcl;clear h2 hcm hcx h1 h4 h5 hr;unfold aI at *;dsimp only at *;have q1:¬(1024:Int)<(f.code.length:Int):=oz
 go_enter Tryz.func17,Tryz.ntmps17;go_upto_region 3 with(fail)
 generalize hW0:World.alloc _ _=W0;have hb0:Below w.heap.size w W0:=by rw[<-hW0];exact bel
 have OF:aF W0 w.heap.size [.string f.name,.slice pa pl pc,.int .i64 f.regs,.int .i64 f.words,.slice ca f.code.length cc]:=uS
 have hz0:w.heap.size<W0.heap.size:=OF.1;clear hW0;have f5:=aX OF;have HG0:=qd (HGr.out W0 oz (HF.out.same (aQ.of hb0 hB)));clear HGr;go_upto_region 4 with(first|(go_at_call 49;refine HG0.out.mono ?_;rintro e w1 ⟨b0,lo,n,S,rfl,hb1,hbl,hg1⟩)|fail)
 have HOF:=qd OF;clear OF f5 HG0;have hz1:=hb1.size;generalize hW2:World.alloc _ _=W2;have hbA:Below w1.heap.size w1 W2:=by rw[<-hW2];exact eN
 have hg2:bG W2 lo b0 n (GL f) S:=hg1.below hbA;have OG:aF W2 w1.heap.size [.map (some b0),.map (some (b0+1)),.map (some (b0+2))]:=by rw[<-hW2];exact aF.new _ _ _
 have OF2:=(HOF.out.below hb1).below hbA;have hb2:Below w.heap.size w W2:=(hb0.trans (hb1.mono oz)).trans (hbA.mono oz);have hz2:W2.heap.size=w1.heap.size+1:=by rw[<-hW2];simp
 clear hW2 hbA hg1 hb1 hb0 HOF;have g3:=gV OG;have f5:=aX OF2;have HR2:=qd (HRo.out lo b0 n S W2 oz (HF.out.same (aQ.of hb2 hB)) hg2);clear HRo;obtain⟨fr,hfr⟩:∃ fr,fr=iG f.code.length (eG (GL f)):=⟨_,rfl⟩
 have HFR:=qd hfr;rw[<-hfr]at HFP HR2;clear hfr;have HG2:=qd hg2;have HOG:=qd OG;have HOF2:=qd OF2;clear hg2 OG OF2;cases fr with
 | some v =>
  unfold aHy at HR2;go_wp2_with (first|(go_at_call 50;refine HR2.out.mono ?_;rintro e w3 ⟨rfl,hb3⟩)|fail)
  refine bodyPost_ret (v:=.tuple #[.slice none 0 0,.int .i64 70,.int .i64 v]) (by simp[results,Tryz.results17,go_sem]) rfl ?_;have hz3:=hb3.size;refine⟨_,[],by rw[HFP.out],hb2.trans (hb3.mono oz),bR.nil _,by rw[HFP.out];rfl⟩
 | none =>
  unfold aHy at HR2;go_upto_region 8 with(first|(go_at_call 50;refine HR2.out.mono ?_;rintro e w3 ⟨rfl,hb3⟩)|fail)
  have hz3:=hb3.size;generalize hW4:World.alloc _ _=W4;have hbA:Below w3.heap.size w3 W4:=by rw[<-hW4];exact eN
  have hz4:W4.heap.size=w3.heap.size+1:=by rw[<-hW4];simp
  have hb24:Below W2.heap.size W2 W4:=hb3.trans (hbA.mono oz);have hb4:Below w.heap.size w W4:=hb2.trans (hb24.mono oz);have OM:bY W4 w3.heap.size 0 (fun _=>none):=by rw[<-hW4];exact bY.made' _ _ rfl
  have OG4:=HOG.out.below hb24;have OF4:=HOF2.out.below hb24;have hg4:=HG2.out.below hb24;clear hW4 hbA f5 g3 hmm HR2;have g3:=gV OG4;have hbig:∀ i,¬inI i->jJ (S 2) i=none:=fun i hi=>by
   unfold jJ;split
   ·refine hg4.big 2 _ dc (fun h=>hi ?_);unfold inI;omega
   ·rfl
  obtain⟨W5,cnt,hrun,hR,hb5,hz5,hcq⟩:=(hg4.map 2 dc).range Tryz.mapS hbig;have hgb:=hg4.lb;have hgl:b0+2<W2.heap.size:=(HG2.out.map 2 dc).lt;rw[hz4]at hR;have HR5:=qd hR;have hb25:Below W2.heap.size W2 W5:=hb24.trans (hb5.mono oz);have OM5:bY W5 w3.heap.size 0 (iV (pC S (fun i=>(jJ (S 2) i).isSome))):=by
   have e:iV (pC S (fun i=>(jJ (S 2) i).isSome))=fun _=>none:=by funext i;unfold iV pC;have:((jJ (S 2) i).isSome && !(jJ (S 2) i).isSome)=false:=(by cases(jJ (S 2) i).isSome<;>rfl);rw[this];rfl
   rw[e];exact OM.below hb5
  have HOM5:=qd OM5;go_upto_region 9 with(fail)
  clear hR hrun hb24 hb4 OM OG4 OF4 hg4 g3 OM5 hbig hb5
  go_loopg [] cnt (fun k wr=>∃ (left:Int->Bool) (q:Nat),Hid (fW wr (b0+2) (w3.heap.size+1) n (jJ (S 2)) left k)/\q+aA3 left<=1024/\Hid (∀ i,left i=true->(jJ (S 2) i).isSome=true)/\Below W2.heap.size W2 wr/\w3.heap.size+2<=wr.heap.size/\Hid (bY wr w3.heap.size q (iV (pC S left))))
  case atStart=>exact⟨_,0,HR5,by have:=aGd (fun i=>(jJ (S 2) i).isSome);omega,qd (fun i h=>h),hb25,oz,HOM5⟩
  case round =>
   clear HR5 hb25 HOM5 hz5 hcq;obtain⟨left,q,hR,hq,hsm,hbr,hzr,OM⟩:=hrel;rcases hR.out.next 0 with⟨hno,hrun⟩|⟨i,s,W6,c2,hi,hli,hMi,hrun,hR2,hlt2,hc2,hz6,hent⟩
   ·have HS:=qd (zB w3.heap.size q f.code.length (pC S left) wr OM.out hn (aMi HG2.out));rw[aHs HG2.out hno]at HS;have hhn:=fun i h hi=>@aEn f i h hi;have hhl:(kH (GL f) f.code.length).length<=1024:=by
     have:(kH (GL f) f.code.length).length<=f.code.length:=by
      unfold kH dQ;exact aA0
     omega
    have HHN:=qd hhn;clear hhn;have HLA:=qd (aK3 f);have HLL:=qd (show cG f=(kH (GL f) f.code.length).map fun h=>bD f h.toNat from rfl);generalize kH (GL f) f.code.length=Hs at *;go_upto_region 14 with(first|(go_at_call 51;refine HS.out.mono ?_;rintro e w8 ⟨hv,rfl,hb8,hr8,hf8,hn8⟩;obtain⟨ha8,hc8,rfl⟩:∃ ha hc,hv=.slice ha Hs.length hc:=(by rcases bU hr8 with⟨rfl,h0,_⟩|⟨g,c,rfl,_,_,_⟩;exact⟨none,0,by rw[h0]⟩;exact⟨_,c,rfl⟩))|fail)
    have hz8:=hb8.size;have hb28:Below W2.heap.size W2 w8:=hbr.trans (hb8.mono hbr.size);have HR8:=qd hr8;have HOG8:=qd (HOG.out.below hb28);have HOF8:=qd (HOF2.out.below hb28);have HG8:=qd (HG2.out.below hb28);have hbw8:Below w.heap.size w w8:=hb2.trans (hb28.mono oz);have HF8:=qd (HF.out.same (aQ.of hbw8 hB));have HRW8:=qd (HRW.out.same (aQ.of hbw8 lr) HRW.out.1 hbw8.size);have hzz:b0+2<w8.heap.size/\w1.heap.size<w8.heap.size:=⟨oz,oz⟩
    clear HS OM hR hrun hsm hno hr8 hf8 hn8 hbr hb8 hb28 hq hzr HOG HOF2 HG2 hgl hz8;go_loopw [10,46] (fun v i wx=>∃ (j:Nat) (L:List jR),j<=Hs.length/\i=.int .i64 j/\Hid (bR wx v L)/\Hid (L.map (fun t=>t.1)=(Hs.take j).map fun h=>bD f h.toNat)/\L.length=j/\Hid (∀ (i:Nat) (h:Int),i<j->Hs[i]? = some h->(cS f (bD f h.toNat)).1=0)/\Below w8.heap.size w8 wx/\(∀ k,v.ownBlock=some k->w8.heap.size<=k)) (fun v i _=>Hs.length-(intOf i).toNat)
    case atStart=>exact⟨0,[],Nat.zero_le _,rfl,qd (bR.nil _),qd rfl,rfl,qd (fun i h hi=>by omega),Below.refl _ _,by simp[Value.ownBlock]⟩
    case round =>
     rename_i wq;obtain⟨j,L,hj,rfl,hL,hLm,hLl,hok,hbx,hvb⟩:=hrel;have hzx:=hbx.size;by_cases hjt:j<Hs.length
     ·have d3:(j:Int)<(Hs.length:Int):=oz
      have hwj:IntKind.i64.wrap ((j:Int)+1)=(j:Int)+1:=IntWalk.i64_in _ oz;have hgj:Hs[j]? = some (Hs[j]'hjt):=List.getElem?_eq_getElem hjt;obtain⟨a,ha,hal⟩:=HHN.out j _ hgj;rw[ha]at hgj;obtain⟨hg,hgc,hgv,-,-,hgl⟩:=bB HR8.out oz;cases hgv;have c0:=(hbx.cell (p:=⟨hg,j,none⟩) hgl).trans (aH HR8.out (aV hgj));have g3:=gV (HOG8.out.below hbx);have f5:=aX (HOF8.out.below hbx);have HGx:=qd (HG8.out.below hbx);have HMb:Hid (∀ w',Below wr.heap.size wr w'->Calls Tryz.prog 52 #[.agg #[.map (some b0),.map (some (b0+1)),.map (some (b0+2))],.int .i64 a] w' fun e w2=>∃ v,e=.returned v/\∃ b q,v=.map (some b)/\w'.heap.size<=b/\bY w2 b q (iV (gS (GL f) a))/\Below w'.heap.size w' w2) :=
       qd (fun w' hw=>(aFp lo b0 n (GL f) S w' (HGx.out.below hw) hGLb.out a oz).mono (by rintro e w2 ⟨b,q,rfl,h⟩;exact⟨_,rfl,b,q,rfl,h⟩))
      have HSo:Hid (∀ w' b q,bY w' b q (iV (gS (GL f) a))->Calls Tryz.prog 51 #[.map (some b)] w' fun e w2=>∃ v,e=.returned v/\∃ ma mc,v=.slice ma (bD f a).members.length mc/\Below w'.heap.size w' w2/\w2.ownsRow 0 3 1 (.slice ma (bD f a).members.length mc) (bD f a).members.length (aR (bD f a).members)/\∀ k,(Value.slice ma (bD f a).members.length mc).ownBlock=some k->w'.heap.size<=k) :=
       qd (fun w' b q hw=>(zB b q f.code.length (gS (GL f) a) w' hw hn (aS7 hal)).mono (by
        rintro e w2 ⟨v,rfl,h1,h2,h3,h4⟩;have hl:(dQ f.code.length (gS (GL f) a))=(bD f a).members:=rfl;rw[hl]at h2;rcases bU h2 with⟨rfl,h0,h00⟩|⟨g,c,rfl,_,_,_⟩
        ·exact⟨_,rfl,none,0,by rw[h0],h1,by rw[h0]at h2 ⊢;exact h2,by simp[Value.ownBlock]⟩
        ·exact⟨_,rfl,some ⟨g,0,none⟩,c,rfl,h1,h2,h3⟩))
      obtain⟨ba,bc,hbs⟩:∃ ba bc,(S 2 a).getD kN=.slice ba (bD f a).backs.length bc:=by
       rcases bU (HGx.out.row (c:=2) (v:=a) dc)with⟨h1,h2,_⟩|⟨g,c,h1,_⟩
       ·exact⟨none,0,by rw[h1];show _=Value.slice none (GL f 2 a).length 0;rw[h2]⟩
       ·exact⟨_,c,h1⟩
      have HLk:=qd (fun w' (hw:Below wr.heap.size wr w')=>by
       have h:=((HGx.out.below hw).map 2 dc).get Tryz.mapS pE (dI (show a<1024 by omega));rw[fC,hbs]at h;exact h)
      have hrb:=HGx.out.row (c:=2) (v:=a) dc;rw[hbs]at hrb;have HRb:=qd hrb;have hrb8':=HG8.out.row (c:=2) (v:=a) dc;rw[hbs]at hrb8';have hrb8:=qd hrb8';clear hrb hbs hrb8';have hcfM:∀ (args:Array Value) (w:World),(callFunc 52 args).run Tryz.prog w=.ok (.enter 52 args) w:=fun _ _=>rfl;have hcfS:∀ (args:Array Value) (w:World),(callFunc 51 args).run Tryz.prog w=.ok (.enter 51 args) w:=fun _ _=>rfl;have HO:=qd (HOG8.out.below hbx);go_upto_region 16 with(fail)
      go_cut [13] (fun v wc=>∃ (k:Nat) (ms:Value),v=.pointer (some ⟨k,0,none⟩)/\Hid (aSe f a wc k ms (.slice ba (bD f a).backs.length bc))/\Below wr.heap.size wr wc/\wr.heap.size<=k/\(∃ ma mc,ms=.slice ma (bD f a).members.length mc)/\(∀ i,ms.ownBlock=some i->wr.heap.size<=i))
      case first =>
       clear f5 g3 hgj c0 d3 hwj ha hhl hzz hok hLm HLA HLL HHN HR8 HOG8 HOF8 HG8 HF8 HRW8 HFR HFP HF HRW hLl hL hvb hbw8 hzx hjt hrb8;have HSS:Hid (∀ w',Below wr.heap.size wr w'->w'.cell? ⟨w1.heap.size,0,none⟩=some (.map (some b0))/\w'.cell? ⟨w1.heap.size,1,none⟩=some (.map (some (b0+1)))/\w'.cell? ⟨w1.heap.size,2,none⟩=some (.map (some (b0+2)))/\(Instr.lookup 104 (.map (some (b0+2))) (.int .i64 a) false).run Tryz.prog w'=.ok (.slice ba (bD f a).backs.length bc) w') :=
        qd (fun w' hw=>by
         have g:=gV (HO.out.below hw);exact⟨g.2.1,g.2.2.1,g.2.2.2.1,HLk.out w' hw⟩)
       generalize hA0:(Act.mk _ _:Act)=a0;have Ee:a0.eval (.tmp 5)=.pointer (some ⟨w1.heap.size,0,none⟩)/\a0.eval (.tmp 12)=.int .i64 a/\a0.tmps.size=137:=by rw[<-hA0];exact⟨rfl,rfl,rfl⟩
       refine aE (fun w'=>Below wr.heap.size wr w') kr (Below.refl _ wr).drew ?_;intro K0 hK0 hHeld
       try dsimp only at hHeld
       refine aL 0 rfl ?_;refine aL 1 rfl ?_;refine aL 2 rfl ?_;refine aL 5 rfl ?_;refine aL 6 rfl ?_;refine aL 7 rfl ?_;refine aL 8 rfl ?_;generalize hA1:(Act.put _ _ _:Act)=a1;replace Ee:a1.eval (.tmp 50)=.int .i64 a/\a1.eval (.tmp 51)=.agg #[.map (some b0),.map (some (b0+1)),.map (some (b0+2))]/\a1.eval (.tmp 52)=.int .i64 a/\a1.eval (.tmp 58)=.slice ba (bD f a).backs.length bc/\a1.tmps.size=137:=oZ;refine wpAnyH_ready (rs:=[3,10]) kr si ?_;refine iB rfl (fun K hK=>?_) (iB rfl (fun K hK=>?_) AllReadyH.nil)
       ·refine aP rfl 52 [.tmp 51,.tmp 52] #[106,3] rfl hcfM [.agg #[.map (some b0),.map (some (b0+1)),.map (some (b0+2))],.int .i64 a] (by simp only[GE,MX,EX,Ee,reduceIte,Nat.reduceEqDiff,Nat.reduceLT,Nat.reduceBEq]) _ (HMb.out _ hHeld) ?_;rintro v wM ⟨bM,qM,rfl,hlM,hMM,hbM⟩;have hwM:Below wr.heap.size wr wM:=hHeld.trans (hbM.mono hHeld.size);have hzM:=hwM.size;refine hK.out _ _ (hwM) fun hHeld=>?_;clear hK K;generalize hA2:(Act.put _ _ _:Act)=a2;replace Ee:a2.eval (.tmp 50)=.int .i64 a/\a2.eval (.tmp 51)=.agg #[.map (some b0),.map (some (b0+1)),.map (some (b0+2))]/\a2.eval (.tmp 52)=.int .i64 a/\a2.eval (.tmp 58)=.slice ba (bD f a).backs.length bc/\a2.eval (.tmp 53)=.map (some bM)/\a2.tmps.size=137:=mQ;refine wpAnyH_ready (rs:=[4,10]) kr si ?_;refine iB rfl (fun K hK=>?_) (iB rfl (fun K hK=>?_) AllReadyH.nil)
        ·refine aP rfl 51 [.tmp 53] #[110] rfl hcfS [.map (some bM)] (by simp only[GE,MX,EX,Ee,reduceIte,Nat.reduceEqDiff,Nat.reduceLT,Nat.reduceBEq]) _ (HSo.out _ bM qM hMM) ?_;rintro v wS ⟨ma,mc,rfl,hbS,hrS,hfS⟩;have hwS:Below wr.heap.size wr wS:=hHeld.trans (hbS.mono hHeld.size);have hzS:=hwS.size;refine hK.out _ _ (hwS) fun hHeld=>?_;clear hK K;generalize hA3:(Act.put _ _ _:Act)=a3;replace Ee:a3.eval (.tmp 50)=.int .i64 a/\a3.eval (.tmp 58)=.slice ba (bD f a).backs.length bc/\a3.eval (.tmp 54)=.slice ma (bD f a).members.length mc/\a3.tmps.size=137:=rV;refine aL 9 rfl ?_;generalize hA4:(Act.put _ _ _:Act)=a4;replace Ee:a4.eval (.tmp 59)=.agg #[.int .i64 a,.int .i64 (-1),.slice ma (bD f a).members.length mc,.slice ba (bD f a).backs.length bc]/\a4.tmps.size=137:=xE;refine fD 10 rfl fun K hK=>?_;refine sX ?_;refine hK.out _ _ (bel) fun hHeld=>?_;clear hK K;generalize hA5:(Act.put _ _ _:Act)=a5;replace Ee:a5.eval (.tmp 59)=.agg #[.int .i64 a,.int .i64 (-1),.slice ma (bD f a).members.length mc,.slice ba (bD f a).backs.length bc]/\a5.eval (.tmp 13)=.pointer (some ⟨wS.heap.size,0,none⟩)/\a5.tmps.size=137:=ee5;refine fD 11 rfl fun K hK=>?_;refine pA ?_;refine hK.out _ _ (bel) fun hHeld=>?_;clear hK K;refine aO kr ?_;refine hK0.out _ _ ?_;subst hA5;subst hA4;subst hA3;subst hA2;subst hA1;subst hA0
         try clear Ee
         simp only[GE,Act.put,SU];go_wp2;go_meet;exact⟨wS.heap.size,_,rfl,qd ⟨aF.new _ _ _,aA eN hrS,aA (hwS.alloc hzS _) HRb.out⟩,hwS.alloc hzS _,hzS,⟨_,_,rfl⟩,fun i hi=>by have:=hfS i hi;omega⟩
        ·refine sX ?_;refine hK.out _ _ (bel) fun hHeld=>?_;clear hK K;generalize hA3:(Act.put _ _ _:Act)=a3;replace Ee:a3.eval (.tmp 50)=.int .i64 a/\a3.eval (.tmp 51)=.agg #[.map (some b0),.map (some (b0+1)),.map (some (b0+2))]/\a3.eval (.tmp 52)=.int .i64 a/\a3.eval (.tmp 58)=.slice ba (bD f a).backs.length bc/\a3.eval (.tmp 53)=.map (some bM)/\a3.eval (.tmp 13)=.pointer (some ⟨wM.heap.size,0,none⟩)/\a3.tmps.size=137:=rV;refine fD 4 rfl fun K hK=>?_;refine aP rfl 51 [.tmp 53] #[110] rfl hcfS [.map (some bM)] (by simp only[GE,MX,EX,Ee,reduceIte,Nat.reduceEqDiff,Nat.reduceLT,Nat.reduceBEq]) _ (HSo.out _ bM qM (hMM.alloc _)) ?_;rintro v wS ⟨ma,mc,rfl,hbS,hrS,hfS⟩;have hwS:Below wr.heap.size wr wS:=hHeld.trans (hbS.mono hHeld.size);have hzS:=hwS.size;have pS:=aF.below (aF.new wM [.int .i64 0,.int .i64 0,.slice none 0 0,.slice none 0 0] 52) hbS;have oS:=hU pS;refine hK.out _ _ (hwS) fun hHeld=>?_;clear hK K;generalize hA4:(Act.put _ _ _:Act)=a4;replace Ee:a4.eval (.tmp 50)=.int .i64 a/\a4.eval (.tmp 58)=.slice ba (bD f a).backs.length bc/\a4.eval (.tmp 54)=.slice ma (bD f a).members.length mc/\a4.eval (.tmp 13)=.pointer (some ⟨wM.heap.size,0,none⟩)/\a4.tmps.size=137:=xE;refine aL 9 rfl ?_;generalize hA5:(Act.put _ _ _:Act)=a5;replace Ee:a5.eval (.tmp 59)=.agg #[.int .i64 a,.int .i64 (-1),.slice ma (bD f a).members.length mc,.slice ba (bD f a).backs.length bc]/\a5.eval (.tmp 13)=.pointer (some ⟨wM.heap.size,0,none⟩)/\a5.tmps.size=137:=ee5;refine fD 11 rfl fun K hK=>?_;refine pA ?_;refine hK.out _ _ (bel) fun hHeld=>?_;clear hK K;refine aO kr ?_;refine hK0.out _ _ ?_;subst hA5;subst hA4;subst hA3;subst hA2;subst hA1;subst hA0
         try clear Ee
         simp only[GE,Act.put,SU];go_wp2;go_meet;exact⟨wM.heap.size,_,rfl,qd ⟨(((pS.set 0 _ si).set 1 _ si).set 2 _ si).set 3 _ si,aN (aVq wS wM.heap.size _ _ _ _) hrS (fun i hi e=>by have h1:=hfS i hi;rw[World.size_alloc]at h1;omega),aA (((((hwS.setCell (p:=⟨wM.heap.size,0,none⟩) pH _).setCell (p:=⟨wM.heap.size,1,none⟩) pH _).setCell (p:=⟨wM.heap.size,2,none⟩) pH _).setCell (p:=⟨wM.heap.size,3,none⟩) pH _)) HRb.out⟩,((((hwS.setCell (p:=⟨wM.heap.size,0,none⟩) pH _).setCell (p:=⟨wM.heap.size,1,none⟩) pH _).setCell (p:=⟨wM.heap.size,2,none⟩) pH _).setCell (p:=⟨wM.heap.size,3,none⟩) pH _),oz,⟨_,_,rfl⟩,fun i hi=>by have h1:=hfS i hi;rw[World.size_alloc]at h1;omega⟩
       ·refine sX ?_;refine hK.out _ _ (bel) fun hHeld=>?_;clear hK K;generalize hA2:(Act.put _ _ _:Act)=a2;replace Ee:a2.eval (.tmp 50)=.int .i64 a/\a2.eval (.tmp 51)=.agg #[.map (some b0),.map (some (b0+1)),.map (some (b0+2))]/\a2.eval (.tmp 52)=.int .i64 a/\a2.eval (.tmp 58)=.slice ba (bD f a).backs.length bc/\a2.eval (.tmp 13)=.pointer (some ⟨wr.heap.size,0,none⟩)/\a2.tmps.size=137:=mQ;refine fD 3 rfl fun K hK=>?_;refine aP rfl 52 [.tmp 51,.tmp 52] #[106,3] rfl hcfM [.agg #[.map (some b0),.map (some (b0+1)),.map (some (b0+2))],.int .i64 a] (by simp only[GE,MX,EX,Ee,reduceIte,Nat.reduceEqDiff,Nat.reduceLT,Nat.reduceBEq]) _ (HMb.out _ hHeld) ?_;rintro v wM ⟨bM,qM,rfl,hlM,hMM,hbM⟩;have hwM:Below wr.heap.size wr wM:=hHeld.trans (hbM.mono hHeld.size);have hzM:=hwM.size;have pM:=aF.below (aF.drew (aF.new' wr [.int .i64 0,.int .i64 0,.slice none 0 0,.slice none 0 0] 52 wr.heap.size rfl)) hbM;refine hK.out _ _ (hwM) fun hHeld=>?_;clear hK K;generalize hA3:(Act.put _ _ _:Act)=a3;replace Ee:a3.eval (.tmp 50)=.int .i64 a/\a3.eval (.tmp 51)=.agg #[.map (some b0),.map (some (b0+1)),.map (some (b0+2))]/\a3.eval (.tmp 52)=.int .i64 a/\a3.eval (.tmp 58)=.slice ba (bD f a).backs.length bc/\a3.eval (.tmp 53)=.map (some bM)/\a3.eval (.tmp 13)=.pointer (some ⟨wr.heap.size,0,none⟩)/\a3.tmps.size=137:=rV;refine fD 4 rfl fun K hK=>?_;refine aP rfl 51 [.tmp 53] #[110] rfl hcfS [.map (some bM)] (by simp only[GE,MX,EX,Ee,reduceIte,Nat.reduceEqDiff,Nat.reduceLT,Nat.reduceBEq]) _ (HSo.out _ bM qM hMM) ?_;rintro v wS ⟨ma,mc,rfl,hbS,hrS,hfS⟩;have hwS:Below wr.heap.size wr wS:=hHeld.trans (hbS.mono hHeld.size);have hzS:=hwS.size;have pS:=aF.below pM hbS;have oS:=hU pS;refine hK.out _ _ (hwS) fun hHeld=>?_;clear hK K;generalize hA4:(Act.put _ _ _:Act)=a4;replace Ee:a4.eval (.tmp 50)=.int .i64 a/\a4.eval (.tmp 58)=.slice ba (bD f a).backs.length bc/\a4.eval (.tmp 54)=.slice ma (bD f a).members.length mc/\a4.eval (.tmp 13)=.pointer (some ⟨wr.heap.size,0,none⟩)/\a4.tmps.size=137:=xE;refine aL 9 rfl ?_;generalize hA5:(Act.put _ _ _:Act)=a5;replace Ee:a5.eval (.tmp 59)=.agg #[.int .i64 a,.int .i64 (-1),.slice ma (bD f a).members.length mc,.slice ba (bD f a).backs.length bc]/\a5.eval (.tmp 13)=.pointer (some ⟨wr.heap.size,0,none⟩)/\a5.tmps.size=137:=ee5;refine fD 11 rfl fun K hK=>?_;refine pA ?_;refine hK.out _ _ (bel) fun hHeld=>?_;clear hK K;refine aO kr ?_;refine hK0.out _ _ ?_;subst hA5;subst hA4;subst hA3;subst hA2;subst hA1;subst hA0
        try clear Ee
        simp only[GE,Act.put,SU];go_wp2;go_meet;exact⟨wr.heap.size,_,rfl,qd ⟨(((pS.set 0 _ si).set 1 _ si).set 2 _ si).set 3 _ si,aN (aVq wS wr.heap.size _ _ _ _) hrS (fun i hi e=>by have h1:=hfS i hi;have h2:=hbM.size;have h3:(wr.alloc (.cells #[.int .i64 0,.int .i64 0,.slice none 0 0,.slice none 0 0] 52)).drew.heap.size=wr.heap.size+1:=World.size_alloc _ _;omega),aA (((((hwS.setCell (p:=⟨wr.heap.size,0,none⟩) oP _).setCell (p:=⟨wr.heap.size,1,none⟩) oP _).setCell (p:=⟨wr.heap.size,2,none⟩) oP _).setCell (p:=⟨wr.heap.size,3,none⟩) oP _)) HRb.out⟩,((((hwS.setCell (p:=⟨wr.heap.size,0,none⟩) oP _).setCell (p:=⟨wr.heap.size,1,none⟩) oP _).setCell (p:=⟨wr.heap.size,2,none⟩) oP _).setCell (p:=⟨wr.heap.size,3,none⟩) oP _),oz,⟨_,_,rfl⟩,fun i hi=>by have h1:=hfS i hi;have h2:=hbM.size;have h3:(wr.alloc (.cells #[.int .i64 0,.int .i64 0,.slice none 0 0,.slice none 0 0] 52)).drew.heap.size=wr.heap.size+1:=World.size_alloc _ _;omega⟩
      case rest =>
       obtain⟨k,ms,rfl,hNL,hbc,hkl,⟨ma,mc,rfl⟩,hfm⟩:=hcut;have hbxc:Below w8.heap.size w8 wc:=hbx.trans (hbc.mono hbx.size);have hzc:=hbc.size;have k4:=hU hNL.out.1;have f5:=aX (HOF8.out.below hbxc);obtain⟨hl1,hl2⟩:=qF f hn a;obtain⟨ma',mc',e1,n1⟩:=cI.ofRow (B:=wc.heap.size) hNL.out.2.1 (fun x hx=>(hl1 x hx).1) (fun i hi=>cA hNL.out.2.1 hi);obtain⟨ba',bc',e2,n2⟩:=cI.ofRow (B:=wc.heap.size) hNL.out.2.2 (fun x hx=>(hl2 x hx).1) (fun i hi=>cA hNL.out.2.2 hi);cases e1;cases e2;have HFc:aZ wc.heap.size wc ⟨pa,pl,pc,ca,f.code.length,cc⟩ f:=(HF8.out.same (aQ.of hbxc (by have:=hbw8.size;omega))).mono (by have:=hbxc.size;have:=hbw8.size;omega);have HCn:Hid (Calls Tryz.prog 53 #[.agg #[.string f.name,.slice pa pl pc,.int .i64 f.regs,.int .i64 f.words,.slice ca f.code.length cc],.agg #[.int .i64 a,.int .i64 (-1),.slice ma (bD f a).members.length mc,.slice ba (bD f a).backs.length bc]] wc fun e w'=>e=.returned (.tuple #[.int .i64 (cS f (bD f a)).1,.int .i64 (cS f (bD f a)).2])/\Below wc.heap.size wc w') :=
        qd (aGp wc.heap.size ⟨pa,pl,pc,ca,f.code.length,cc⟩ f (bD f a) ma ba mc bc wc lr HFc (HRW8.out.same (aQ.of' hbxc) HRW8.out.1 hbxc.size) n1 n2 hal (fun x hx=>(hl1 x hx).2) (fun x hx=>(hl2 x hx).2) hn)
       clear HFc n1 n2;have hLj:(cG f)[j]? = some (bD f a):=by rw[HLA.out,hgj];simp
       have hLb:∀ (i:Nat) (y:cE),i<j->(cG f)[i]? = some y->decide ((cS f y).1≠0)=false:=fun i y hi hy=>by
        rw[HLA.out]at hy;obtain⟨h,h1,h2⟩:=Option.map_eq_some_iff.1 hy;subst h2;simpa using hok.out i h hi h1
       have HFA:=qd (fun h=>aR3 (p:=fun l=>decide ((cS f l).1≠0)) hLj hLb h);have HLP:=qd hLj;clear hLj hLb g3 hl1 hl2;obtain⟨ce,hce⟩:∃ ce,ce=cS f (bD f a):=⟨_,rfl⟩
       rw[<-hce]at HCn HFA;have HCE:=qd hce;clear hce;obtain⟨ce1,ce2⟩:=ce;dsimp only at HCn;by_cases hc0:ce1=0
       ·subst hc0;go_upto_region 20 with(first|(go_at_call 53;refine HCn.out.mono ?_;rintro e w9 ⟨rfl,hb9⟩)|fail)
        have hz9:=hb9.size;have N9:=hNL.out.1.below hb9;have k4':=hU N9;have hL9:=qd ((hL.out.below hbc).below hb9);have hm9:=qd (aA hb9 hNL.out.2.1);have hs9:=qd (aA hb9 hNL.out.2.2);have hb89:Below w8.heap.size w8 w9:=hbxc.trans (hb9.mono hbxc.size);have hrd:∀ i,(Value.slice ba (bD f a).backs.length bc).ownBlock=some i->i<w8.heap.size:=fun i hi=>cA hrb8.out hi;obtain⟨la,lc,hlv⟩:=hL.out.form;rw[hLl]at hlv;subst hlv;clear k4 f5;have hjm:j<=1024:=oz
        go_wp2_with (first|(at_builtin;refine bO rfl (.tmp 70) (.tmp 72) 43 52 4 64 (.agg #[.int .i64 0,.int .i64 0,.slice none 0 0,.slice none 0 0]) rfl Tryz.underlying43 Tryz.infoL rfl dc _ _ _ rfl (aA eN hL9.out.row) ⟨w9.heap.size,0,none⟩ 1 1 (gT (bD f a,.slice ma (bD f a).members.length mc,.slice ba (bD f a).backs.length bc)) rfl rfl (cC (aF.new' _ _ _ _ rfl)) aOh bH oz dc ?_;intro g4 c4 w4 hr4 hc4 hg4)|fail)
        have hbA:Below w9.heap.size w9 (w9.alloc (.cells (gT (bD f a,.slice ma (bD f a).members.length mc,.slice ba (bD f a).backs.length bc)).toArray 52)):=eN;have hc5:aG (fun i=>(Value.slice la j lc).ownBlock=some i) w9 w4:=(aG.of hbA).trans hc4;have hz5:=hc5.size;have hr5:w4.ownsRow 0 52 4 (.slice (some ⟨g4,0,none⟩) (j+1) c4) (L.length+1) (mJ L++gT (bD f a,.slice ma (bD f a).members.length mc,.slice ba (bD f a).backs.length bc)):=by
         first|exact hr4|(rw[hLl];exact hr4)|(rw[hLl]at hr4;rw[hLl];exact hr4)
        have hvl:∀ i,(Value.slice la j lc).ownBlock=some i->w8.heap.size<=i/\i<wr.heap.size:=fun i hi=>⟨hvb i hi,cA hL.out.row hi⟩
        have hnb:∀ i,(Value.slice (some ⟨g4,0,none⟩) (j+1) c4).ownBlock=some i->(Value.slice la j lc).ownBlock=some i\/w9.heap.size<=i:=fun i hi=>by
         exact aO2
        have hP:=hL9.out.push (t:=(bD f a,.slice ma (bD f a).members.length mc,.slice ba (bD f a).backs.length bc)) hr5 hc5 hnb hm9.out hs9.out (fun i hi=>by
         have h1:=hvl i hi;exact⟨fun e=>by have:=hfm i e;omega,fun e=>by have:=hrd i e;omega⟩)
        have HP:=qd hP;refine⟨⟨j+1,_,oz,si,HP,qd ?_,by simp[hLl],qd (fun i h hi hh=>?_),hb89.trans (hc5.below _ hb89.size (fun i hi e=>by have:=hvl i e;omega)),fun i hi=>?_⟩,?_⟩
        ·rw[List.map_append,hLm.out,List.take_add_one,hgj];simp
        ·by_cases e:i=j
         ·subst e;rw[hgj]at hh;cases hh;rw[Int.toNat_natCast,<-HCE.out]
         ·exact hok.out i h oz hh
        ·exact aOz
        ·go_light;exact ml
       ·have q7:(ce1==0)=false:=by simpa using hc0
        have q8:(ce1 != 0)=true:=by simpa using hc0
        go_wp2_with (first|(go_at_call 53;refine HCn.out.mono ?_;rintro e w9 ⟨rfl,hb9⟩)|fail)
        refine bodyPost_ret (v:=.tuple #[.slice none 0 0,.int .i64 ce1,.int .i64 ce2]) (by simp[results,Tryz.results17,go_sem]) rfl ?_;have e:=HFA.out (by simp[hc0]);have e3:=HFP.out
        try dsimp only at e3
        rw[e]at e3
        try dsimp only at e3
        rw[<-HCE.out]at e3;exact⟨_,[],by rw[e3],hbw8.trans ((hbxc.trans (hb9.mono hbxc.size)).mono hbw8.size),bR.nil _,by rw[e3];rfl⟩
     ·have hjj:j=Hs.length:=oz
      subst hjj;have d3:¬(Hs.length:Int)<(Hs.length:Int):=oz
      have hls:L.map (fun t=>t.1)=cG f:=by rw[hLm.out,List.take_length];exact HLL.out.symm
      have hlsl:(cG f).length=Hs.length:=by rw[<-hls,List.length_map,hLl]
      have hpar:∀ i,i<(cG f).length->((cG f).getD i default).parent = -1:=fun i hi=>by
       rw[List.getD_eq_getElem?_getD,HLA.out,List.getElem?_eq_getElem (show i<Hs.length by omega)];rfl
      have h64:∀ x∈cG f,(∀ y∈x.members,aM y)/\∀ y∈x.backs,aM y:=fun x hx=>by
       obtain⟨i,hi⟩:=List.getElem?_of_mem hx;rw[HLA.out]at hi;obtain⟨h,h1,h2⟩:=Option.map_eq_some_iff.1 hi;subst h2;obtain⟨l1,l2⟩:=qF f hn h.toNat;exact⟨fun y hy=>(l1 y hy).1,fun y hy=>(l2 y hy).1⟩
      have hmm1:∀ i,i<Hs.length->(((cG f).getD i default).members.length:Int)<=1024:=fun i hi=>by
       have e:(cG f).getD i default=bD f (Hs[i]'hi).toNat:=by
        rw[List.getD_eq_getElem?_getD,HLA.out,List.getElem?_eq_getElem hi];rfl
       rw[e];have:(bD f (Hs[i]'hi).toNat).members.length<=f.code.length:=by
        unfold bD dQ;dsimp only;exact aA0
       omega
      have hfin:jI f=(yK (cG f),0,0):=by
       rw[HFP.out];have:=aPs (l:=cG f) (p:=fun l=>decide ((cS f l).1≠0)) (fun i y hy=>by
        rw[HLA.out]at hy;obtain⟨h,h1,h2⟩:=Option.map_eq_some_iff.1 hy;subst h2;simpa using hok.out i h (List.getElem?_eq_some_iff.1 h1).1 h1)
       rw[this]
      have HFIN:=qd hfin;have HLS:=qd hls;have H64:=qd h64;have HPAR:=qd hpar;have HMM:=qd hmm1;have HHL:=qd hlsl;clear hfin hls h64 hpar hmm1 hlsl hLm hok HLL HLA HHN HFP;obtain⟨la,lc,hlv⟩:=hL.out.form;rw[hLl]at hlv;subst hlv;have hL0:Hid (L.map (fun t=>t.1)=lP (cG f) 0 0):=qd (by rw[HLS.out,aBp _ HPAR.out]);clear HLS;obtain⟨wL,hwL⟩:∃ wL:World,wL=wr:=⟨_,rfl⟩
      subst hwL;generalize cG f=ls at *;obtain⟨nl,hnl⟩:∃ nl,nl=Hs.length:=⟨_,rfl⟩
      rw[<-hnl]at d3 hLl HMM HHL hhl hvb hL ⊢;clear hnl HR8 hj;go_wp2;go_loopw [77] (fun i wx=>∃ (a:Nat) (L:List jR),a<=nl/\i=.int .i64 a/\Hid (bR wx (.slice la nl lc) L)/\Hid (L.map (fun t=>t.1)=lP ls a 0)/\L.length=nl/\Below w8.heap.size w8 wx) (fun i _=>nl-(intOf i).toNat)
      case atStart=>exact⟨0,L,Nat.zero_le _,rfl,hL,hL0,hLl,hbx⟩
      case round =>
       clear hL hL0 hLl hbx hzx d3;obtain⟨a,L,ha,rfl,hL,hL0,hLl,hbx⟩:=hrel;by_cases hat:a<nl
       ·have d3:(a:Int)<(nl:Int):=oz
        have hwa:IntKind.i64.wrap ((a:Int)+1)=(a:Int)+1:=IntWalk.i64_in _ oz;obtain⟨g,cap,hv,hc1,hc2,-⟩:=bB hL.out.row oz;rw[hLl]at hv;cases hv;have hgw:w8.heap.size<=g:=hvb g rfl;have hnc:nl<=lc:=oz
        obtain⟨wA,hwA⟩:∃ wA:World,wA=wr:=⟨_,rfl⟩
        subst hwA;go_wp2;go_loopw [82] (fun i wx=>∃ (k:Nat) (L:List jR),k<=nl/\i=.int .i64 k/\Hid (bR wx (.slice (some ⟨g,0,none⟩) nl lc) L)/\Hid (L.map (fun t=>t.1)=lP ls a k)/\L.length=nl/\Below w8.heap.size w8 wx) (fun i _=>nl-(intOf i).toNat)
        case atStart=>exact⟨0,L,Nat.zero_le _,rfl,hL,hL0,hLl,hbx⟩
        case round =>
         clear hL hL0 hLl hbx d3;obtain⟨k,L,hk,rfl,hL,hL0,hLl,hbx⟩:=hrel;by_cases hkt:k<nl
         ·have d3:(k:Int)<(nl:Int):=oz
          have d4:(a:Int)<(nl:Int):=oz
          have hwk:IntKind.i64.wrap ((k:Int)+1)=(k:Int)+1:=IntWalk.i64_in _ oz;have hla:a<ls.length:=by rw[HHL.out];omega
          have hlk:k<ls.length:=by rw[HHL.out];omega
          obtain⟨ti,hti,e1,e2,e3,e4⟩:=aBq ls a k hla;obtain⟨tk,htk,f1,f2,f3⟩:=rE ls a k hlk;have hti':=hti;rw[<-hL0.out,List.getElem?_map]at hti htk;obtain⟨Ti,hTi,hTi2⟩:=Option.map_eq_some_iff.1 hti;obtain⟨Tk,hTk,hTk2⟩:=Option.map_eq_some_iff.1 htk;have hL':bR wr (.slice (some ⟨g,0,none⟩) L.length lc) L:=by rw[hLl];exact hL.out
          have h64':∀ t∈L,(∀ x∈t.1.members,aM x)/\∀ x∈t.1.backs,aM x:=fun t ht=>by
           exact aNw
          obtain⟨i0,i1,-,-⟩:=hL'.cells hTi;have hrdk:=hL'.rd h64' hTk;rw[hTi2]at i0 i1;rw[hTk2]at hrdk;rw[e1]at i0;rw[e4]at i1;have hgl2:g<wr.heap.size:=cA hL.out.row rfl;have HDp:Hid (∀ w',Below wr.heap.size wr w'->Calls Tryz.prog 54 #[.slice (some ⟨g,k*4,none⟩) 1 (lc-k),.int .i64 (ls.getD a default).head] w' fun e w2=>e=.returned (.int .i64 (if(ls.getD k default).members.contains ((ls.getD a default).head:Int)then 1 else 0))/\Below w'.heap.size w' w2) :=
           qd (fun w' hw=>by
            have h:=aLj wr.heap.size g (k*4) (lc-k) 1 [tk] ((ls.getD a default).head:Int) w' hw.size ⟨rfl,dc,hgl2,fun i hi=>by
             obtain rfl:i=0:=oz
             exact hrdk.same (aQ.of' hw) hgl2⟩
            rw[aLw,f2]at h;exact h)
          obtain⟨ma,mc,ba,bc,c0,c1,c2,-,-,-⟩:=hrdk;rw[f2]at c2;have hmk:=HMM.out k hkt;have hkl:(k:Int)+1<=(lc:Int):=oz
          have hkl2:¬lc=k:=oz
          have hkl3:(0:Int)<=(k:Int)+1:=oz
          have HSS:Hid (∀ w',Below wr.heap.size wr w'->w'.cell? ⟨g,a*4,none⟩=some (.int .i64 (ls.getD a default).head)/\w'.cell? ⟨g,a*4+1,none⟩=some (.int .i64 (jH ls a k))/\w'.cell? ⟨g,k*4+2,none⟩=some (.slice ma (ls.getD k default).members.length mc)):=qd (fun w' hw=>⟨(hw.cell (p:=⟨g,a*4,none⟩) hgl2).trans i0,(hw.cell (p:=⟨g,a*4+1,none⟩) hgl2).trans i1,(hw.cell (p:=⟨g,k*4+2,none⟩) hgl2).trans c2⟩);have hcf:∀ (args:Array Value) (w:World),(callFunc 54 args).run Tryz.prog w=.ok (.enter 54 args) w:=fun _ _=>rfl;have HDq:=qd (fun w' hw=>(HDp.out w' hw).mono (R':=fun e w2=>∃ v,e=.returned v/\v=.int .i64 (if(ls.getD k default).members.contains ((ls.getD a default).head:Int)then 1 else 0)/\Below w'.heap.size w' w2) (by rintro e w2 ⟨rfl,h⟩;exact⟨_,rfl,rfl,h⟩));have HRD:=qd (fun(q:Nat) (hq:q<nl)=>show ∃ mq cq,wr.cell? ⟨g,q*4+2,none⟩=some (.slice mq (ls.getD q default).members.length cq)from(by
           obtain⟨tq,htq,u1,u2,u3⟩:=rE ls a k (j:=q) (by rw[HHL.out];exact hq);rw[<-hL0.out,List.getElem?_map]at htq;obtain⟨Tq,hTq,hTq2⟩:=Option.map_eq_some_iff.1 htq;obtain⟨mq,cq,_,_,_,_,h2,_⟩:=hL'.rd h64' hTq;rw[hTq2,u2]at h2;exact⟨mq,cq,h2⟩))
          obtain⟨hda,eha⟩:∃ x:Nat,(ls.getD a default).head=x:=⟨_,rfl⟩
          obtain⟨lk,elk⟩:∃ x:Nat,(ls.getD k default).members.length=x:=⟨_,rfl⟩
          rw[eha,elk]at HSS;rw[eha]at HDq;rw[elk]at hmk;have HEH:=qd eha;have HEK:=qd elk;clear eha elk;have HBD:=qd (uZ ls a k);have HHI:=qd hti';have hlaH:=qd hla;clear HDp i0 i1 c0 c1 c2 e1 e2 e3 e4 f1 f2 f3 htk hti hti' hTk2 hTk hla hlk h64';by_cases hak:a=k
          ·have q1:((a:Int)!=(k:Int))=false:=by simp[hak]
           have HPS:=qd (qU ls a k (fun h=>h.1 hak));clear hak;go_upto_region 28 with(fail)
           generalize hA0:(Act.mk _ _:Act)=a0;have Ee:a0.eval (.tmp 10)=.slice (some ⟨g,0,none⟩) nl lc/\a0.eval (.tmp 16)=.int .i64 a/\a0.eval (.tmp 17)=.int .i64 k/\a0.tmps.size=137:=vD
           refine aE (fun w'=>Below wr.heap.size wr w') kr ((Below.refl _ wr).drew) ?_;intro K0 hK0 hHeld
           try dsimp only at hHeld
           refine aL 0 rfl ?_;refine aL 1 rfl ?_;refine aL 2 rfl ?_;refine aL 3 rfl ?_;generalize hA1:(Act.put _ _ _:Act)=a1;replace Ee:a1.eval (.tmp 10)=.slice (some ⟨g,0,none⟩) nl lc/\a1.eval (.tmp 16)=.int .i64 a/\a1.eval (.tmp 17)=.int .i64 k/\a1.eval (.tmp 88)=.bool false/\a1.tmps.size=137:=oZ;refine mP 4 88 rfl ?_;refine mP 5 88 rfl ?_;refine mP 6 88 rfl ?_;refine mP 7 88 rfl ?_;refine mP 8 88 rfl ?_;refine mP 9 88 rfl ?_;refine mP 10 88 rfl ?_;refine mP 11 88 rfl ?_;refine mP 12 88 rfl ?_;refine mP 13 88 rfl ?_;refine mP 14 88 rfl ?_;refine mP 15 88 rfl ?_;generalize hA2:(Act.put _ _ _:Act)=a2;replace Ee:a2.eval (.tmp 10)=.slice (some ⟨g,0,none⟩) nl lc/\a2.eval (.tmp 16)=.int .i64 a/\a2.eval (.tmp 17)=.int .i64 k/\a2.eval (.tmp 88)=.bool false/\a2.tmps.size=137:=mQ;refine aL 16 rfl ?_;refine aL 17 rfl ?_;generalize hA3:(Act.put _ _ _:Act)=a3;replace Ee:a3.eval (.tmp 10)=.slice (some ⟨g,0,none⟩) nl lc/\a3.eval (.tmp 16)=.int .i64 a/\a3.eval (.tmp 17)=.int .i64 k/\a3.eval (.tmp 102)=.bool false/\a3.tmps.size=137:=rV;refine mP 18 102 rfl ?_;refine mP 19 102 rfl ?_;refine mP 20 102 rfl ?_;refine mP 21 102 rfl ?_;refine mP 22 102 rfl ?_;refine mP 23 102 rfl ?_;refine mP 24 102 rfl ?_;generalize hA4:(Act.put _ _ _:Act)=a4;replace Ee:a4.eval (.tmp 10)=.slice (some ⟨g,0,none⟩) nl lc/\a4.eval (.tmp 16)=.int .i64 a/\a4.eval (.tmp 17)=.int .i64 k/\a4.eval (.tmp 102)=.bool false/\a4.eval (.tmp 109)=undef/\a4.tmps.size=137:=xE;refine rA 25 109 rfl ?_;refine rA 26 109 rfl ?_;refine rA 27 109 rfl ?_;refine rA 28 109 rfl ?_;refine rA 29 109 rfl ?_;refine rA 30 109 rfl ?_;refine rA 31 109 rfl ?_;refine rA 32 109 rfl ?_;refine rA 33 109 rfl ?_;refine rA 34 109 rfl ?_;refine rA 35 109 rfl ?_;refine rA 36 109 rfl ?_;refine rA 37 109 rfl ?_;refine rA 38 109 rfl ?_;refine rA 39 109 rfl ?_;refine rA 40 109 rfl ?_;refine rA 41 109 rfl ?_;generalize hA5:(Act.put _ _ _:Act)=a5;replace Ee:a5.eval (.tmp 10)=.slice (some ⟨g,0,none⟩) nl lc/\a5.eval (.tmp 16)=.int .i64 a/\a5.eval (.tmp 17)=.int .i64 k/\a5.eval (.tmp 102)=.bool false/\a5.tmps.size=137:=ee5;refine mP 42 102 rfl ?_;refine aL 43 rfl ?_;refine aO kr ?_;refine hK0.out _ _ ?_;subst hA5;subst hA4;subst hA3;subst hA2;subst hA1;subst hA0
           try clear Ee
           simp only[GE,Act.put,SU];go_wp2;have hft:Below wr.heap.size wr wr.drew:=(Below.refl _ _).drew;exact aT2
          ·have q1:((a:Int)!=(k:Int))=true:=by simp;omega
           have HAK:=qd hak;clear hak;by_cases hct:(ls.getD k default).members.contains (hda:Int)=true
           ·rw[if_pos hct]at HDq;have HCT:=qd hct;rcases HBD.out with hcur|⟨q,hq,hcur⟩
            ·have HYS:=qd (tQ ls a k hlaH.out ⟨HAK.out,by rw[HEH.out];exact HCT.out,.inl (by rw[hcur];decide)⟩ HHI.out);rw[hcur]at HSS;clear hcur hct;go_upto_region 28 with(fail)
             generalize hA0:(Act.mk _ _:Act)=a0;have Ee:a0.eval (.tmp 10)=.slice (some ⟨g,0,none⟩) nl lc/\a0.eval (.tmp 16)=.int .i64 a/\a0.eval (.tmp 17)=.int .i64 k/\a0.tmps.size=137:=vD
             refine aE (fun w'=>Below wr.heap.size wr w') kr ((Below.refl _ wr).drew) ?_;intro K0 hK0 hHeld
             try dsimp only at hHeld
             refine aL 0 rfl ?_;refine aL 1 rfl ?_;refine aL 2 rfl ?_;refine aL 3 rfl ?_;generalize hA1:(Act.put _ _ _:Act)=a1;replace Ee:a1.eval (.tmp 10)=.slice (some ⟨g,0,none⟩) nl lc/\a1.eval (.tmp 16)=.int .i64 a/\a1.eval (.tmp 17)=.int .i64 k/\a1.eval (.tmp 88)=.bool true/\a1.tmps.size=137:=oZ;refine sW 4 88 rfl ?_;refine sW 5 88 rfl ?_;refine sW 6 88 rfl ?_;refine sW 7 88 rfl ?_;refine sW 8 88 rfl ?_;refine sW 9 88 rfl ?_;refine sW 10 88 rfl ?_;refine sW 11 88 rfl ?_;refine sW 12 88 rfl ?_;refine sW 13 88 rfl ?_;generalize hA2:(Act.put _ _ _:Act)=a2;replace Ee:a2.eval (.tmp 10)=.slice (some ⟨g,0,none⟩) nl lc/\a2.eval (.tmp 16)=.int .i64 a/\a2.eval (.tmp 17)=.int .i64 k/\a2.eval (.tmp 88)=.bool true/\a2.eval (.tmp 93)=.slice (some ⟨g,k*4,none⟩) 1 (lc-k)/\a2.eval (.tmp 98)=.int .i64 hda/\a2.tmps.size=137:=mQ;refine fD 14 rfl fun K hK=>?_;refine oJ (hw:=((kV rfl rfl rfl (d:=88) aJ2 aC6).trans rfl)) 54 [.tmp 93,.tmp 98] #[43,3] rfl hcf [.slice (some ⟨g,k*4,none⟩) 1 (lc-k),.int .i64 hda] (by simp only[GE,MX,EX,Ee,reduceIte,Nat.reduceEqDiff,Nat.reduceLT,Nat.reduceBEq]) _ (HDq.out _ hHeld) ?_;rintro v wM ⟨rfl,hbM⟩;have hwM:Below wr.heap.size wr wM:=hHeld.trans (hbM.mono hHeld.size);have hzM:=hwM.size;refine hK.out _ _ (hwM) fun hHeld=>?_;clear hK K;generalize hA3:(Act.put _ _ _:Act)=a3;replace Ee:a3.eval (.tmp 10)=.slice (some ⟨g,0,none⟩) nl lc/\a3.eval (.tmp 16)=.int .i64 a/\a3.eval (.tmp 17)=.int .i64 k/\a3.eval (.tmp 88)=.bool true/\a3.eval (.tmp 99)=.int .i64 1/\a3.tmps.size=137:=rV;refine sW 15 88 rfl ?_;refine aL 16 rfl ?_;refine aL 17 rfl ?_;generalize hA4:(Act.put _ _ _:Act)=a4;replace Ee:a4.eval (.tmp 10)=.slice (some ⟨g,0,none⟩) nl lc/\a4.eval (.tmp 16)=.int .i64 a/\a4.eval (.tmp 17)=.int .i64 k/\a4.eval (.tmp 102)=.bool true/\a4.tmps.size=137:=xE;refine sW 18 102 rfl ?_;refine sW 19 102 rfl ?_;refine sW 20 102 rfl ?_;refine sW 21 102 rfl ?_;refine sW 22 102 rfl ?_;refine sW 23 102 rfl ?_;refine sW 24 102 rfl ?_;generalize hA5:(Act.put _ _ _:Act)=a5;replace Ee:a5.eval (.tmp 10)=.slice (some ⟨g,0,none⟩) nl lc/\a5.eval (.tmp 16)=.int .i64 a/\a5.eval (.tmp 17)=.int .i64 k/\a5.eval (.tmp 102)=.bool true/\a5.eval (.tmp 109)=.bool true/\a5.tmps.size=137:=ee5;refine mP 25 109 rfl ?_;refine mP 26 109 rfl ?_;refine mP 27 109 rfl ?_;refine mP 28 109 rfl ?_;refine mP 29 109 rfl ?_;refine mP 30 109 rfl ?_;refine mP 31 109 rfl ?_;refine mP 32 109 rfl ?_;refine mP 33 109 rfl ?_;refine mP 34 109 rfl ?_;refine mP 35 109 rfl ?_;refine mP 36 109 rfl ?_;refine mP 37 109 rfl ?_;refine mP 38 109 rfl ?_;refine mP 39 109 rfl ?_;refine mP 40 109 rfl ?_;refine mP 41 109 rfl ?_;generalize hA6:(Act.put _ _ _:Act)=a6;replace Ee:a6.eval (.tmp 10)=.slice (some ⟨g,0,none⟩) nl lc/\a6.eval (.tmp 16)=.int .i64 a/\a6.eval (.tmp 17)=.int .i64 k/\a6.eval (.tmp 102)=.bool true/\a6.eval (.tmp 109)=.bool true/\a6.tmps.size=137:=ee6;refine sW 42 102 rfl ?_;refine aL 43 rfl ?_;refine aO kr ?_;refine hK0.out _ _ ?_;subst hA6;subst hA5;subst hA4;subst hA3;subst hA2;subst hA1;subst hA0
             exact aUc
            ·obtain⟨mq,cq,hmq⟩:=HRD.out q oz;have hqn:(q:Int)<(nl:Int):=oz
             have hq0:¬(q:Int)<0:=oz
             have hmql:=HMM.out q oz;obtain⟨lq,elq⟩:∃ x:Nat,(ls.getD q default).members.length=x:=⟨_,rfl⟩
             rw[elq]at hmq hmql;have HEQ:=qd elq;clear elq;have HSS2:Hid (∀ w',Below wr.heap.size wr w'->w'.cell? ⟨g,a*4,none⟩=some (.int .i64 hda)/\w'.cell? ⟨g,a*4+1,none⟩=some (.int .i64 q)/\w'.cell? ⟨g,k*4+2,none⟩=some (.slice ma lk mc)/\w'.cell? ⟨g,q*4+2,none⟩=some (.slice mq lq cq)):=qd (fun w' hw=>by
              obtain⟨h0,h1,h2⟩:=HSS.out w' hw;rw[hcur]at h1;exact⟨h0,h1,h2,(hw.cell (p:=⟨g,q*4+2,none⟩) hgl2).trans hmq⟩)
             have hcq:(jH ls a k).toNat=q:=by rw[hcur];simp
             by_cases hlt:lk<lq
             ·have HYS:=qd (tQ ls a k hlaH.out ⟨HAK.out,by rw[HEH.out];exact HCT.out,.inr (by rw[hcq,HEK.out,HEQ.out];exact hlt)⟩ HHI.out);have hlt2:(lk:Int)<(lq:Int):=oz
              clear hcur hct hcq hmq hlt;go_upto_region 28 with(fail)
              generalize hA0:(Act.mk _ _:Act)=a0;have Ee:a0.eval (.tmp 10)=.slice (some ⟨g,0,none⟩) nl lc/\a0.eval (.tmp 16)=.int .i64 a/\a0.eval (.tmp 17)=.int .i64 k/\a0.tmps.size=137:=vD
              refine aE (fun w'=>Below wr.heap.size wr w') kr ((Below.refl _ wr).drew) ?_;intro K0 hK0 hHeld
              try dsimp only at hHeld
              refine eY 0 rfl ?_;refine eY 1 rfl ?_;refine eY 2 rfl ?_;refine eY 3 rfl ?_;generalize hA1:(Act.put _ _ _:Act)=a1;replace Ee:a1.eval (.tmp 10)=.slice (some ⟨g,0,none⟩) nl lc/\a1.eval (.tmp 16)=.int .i64 a/\a1.eval (.tmp 17)=.int .i64 k/\a1.eval (.tmp 88)=.bool true/\a1.tmps.size=137:=oZ;refine cR 4 88 rfl ?_;refine cR 5 88 rfl ?_;refine cR 6 88 rfl ?_;refine cR 7 88 rfl ?_;refine cR 8 88 rfl ?_;refine cR 9 88 rfl ?_;refine cR 10 88 rfl ?_;refine cR 11 88 rfl ?_;refine cR 12 88 rfl ?_;refine cR 13 88 rfl ?_;generalize hA2:(Act.put _ _ _:Act)=a2;replace Ee:a2.eval (.tmp 10)=.slice (some ⟨g,0,none⟩) nl lc/\a2.eval (.tmp 16)=.int .i64 a/\a2.eval (.tmp 17)=.int .i64 k/\a2.eval (.tmp 88)=.bool true/\a2.eval (.tmp 93)=.slice (some ⟨g,k*4,none⟩) 1 (lc-k)/\a2.eval (.tmp 98)=.int .i64 hda/\a2.tmps.size=137:=mQ;refine fD 14 rfl fun K hK=>?_;refine oJ (hw:=((kV rfl rfl rfl (d:=88) aJ2 aC6).trans rfl)) 54 [.tmp 93,.tmp 98] #[43,3] rfl hcf [.slice (some ⟨g,k*4,none⟩) 1 (lc-k),.int .i64 hda] (by simp only[GE,MX,EX,Ee,reduceIte,Nat.reduceEqDiff,Nat.reduceLT,Nat.reduceBEq]) _ (HDq.out _ hHeld) ?_;rintro v wM ⟨rfl,hbM⟩;have hwM:Below wr.heap.size wr wM:=hHeld.trans (hbM.mono hHeld.size);have hzM:=hwM.size;refine hK.out _ _ (hwM) fun hHeld=>?_;clear hK K;generalize hA3:(Act.put _ _ _:Act)=a3;replace Ee:a3.eval (.tmp 10)=.slice (some ⟨g,0,none⟩) nl lc/\a3.eval (.tmp 16)=.int .i64 a/\a3.eval (.tmp 17)=.int .i64 k/\a3.eval (.tmp 88)=.bool true/\a3.eval (.tmp 99)=.int .i64 1/\a3.tmps.size=137:=rV;refine cR 15 88 rfl ?_;refine eY 16 rfl ?_;refine eY 17 rfl ?_;generalize hA4:(Act.put _ _ _:Act)=a4;replace Ee:a4.eval (.tmp 10)=.slice (some ⟨g,0,none⟩) nl lc/\a4.eval (.tmp 16)=.int .i64 a/\a4.eval (.tmp 17)=.int .i64 k/\a4.eval (.tmp 102)=.bool true/\a4.tmps.size=137:=xE;refine cR 18 102 rfl ?_;refine cR 19 102 rfl ?_;refine cR 20 102 rfl ?_;refine cR 21 102 rfl ?_;refine cR 22 102 rfl ?_;refine cR 23 102 rfl ?_;refine cR 24 102 rfl ?_;generalize hA5:(Act.put _ _ _:Act)=a5;replace Ee:a5.eval (.tmp 10)=.slice (some ⟨g,0,none⟩) nl lc/\a5.eval (.tmp 16)=.int .i64 a/\a5.eval (.tmp 17)=.int .i64 k/\a5.eval (.tmp 102)=.bool true/\a5.eval (.tmp 109)=.bool false/\a5.tmps.size=137:=ee5;refine cR 25 109 rfl ?_;refine cR 26 109 rfl ?_;refine cR 27 109 rfl ?_;refine cR 28 109 rfl ?_;refine cR 29 109 rfl ?_;refine cR 30 109 rfl ?_;refine cR 31 109 rfl ?_;refine cR 32 109 rfl ?_;refine cR 33 109 rfl ?_;refine cR 34 109 rfl ?_;refine cR 35 109 rfl ?_;refine cR 36 109 rfl ?_;refine cR 37 109 rfl ?_;refine cR 38 109 rfl ?_;refine cR 39 109 rfl ?_;refine cR 40 109 rfl ?_;refine cR 41 109 rfl ?_;generalize hA6:(Act.put _ _ _:Act)=a6;replace Ee:a6.eval (.tmp 10)=.slice (some ⟨g,0,none⟩) nl lc/\a6.eval (.tmp 16)=.int .i64 a/\a6.eval (.tmp 17)=.int .i64 k/\a6.eval (.tmp 102)=.bool true/\a6.eval (.tmp 109)=.bool false/\a6.eval (.tmp 126)=.bool true/\a6.tmps.size=137:=ee6;refine cR 42 102 rfl ?_;refine eY 43 rfl ?_;refine aO kr ?_;refine hK0.out _ _ ?_;subst hA6;subst hA5;subst hA4;subst hA3;subst hA2;subst hA1;subst hA0
              exact aUc
             ·have HPS:=qd (qU ls a k (fun h=>by have h3:=h.2.2;rw[hcq,hcur,HEK.out,HEQ.out]at h3;omega));have hlt2:¬(lk:Int)<(lq:Int):=oz
              clear hcur hct hcq hmq hlt;go_upto_region 28 with(fail)
              generalize hA0:(Act.mk _ _:Act)=a0;have Ee:a0.eval (.tmp 10)=.slice (some ⟨g,0,none⟩) nl lc/\a0.eval (.tmp 16)=.int .i64 a/\a0.eval (.tmp 17)=.int .i64 k/\a0.tmps.size=137:=vD
              refine aE (fun w'=>Below wr.heap.size wr w') kr ((Below.refl _ wr).drew) ?_;intro K0 hK0 hHeld
              try dsimp only at hHeld
              refine eY 0 rfl ?_;refine eY 1 rfl ?_;refine eY 2 rfl ?_;refine eY 3 rfl ?_;generalize hA1:(Act.put _ _ _:Act)=a1;replace Ee:a1.eval (.tmp 10)=.slice (some ⟨g,0,none⟩) nl lc/\a1.eval (.tmp 16)=.int .i64 a/\a1.eval (.tmp 17)=.int .i64 k/\a1.eval (.tmp 88)=.bool true/\a1.tmps.size=137:=oZ;refine cR 4 88 rfl ?_;refine cR 5 88 rfl ?_;refine cR 6 88 rfl ?_;refine cR 7 88 rfl ?_;refine cR 8 88 rfl ?_;refine cR 9 88 rfl ?_;refine cR 10 88 rfl ?_;refine cR 11 88 rfl ?_;refine cR 12 88 rfl ?_;refine cR 13 88 rfl ?_;generalize hA2:(Act.put _ _ _:Act)=a2;replace Ee:a2.eval (.tmp 10)=.slice (some ⟨g,0,none⟩) nl lc/\a2.eval (.tmp 16)=.int .i64 a/\a2.eval (.tmp 17)=.int .i64 k/\a2.eval (.tmp 88)=.bool true/\a2.eval (.tmp 93)=.slice (some ⟨g,k*4,none⟩) 1 (lc-k)/\a2.eval (.tmp 98)=.int .i64 hda/\a2.tmps.size=137:=mQ;refine fD 14 rfl fun K hK=>?_;refine oJ (hw:=((kV rfl rfl rfl (d:=88) aJ2 aC6).trans rfl)) 54 [.tmp 93,.tmp 98] #[43,3] rfl hcf [.slice (some ⟨g,k*4,none⟩) 1 (lc-k),.int .i64 hda] (by simp only[GE,MX,EX,Ee,reduceIte,Nat.reduceEqDiff,Nat.reduceLT,Nat.reduceBEq]) _ (HDq.out _ hHeld) ?_;rintro v wM ⟨rfl,hbM⟩;have hwM:Below wr.heap.size wr wM:=hHeld.trans (hbM.mono hHeld.size);have hzM:=hwM.size;refine hK.out _ _ (hwM) fun hHeld=>?_;clear hK K;generalize hA3:(Act.put _ _ _:Act)=a3;replace Ee:a3.eval (.tmp 10)=.slice (some ⟨g,0,none⟩) nl lc/\a3.eval (.tmp 16)=.int .i64 a/\a3.eval (.tmp 17)=.int .i64 k/\a3.eval (.tmp 88)=.bool true/\a3.eval (.tmp 99)=.int .i64 1/\a3.tmps.size=137:=rV;refine cR 15 88 rfl ?_;refine eY 16 rfl ?_;refine eY 17 rfl ?_;generalize hA4:(Act.put _ _ _:Act)=a4;replace Ee:a4.eval (.tmp 10)=.slice (some ⟨g,0,none⟩) nl lc/\a4.eval (.tmp 16)=.int .i64 a/\a4.eval (.tmp 17)=.int .i64 k/\a4.eval (.tmp 102)=.bool true/\a4.tmps.size=137:=xE;refine cR 18 102 rfl ?_;refine cR 19 102 rfl ?_;refine cR 20 102 rfl ?_;refine cR 21 102 rfl ?_;refine cR 22 102 rfl ?_;refine cR 23 102 rfl ?_;refine cR 24 102 rfl ?_;generalize hA5:(Act.put _ _ _:Act)=a5;replace Ee:a5.eval (.tmp 10)=.slice (some ⟨g,0,none⟩) nl lc/\a5.eval (.tmp 16)=.int .i64 a/\a5.eval (.tmp 17)=.int .i64 k/\a5.eval (.tmp 102)=.bool true/\a5.eval (.tmp 109)=.bool false/\a5.tmps.size=137:=ee5;refine cR 25 109 rfl ?_;refine cR 26 109 rfl ?_;refine cR 27 109 rfl ?_;refine cR 28 109 rfl ?_;refine cR 29 109 rfl ?_;refine cR 30 109 rfl ?_;refine cR 31 109 rfl ?_;refine cR 32 109 rfl ?_;refine cR 33 109 rfl ?_;refine cR 34 109 rfl ?_;refine cR 35 109 rfl ?_;refine cR 36 109 rfl ?_;refine cR 37 109 rfl ?_;refine cR 38 109 rfl ?_;refine cR 39 109 rfl ?_;refine cR 40 109 rfl ?_;refine cR 41 109 rfl ?_;generalize hA6:(Act.put _ _ _:Act)=a6;replace Ee:a6.eval (.tmp 10)=.slice (some ⟨g,0,none⟩) nl lc/\a6.eval (.tmp 16)=.int .i64 a/\a6.eval (.tmp 17)=.int .i64 k/\a6.eval (.tmp 102)=.bool true/\a6.eval (.tmp 109)=.bool false/\a6.eval (.tmp 126)=.bool false/\a6.tmps.size=137:=ee6;refine cR 42 102 rfl ?_;refine eY 43 rfl ?_;refine aO kr ?_;refine hK0.out _ _ ?_;subst hA6;subst hA5;subst hA4;subst hA3;subst hA2;subst hA1;subst hA0
              exact aNv
           ·rw[if_neg hct]at HDq;have HPS:=qd (qU ls a k (fun h=>hct (by rw[<-HEH.out];exact h.2.1)));clear hct;go_upto_region 28 with(fail)
            generalize hA0:(Act.mk _ _:Act)=a0;have Ee:a0.eval (.tmp 10)=.slice (some ⟨g,0,none⟩) nl lc/\a0.eval (.tmp 16)=.int .i64 a/\a0.eval (.tmp 17)=.int .i64 k/\a0.tmps.size=137:=vD
            refine aE (fun w'=>Below wr.heap.size wr w') kr ((Below.refl _ wr).drew) ?_;intro K0 hK0 hHeld
            try dsimp only at hHeld
            refine aL 0 rfl ?_;refine aL 1 rfl ?_;refine aL 2 rfl ?_;refine aL 3 rfl ?_;generalize hA1:(Act.put _ _ _:Act)=a1;replace Ee:a1.eval (.tmp 10)=.slice (some ⟨g,0,none⟩) nl lc/\a1.eval (.tmp 16)=.int .i64 a/\a1.eval (.tmp 17)=.int .i64 k/\a1.eval (.tmp 88)=.bool true/\a1.tmps.size=137:=oZ;refine sW 4 88 rfl ?_;refine sW 5 88 rfl ?_;refine sW 6 88 rfl ?_;refine sW 7 88 rfl ?_;refine sW 8 88 rfl ?_;refine sW 9 88 rfl ?_;refine sW 10 88 rfl ?_;refine sW 11 88 rfl ?_;refine sW 12 88 rfl ?_;refine sW 13 88 rfl ?_;generalize hA2:(Act.put _ _ _:Act)=a2;replace Ee:a2.eval (.tmp 10)=.slice (some ⟨g,0,none⟩) nl lc/\a2.eval (.tmp 16)=.int .i64 a/\a2.eval (.tmp 17)=.int .i64 k/\a2.eval (.tmp 88)=.bool true/\a2.eval (.tmp 93)=.slice (some ⟨g,k*4,none⟩) 1 (lc-k)/\a2.eval (.tmp 98)=.int .i64 hda/\a2.tmps.size=137:=mQ;refine fD 14 rfl fun K hK=>?_;refine oJ (hw:=((kV rfl rfl rfl (d:=88) aJ2 aC6).trans rfl)) 54 [.tmp 93,.tmp 98] #[43,3] rfl hcf [.slice (some ⟨g,k*4,none⟩) 1 (lc-k),.int .i64 hda] (by simp only[GE,MX,EX,Ee,reduceIte,Nat.reduceEqDiff,Nat.reduceLT,Nat.reduceBEq]) _ (HDq.out _ hHeld) ?_;rintro v wM ⟨rfl,hbM⟩;have hwM:Below wr.heap.size wr wM:=hHeld.trans (hbM.mono hHeld.size);have hzM:=hwM.size;refine hK.out _ _ (hwM) fun hHeld=>?_;clear hK K;generalize hA3:(Act.put _ _ _:Act)=a3;replace Ee:a3.eval (.tmp 10)=.slice (some ⟨g,0,none⟩) nl lc/\a3.eval (.tmp 16)=.int .i64 a/\a3.eval (.tmp 17)=.int .i64 k/\a3.eval (.tmp 88)=.bool true/\a3.eval (.tmp 99)=.int .i64 0/\a3.tmps.size=137:=rV;refine sW 15 88 rfl ?_;refine aL 16 rfl ?_;refine aL 17 rfl ?_;generalize hA4:(Act.put _ _ _:Act)=a4;replace Ee:a4.eval (.tmp 10)=.slice (some ⟨g,0,none⟩) nl lc/\a4.eval (.tmp 16)=.int .i64 a/\a4.eval (.tmp 17)=.int .i64 k/\a4.eval (.tmp 102)=.bool false/\a4.tmps.size=137:=xE;refine mP 18 102 rfl ?_;refine mP 19 102 rfl ?_;refine mP 20 102 rfl ?_;refine mP 21 102 rfl ?_;refine mP 22 102 rfl ?_;refine mP 23 102 rfl ?_;refine mP 24 102 rfl ?_;generalize hA5:(Act.put _ _ _:Act)=a5;replace Ee:a5.eval (.tmp 10)=.slice (some ⟨g,0,none⟩) nl lc/\a5.eval (.tmp 16)=.int .i64 a/\a5.eval (.tmp 17)=.int .i64 k/\a5.eval (.tmp 102)=.bool false/\a5.eval (.tmp 109)=undef/\a5.tmps.size=137:=ee5;refine rA 25 109 rfl ?_;refine rA 26 109 rfl ?_;refine rA 27 109 rfl ?_;refine rA 28 109 rfl ?_;refine rA 29 109 rfl ?_;refine rA 30 109 rfl ?_;refine rA 31 109 rfl ?_;refine rA 32 109 rfl ?_;refine rA 33 109 rfl ?_;refine rA 34 109 rfl ?_;refine rA 35 109 rfl ?_;refine rA 36 109 rfl ?_;refine rA 37 109 rfl ?_;refine rA 38 109 rfl ?_;refine rA 39 109 rfl ?_;refine rA 40 109 rfl ?_;refine rA 41 109 rfl ?_;generalize hA6:(Act.put _ _ _:Act)=a6;replace Ee:a6.eval (.tmp 10)=.slice (some ⟨g,0,none⟩) nl lc/\a6.eval (.tmp 16)=.int .i64 a/\a6.eval (.tmp 17)=.int .i64 k/\a6.eval (.tmp 102)=.bool false/\a6.tmps.size=137:=ee6;refine mP 42 102 rfl ?_;refine aL 43 rfl ?_;refine aO kr ?_;refine hK0.out _ _ ?_;subst hA6;subst hA5;subst hA4;subst hA3;subst hA2;subst hA1;subst hA0
            exact aNv
         ·exact aTx
       ·have haa:nl=a:=oz
        subst haa;have d3:¬(nl:Int)<(nl:Int):=oz
        go_wp2;refine bodyPost_ret (v:=.tuple #[.slice la nl lc,.int .i64 0,.int .i64 0]) (by simp[results,Tryz.results17,go_sem]) rfl ?_;refine⟨_,L,by rw[HFIN.out],hbw8.trans (hbx.mono hbw8.size),hL.out,?_⟩;rw[hL0.out,HFIN.out,<-HHL.out];exact aFy ls
   ·have hi0:0<=i:=by
     unfold jJ at hMi;split at hMi
     ·assumption
     ·cases hMi
    obtain⟨a,rfl⟩:=Int.eq_ofNat_of_zero_le hi0;have hMi2:=hMi;rw[fC]at hMi;have ha:a<1024:=by
     refine Classical.byContradiction fun h=>?_;rw[HG2.out.big 2 a (by decide) h]at hMi;cases hMi
    have hlc:=aAp ha hli;have hlt:=hR.out.lt;have hb26:Below W2.heap.size W2 W6:=hbr.trans (hc2.below _ hbr.size (fun k hk e=>by omega));obtain⟨W7,hrun7,hM7,hc7⟩:=(OM.out.chg hc2 oz).set Tryz.mapU bH hi (.agg #[]);rw[uD,aKq (by rw[hMi2];rfl)]at hM7;have hz7:=hc7.size;have HM7:=qd hM7;have HR7:=qd (hR2.keep (hc7.block _ hR2.owns.lt oz) (hc7.block _ hR2.lt.1 oz));clear hM7 OM hR hR2 hMi2;go_wp2
    go_roundg c2
    case measure=>exact hlt2
    case rel=>exact⟨_,q+1,HR7,oz,qd (fun i h=>hsm.out i (by simp at h;exact h.1)),hb26.trans (hc7.below _ hb26.size (fun k hk e=>by omega)),oz,HM7⟩
end Go.Proofs.YteebpnbdihcfmaaGreatDoor
