/- Plain law; Plain law for the refe; R14; trips -/
import Derived.Test.YteebpnbdihcfmaaGreatDoorJ16
set_option linter.unusedVariables false
set_option linter.unusedSimpArgs false
set_option maxRecDepth 100000
set_option maxHeartbeats 20000000
namespace Go.Proofs.YteebpnbdihcfmaaGreatDoor
open Go.RowKit
noncomputable def eJ (f:aC) (l:List (Nat×Int)):List (Nat×Int):=l.filter fun e => !kL f e.2.toNat e.1
noncomputable def fK (f:aC) (l:List (Nat×Int)):List (Nat×Int):=l.filter fun e=>kL f e.2.toNat e.1
/-- of each instruction where edges lead, or where they come from -/
def bW (l:List (Nat×Int)) (t:Bool) (v:Nat):List Int:=if t then(l.filter fun e=>e.2==(v:Int)).map (fun e=>(e.1:Int))else(l.filter fun e=>e.1==v).map fun e=>e.2
theorem aGr (t:Bool) (v:Nat):bW [] t v=[]:=by unfold bW;split<;>rfl
theorem aE8 (l:List (Nat×Int)) (u w:Nat) (t:Bool) (v:Nat):bW (l++[(u,(w:Int))]) t v=if v=(if t then w else u)then bW l t v++[if t then(u:Int)else(w:Int)]else bW l t v:=by
 unfold bW;cases t
 ·simp only[Bool.false_eq_true,if_false,List.filter_append,List.map_append];by_cases e:v=u
  ·subst e;simp
  ·rw[if_neg e];have:(u==v)=false:=by simp;omega
   simp[this]
 ·simp only[if_true,List.filter_append,List.map_append];by_cases e:v=w
  ·subst e;simp
  ·rw[if_neg e];have:((w:Int)==(v:Int))=false:=by simp;omega
   simp[this]
theorem aH9 (f:aC) (u:Nat):bW (eJ f (aW f)) false u=GL f 1 u:=by
 unfold bW eJ GL nJ;rw[if_neg (by simp),if_neg (by omega),if_pos rfl,List.filter_filter]
theorem aE2 (f:aC) (v:Nat):bW (fK f (aW f)) true v=GL f 2 v:=by
 unfold bW fK GL nJ;rw[if_pos rfl,if_neg (by omega),if_neg (by omega),List.filter_filter]
theorem aG6 (f:aC) (v:Nat) (x:Int):x∈bW (eJ f (aW f)++fK f (aW f)) true v↔x∈GL f 0 v:=by
 unfold bW eJ fK GL nJ dV;rw[if_pos rfl,if_pos rfl];simp only[List.mem_map,List.mem_filter,List.mem_append];constructor
 ·rintro⟨e,⟨h|h,h2⟩,rfl⟩
  ·exact⟨e,⟨h.1,h2⟩,rfl⟩
  ·exact⟨e,⟨h.1,h2⟩,rfl⟩
 ·rintro⟨e,⟨h,h2⟩,rfl⟩;cases hd:kL f e.2.toNat e.1
  ·exact⟨e,⟨.inl ⟨h,by simp[hd]⟩,h2⟩,rfl⟩
  ·exact⟨e,⟨.inr ⟨h,hd⟩,h2⟩,rfl⟩
theorem Cl.congr {nx nx':Int->List Int}{b0:Int->Bool}{t0 t0':List Int}(h1:∀ x y,y∈nx x↔y∈nx' x) (h2:∀ x,x∈t0↔x∈t0') {x:Int}:Cl nx b0 t0 x↔Cl nx' b0 t0' x:=by
 constructor
 ·intro h
  induction h with
  | start x h=>exact .start x ((h2 x).1 h)
  | step x y _ hb hy ih=>exact .step x y ih hb ((h1 x y).1 hy)
 ·intro h
  induction h with
  | start x h=>exact .start x ((h2 x).2 h)
  | step x y _ hb hy ih=>exact .step x y ih hb ((h1 x y).2 hy)
/-- the search by a row that grows: what is left of the row is what is still to be gone through -/
theorem mE.popped {nx:Int->List Int}{b0:Int->Bool}{t0:List Int}{been:Int->Bool}{t:List Int}{a:Int}(h:mE nx b0 t0 been (a::t)):mE nx b0 t0 been (t++[a]):=h.perm (fun x=>by simp only[List.mem_cons,List.mem_append,List.not_mem_nil,or_false];exact Or.comm)
theorem mH (n:Nat) (p:Int->Bool):dQ (n+1) p=if p (n:Int)then dQ n p++[(n:Int)]else dQ n p:=by
 unfold dQ;rw[List.range_succ,List.filter_append,List.map_append];cases h:p (n:Int)
 ·simp[h]
 ·simp[h]
theorem rL (n:Nat) (p:Int->Bool):(dQ n p).length<=n:=by
 unfold dQ;exact aA0
theorem aB5 (p:Int->Bool) (h:Nat) (hp:p h=true):∀ n,h<n->∃ r,dQ n p=dQ h p++(h:Int)::r
 | 0,hh=>by omega
 | n+1,hh=>by
  by_cases e:n=h
  ·subst e;rw[mH,if_pos hp];exact⟨[],rfl⟩
  ·obtain⟨r,hr⟩:=aB5 p h hp n oz;rw[mH,hr];split
   ·exact⟨r++[(n:Int)],si⟩
   ·exact⟨r,rfl⟩
/-- the loops of the heads below h -/
noncomputable def iY (f:aC) (h:Nat):List cE:=(dQ h fun h=>decide (GL f 2 h.toNat≠[])).map fun h=>bD f h.toNat
theorem zG (f:aC):iY f f.code.length=cG f:=rfl
theorem aH7 {f:aC}{h:Nat}(hg:GL f 2 h≠[]):iY f (h+1)=iY f h++[bD f h]:=by
 unfold iY;rw[mH,if_pos (by rw[Int.toNat_natCast];exact decide_eq_true hg),List.map_append];rfl
theorem aLr {f:aC}{h:Nat}(hg:GL f 2 h=[]):iY f (h+1)=iY f h:=by
 unfold iY;rw[mH,if_neg (by rw[Int.toNat_natCast,hg];simp)]
theorem aAd (f:aC) (h:Nat):(iY f h).length<=h:=by unfold iY;rw[List.length_map];exact rL _ _
theorem aEo {f:aC}{h:Nat}(hh:h<f.code.length) (hg:GL f 2 h≠[]) (hb:∀ l∈iY f h,(cS f l).1=0) (hc:(cS f (bD f h)).1≠0):(cG f).find? (fun l=>decide ((cS f l).1≠0))=some (bD f h):=by
 obtain⟨r,hr⟩:=aB5 (fun h=>decide (GL f 2 h.toNat≠[])) h (by rw[Int.toNat_natCast];exact decide_eq_true hg) _ hh;have e:cG f=iY f h++bD f h::r.map fun h=>bD f h.toNat:=by
  rw[<-zG];unfold iY;rw[hr,List.map_append,List.map_cons,Int.toNat_natCast]
 rw[e,List.find?_append,List.find?_eq_none.2 (fun l hl=>by simp[hb l hl]),List.find?_cons_of_pos (by simpa using hc)];rfl
theorem aFj {f:aC}(hb:∀ l∈iY f f.code.length,(cS f l).1=0):(cG f).find? (fun l=>decide ((cS f l).1≠0))=none:=by
 rw[List.find?_eq_none];intro l hl;simp[hb l hl]
/-- the lists of the reference, and the graph's -/
noncomputable def aTz (f:aC):Nat->List Int:=bW (eJ f (aW f)++fK f (aW f)) true
theorem yW {l:List (Nat×Int)}{t:Bool}{v n:Nat}(hl:∀ x∈l,∃ v:Nat,x.2=v/\v<n/\x.1<n) {x:Int}(hx:x∈bW l t v):∃ k:Nat,x=k/\k<n:=by
 unfold bW at hx;split at hx
 ·obtain⟨e,he,rfl⟩:=List.mem_map.1 hx;obtain⟨v,_,_,h⟩:=hl e (List.mem_filter.1 he).1;exact⟨e.1,rfl,h⟩
 ·obtain⟨e,he,rfl⟩:=List.mem_map.1 hx;obtain⟨v,h1,h2,_⟩:=hl e (List.mem_filter.1 he).1;exact⟨v,h1,h2⟩
theorem aB4 (f:aC):(∀ x∈eJ f (aW f),∃ v:Nat,x.2=v/\v<f.code.length/\x.1<f.code.length)/\∀ x∈fK f (aW f),∃ v:Nat,x.2=v/\v<f.code.length/\x.1<f.code.length:=by
 constructor
 ·intro x hx;exact kT f x (List.mem_filter.1 hx).1
 ·intro x hx;exact kT f x (List.mem_filter.1 hx).1
theorem aMo (f:aC):(eJ f (aW f)).length<=(aW f).length/\(fK f (aW f)).length<=(aW f).length:=⟨List.length_filter_le _ _,List.length_filter_le _ _⟩
theorem aEf {f:aC}{v:Nat}{b:Bool}(h:b=true↔Cl (fun x=>bW (eJ f (aW f)) false x.toNat) (fun _=>false) (bW (eJ f (aW f)) false v) v):b=eG (GL f) v:=by
 have e:bW (eJ f (aW f)) false=GL f 1:=funext (aH9 f);rw[e]at h;have:b=true↔eG (GL f) v=true:=h.trans oV.symm;cases b<;>cases hc:eG (GL f) v<;>simp_all
open Classical in
theorem aLo {f:aC}{h:Nat}{been:Int->Bool}(hb:∀ x,been x=true↔decide (x=(h:Int))=true\/Cl (fun x=>aTz f x.toNat) (fun x=>decide (x=(h:Int))) (GL f 2 h) x):been=gS (GL f) h:=by
 funext x;have h1:gS (GL f) h x=true↔decide (x=(h:Int))=true\/Cl (xS (GL f) 0) (fun x=>decide (x=(h:Int))) (GL f 2 h) x:=by
  unfold gS;rw[Bool.or_eq_true];refine or_congr Iff.rfl ?_;exact decide_eq_true_iff
 have h2:been x=true↔gS (GL f) h x=true:=by
  rw[hb x,h1];exact or_congr Iff.rfl (Cl.congr (fun a b=>aG6 f a.toNat b) (fun _=>Iff.rfl))
 cases e1:been x<;>cases e2:gS (GL f) h x<;>simp_all
theorem aCb (B:Nat) (a:Option Addr) (n c:Nat) (l:List Int) (x:Int) (w:World) (h:cI B w a n l) (hB:B<=w.heap.size):Calls Tryz.prog 14 #[.slice a n c,.int .i64 x] w fun e w'=>e=.returned (.bool (l.contains x))/\w'=w:=by
 obtain⟨R,hR⟩:∃ q,l.contains x=q:=⟨_,rfl⟩
 rw[hR];have HR:=qd hR;obtain⟨hl,hm,b,o,hb,hc⟩:=h;have HC:=qd hc;have HL:=qd hl;unfold maxLen at hm;clear hR hc hl;go_enter Tryz.func14,Tryz.ntmps14;go_wp2;go_loopw [5] (fun i wr=>∃ k:Nat,k<=n/\i=.int .i64 k/\wr=w/\Hid (∀ j,j<k->l.getD j 0≠x)) (fun i _=>n-(intOf i).toNat)
 case atStart=>exact⟨0,Nat.zero_le _,rfl,rfl,qd (fun j hj=>by omega)⟩
 case round =>
  obtain⟨k,hk,rfl,rfl,HN⟩:=hrel;by_cases hkt:k<n
  ·have d1:(k:Int)<(n:Int):=oz
   have hwk:IntKind.i64.wrap ((k:Int)+1)=(k:Int)+1:=IntWalk.i64_in _ oz;obtain⟨rfl,hbB⟩:=hb oz;have c0:=(HC.out k hkt).1;have hbl:b<wr.heap.size:=oz
   have HX:Hid (l.getD k 0=x->R=true):=qd (fun e=>by
    rw[<-HR.out,List.contains_iff_mem,<-e,List.getD_eq_getElem?_getD,List.getElem?_eq_getElem (by rw[HL.out];exact hkt)];exact List.getElem_mem _)
   have HY:Hid (l.getD k 0≠x->∀ j,j<k+1->l.getD j 0≠x):=qd (fun e j hj=>by
    by_cases e2:j=k
    ·subst e2;exact e
    ·exact HN.out j oz)
   generalize l.getD k 0=y at *;by_cases hy:y=x
   ·have q:(y==x)=true:=by simpa using hy
    have hRt:=HX.out hy;subst hRt;clear hy;exact zH
   ·have q:(y==x)=false:=by simpa using hy
    have HY2:=qd (HY.out hy);clear hy;go_wp2;refine⟨⟨k+1,oz,si,by first|rfl|trivial,HY2⟩,?_⟩;go_light;exact ml
  ·obtain rfl:k=n:=oz
   have d1:¬(k:Int)<(k:Int):=oz
   have hRf:R=false:=by
    rw[<-HR.out];cases e:l.contains x with
    | false=>rfl
    | true =>
     obtain⟨j,hj⟩:=List.getElem?_of_mem (List.contains_iff_mem.1 e);have h9:=HN.out j (by have:=(List.getElem?_eq_some_iff.1 hj).1;rw[HL.out]at this;exact this);rw[List.getD_eq_getElem?_getD,hj]at h9;exact absurd rfl h9
   subst hRf;exact zH
/-- two lists of edges in memory of their own -/
def aTh (w:World) (la lb:List (Nat×Int)) (e:Ending) (w':World):Prop:=∃ va vb,e=.returned (.tuple #[va,vb])/\Below w.heap.size w w'/\w'.ownsRow 0 77 2 va la.length (rQ la)/\w'.ownsRow 0 77 2 vb lb.length (rQ lb)/\(∀ k,va.ownBlock=some k->w.heap.size<=k)/\(∀ k,vb.ownBlock=some k->w.heap.size<=k)/\∀ k,va.ownBlock=some k->¬vb.ownBlock=some k
theorem aGk (B:Nat) (hh:HF) (f:aC) (w:World) (hB:B<=w.heap.size) (hf:aZ B w hh f) (hn0:0<f.code.length) (hn:f.code.length<=1024):Calls Tryz.prog 37 #[aI hh f] w (aTh w (eJ f (aW f)) (fK f (aW f))):=by
 have HW:=qd (fun w' (h:Below w.heap.size w w')=>yN B hh f w' (Nat.le_trans hB h.size) (hf.same (aQ.of h hB)) hn0 hn);have HO:=qd (fun(g:Int) w' (h:Below w.heap.size w w')=>tD B hh f g w' (Nat.le_trans hB h.size) (hf.same (aQ.of h hB)) hn0 hn);clear hf;obtain⟨pa,pl,pc,ca,cl,cc⟩:=hh;have HEN:Hid (∀ x∈aW f,∃ v:Nat,x.2=v/\v<f.code.length/\x.1<f.code.length):=qd (kT f);have hel:=jV f;have HWO:Hid (∀ g,(lI f g).length=f.code.length):=qd (fun g=>by simp[lI]);have HWD:Hid (∀ (v u:Nat),u<f.code.length->(lI f v).getD u false = !kL f v u):=qd (fun v u hu=>by
  classical
  unfold lI;rw[List.getD_eq_getElem?_getD,List.getElem?_map,List.getElem?_range hu];show decide (WR f v u) = !kL f v u;cases hd:kL f v u
  ·have:¬¬WR f v u:=fun h=>by rw[aQx.2 h]at hd;cases hd
   simpa using this
  ·have:=aQx.1 hd;simpa using this)
 generalize aW f=es at *;generalize lI f=WO at *;unfold aI at *;dsimp only at *;go_enter Tryz.func37,Tryz.ntmps37;go_upto_region 4 with(first|(go_at_call 27;refine(HW.out _ bel).mono ?_;rintro e w1 ⟨ve,rfl,hb1,hr1,hv1⟩)|fail)
 obtain⟨W0,hW0⟩:∃ W0:World,W0=((w.alloc (.cells #[.string f.name,.slice pa pl pc,.int .i64 f.regs,.int .i64 f.words,.slice ca cl cc] 42)).alloc (.cells #[] 77)).alloc (.cells #[] 77):=⟨_,rfl⟩
 rw[<-hW0]at hb1 hv1;have hb0:Below w.heap.size w W0:=by rw[hW0];exact bel
 have OB0:aF W0 w.heap.size [.string f.name,.slice pa pl pc,.int .i64 f.regs,.int .i64 f.words,.slice ca cl cc]:=by rw[hW0];exact((aF.new _ _ _).alloc _).alloc _
 have ra0:W0.ownsRow 0 77 2 (.slice (some ⟨w.heap.size+1,0,none⟩) 0 0) 0 []:=by rw[hW0];refine aA eN (eE (w.alloc _) _ 2 ?_);simp
 have rb0:W0.ownsRow 0 77 2 (.slice (some ⟨w.heap.size+1+1,0,none⟩) 0 0) 0 []:=by rw[hW0];refine eE ((w.alloc _).alloc _) _ 2 ?_;simp
 have hz0:w.heap.size+3=W0.heap.size:=by rw[hW0];simp
 have hz0':w.heap.size+3<=W0.heap.size:=oz
 have HB1:=qd (OB0.below hb1);have HA1:=qd (aA hb1 ra0);have HX1:=qd (aA hb1 rb0);have HE1:=qd hr1;have HBE1:=qd (hb0.trans (hb1.mono hb0.size));have hz1:=hb1.size;obtain⟨ea,ec,rfl⟩:∃ ea ec,ve=.slice ea es.length ec:=by
  rcases bU hr1 with⟨rfl,h0,_⟩|⟨b,c,rfl,_⟩
  ·exact⟨none,0,by rw[h0]⟩
  ·exact⟨_,c,rfl⟩
 have HVE:Hid (∀ k,(Value.slice ea es.length ec).ownBlock=some k->w.heap.size+1+1<k):=qd (fun k hk=>by have:=hv1 k hk;omega);have hS0:eJ f (es.take 0)=[]/\fK f (es.take 0)=[]:=⟨rfl,rfl⟩
 have hwl:w.heap.size+1+1<w1.heap.size:=oz
 clear hW0 hb0 OB0 ra0 rb0 hz0 hr1 hv1 hb1 HW;go_wp2;go_loopw [4,5,7] (fun v4 v5 v7 wx=>∃ k:Nat,v7=.int .i64 k/\k<=es.length/\Hid (wx.ownsRow 0 77 2 v4 (eJ f (es.take k)).length (rQ (eJ f (es.take k))))/\Hid (wx.ownsRow 0 77 2 v5 (fK f (es.take k)).length (rQ (fK f (es.take k))))/\Hid (wx.ownsRow 0 77 2 (.slice ea es.length ec) es.length (rQ es))/\Hid (aF wx w.heap.size [.string f.name,.slice pa pl pc,.int .i64 f.regs,.int .i64 f.words,.slice ca cl cc])/\Hid (Below w.heap.size w wx)/\Hid ((∀ j,v4.ownBlock=some j->w.heap.size<j/\¬v5.ownBlock=some j/\¬(Value.slice ea es.length ec).ownBlock=some j)/\∀ j,v5.ownBlock=some j->w.heap.size<j/\¬(Value.slice ea es.length ec).ownBlock=some j)) (fun _ _ k _=>es.length-(intOf k).toNat)
 case atStart=>exact⟨0,rfl,Nat.zero_le _,by rw[hS0.1];exact HA1,by rw[hS0.2];exact HX1,HE1,HB1,HBE1,qd ⟨fun j hj=>by
  have e:w.heap.size+1=j:=eL hj
  refine⟨oz,fun h=>?_,fun h=>by have:=HVE.out j h;omega⟩;have e2:w.heap.size+1+1=j:=eL h
  omega,fun j hj=>by
  have e:w.heap.size+1+1=j:=eL hj
  exact⟨oz,fun h=>by have:=HVE.out j h;omega⟩⟩⟩
 case round =>
  clear HA1 HX1 HE1 HB1 HBE1 HVE hS0 hwl hz1 hz0';obtain⟨k,rfl,hk,HA,HX,HE,HB,HBE,HV⟩:=hrel;have hbw:=HBE.out.size;by_cases hkt:k<es.length
  ·have d1:(k:Int)<(es.length:Int):=oz
   have hwk:IntKind.i64.wrap ((k:Int)+1)=(k:Int)+1:=IntWalk.i64_in _ oz;obtain⟨eb,ec',hev,-,-,hebl⟩:=bB HE.out oz;cases hev;have hgk:es[k]? = some (es[k]'hkt):=List.getElem?_eq_getElem hkt;obtain⟨v,hv1,hv2,hv3⟩:=HEN.out _ (List.getElem_mem hkt);have hTA:es.take (k+1)=es.take k++[es[k]'hkt]:=by rw[List.take_add_one,hgk];rfl
   have hAt:=aHe hgk;have hdm:kL f (es[k]'hkt).2.toNat (es[k]'hkt).1=kL f v (es[k]'hkt).1:=by rw[hv1,Int.toNat_natCast]
   generalize es[k]'hkt=x at *;obtain⟨u,y⟩:=x;dsimp only at *;subst hv1;have e0:=aH HE.out hAt.1;have e1:=aH HE.out hAt.2;have b5:=aX HB.out;have HTA:=qd hTA;have HDM:=qd (show eJ f (es.take (k+1))=eJ f (es.take k)++(if kL f v u then[]else[(u,(v:Int))])/\fK f (es.take (k+1))=fK f (es.take k)++(if kL f v u then[(u,(v:Int))]else[])from by
    unfold eJ fK;rw[hTA,List.filter_append,List.filter_append];cases hd:kL f v u<;>simp[hd])
   have hlA:(eJ f (es.take k)).length<=es.length:=by
    unfold eJ;exact Nat.le_trans (List.length_filter_le _ _) (by rw[List.length_take];omega)
   have hlB:(fK f (es.take k)).length<=es.length:=by
    unfold fK;exact Nat.le_trans (List.length_filter_le _ _) (by rw[List.length_take];omega)
   have HOv:=qd (HO.out (v:Int) wr.drew HBE.out.drew);have hw1:=HWO.out (v:Int);have hw2:=HWD.out v u hv3;clear hgk hTA hAt hdm;generalize eJ f (es.take k)=LA at *;generalize fK f (es.take k)=LB at *;generalize WO (v:Int)=WOv at *;go_upto_region 7 with(fail)
   refine bC 6 kr kr ?_;simp only[TD];repeat(refine bS (fun K hK=>?_);go_simp;refine hK _ ?_;clear hK K)
   refine cF ?_;go_wp2_with fail;refine HOv.out.mono ?_;rintro e w5 ⟨nv,rfl,hb5,hr5,hf5⟩;have hb5':Below wr.heap.size wr w5:=(Below.refl _ wr).drew.trans (hb5.mono si);rw[hw1]at hr5;obtain⟨nb,nc,rfl,-,-,hnl⟩:=bB hr5 hn0;have n0:=aH hr5 (j:=u) (u:=.bool (WOv.getD u false)) aQm;rw[hw2]at n0;have hw3:=n0;have HA5:=qd (aA hb5' HA.out);have HX5:=qd (aA hb5' HX.out);have HE5:=qd (aA hb5' HE.out);have HB5:=qd (HB.out.below hb5');have HBE5:=qd (HBE.out.trans (hb5'.mono hbw));have e0':=(hb5'.cell (p:=⟨eb,k*2,none⟩) hebl).trans e0;have e1':=(hb5'.cell (p:=⟨eb,k*2+1,none⟩) hebl).trans e1;have hebl5:eb<w5.heap.size:=by have:=hb5'.size;omega
   have hal:=fun j (hj:u4.ownBlock=some j)=>cA HA5.out hj;have hxl:=fun j (hj:u5.ownBlock=some j)=>cA HX5.out hj;have HAL:=qd hal;have HXL:=qd hxl;have hul:(u:Int)<(f.code.length:Int):=oz
   have hb5w:=HBE5.out.size;clear hr5 hb5 n0 hb5' HA HX HE HB HBE e0 e1 hf5 HOv hw1 hw2 hal hxl b5;cases hd:kL f v u
   ·have HDM2:=HDM.out;rw[hd]at HDM2 hw3;simp only[Bool.false_eq_true,if_false,List.append_nil]at HDM2;have HD2:=qd HDM2;clear HDM2;obtain⟨oa,oc,hov⟩:∃ oa oc,u4=.slice oa LA.length oc:=by
     rcases bU HA5.out with⟨h,h0,_⟩|⟨b,c,h,_⟩
     ·exact⟨none,0,by rw[h,h0]⟩
     ·exact⟨_,c,h⟩
    subst hov;go_wp2_with (first|(at_builtin;refine bO rfl (.tmp 42) (.tmp 47) 73 77 2 16 (.agg #[.int .i64 0,.int .i64 0]) rfl Tryz.underlying73 Tryz.infoEg rfl dc (.slice oa LA.length oc) _ _ rfl (aA eN HA5.out) ⟨w5.heap.size,0,none⟩ 1 1 (rQ [(u,(v:Int))]) rfl rfl (cC (aF.new' _ _ _ _ rfl)) (tE _) bH oz dc ?_;intro g6 c6 w6 hr6 hc6 hg6)|fail)
    have hcA:aG (fun j=>(Value.slice oa LA.length oc).ownBlock=some j) w5 w6:=(aG.of eN).trans hc6;refine⟨⟨k+1,si,oz,qd (by rw[HD2.out.1,aD2,List.length_append];exact hr6),qd (by rw[HD2.out.2];exact aN hcA HX5.out (fun j hj e=>(HV.out.1 j e).2.1 hj)),qd (aN hcA HE5.out (fun j hj e=>(HV.out.1 j e).2.2 hj)),qd (hcA.own HB5.out (fun e=>by have:=(HV.out.1 _ e).1;omega)),qd (HBE5.out.trans (hcA.below _ hb5w (fun j hj e=>by have:=(HV.out.1 j e).1;omega))),qd ⟨fun j hj=>?_,HV.out.2⟩⟩,?_⟩
    ·have e:g6=j:=eL hj
     subst e;rcases hg6 with h|h
     ·exact HV.out.1 _ h
     ·simp at h;refine⟨oz,fun e=>by have:=HXL.out _ e;omega,fun e=>?_⟩;have e2:eb=g6:=eL e
      omega
    ·go_light;exact ml
   ·have HDM2:=HDM.out;rw[hd]at HDM2 hw3;simp only[if_true,List.append_nil]at HDM2;have HD2:=qd HDM2;clear HDM2;obtain⟨oa,oc,hov⟩:∃ oa oc,u5=.slice oa LB.length oc:=by
     rcases bU HX5.out with⟨h,h0,_⟩|⟨b,c,h,_⟩
     ·exact⟨none,0,by rw[h,h0]⟩
     ·exact⟨_,c,h⟩
    subst hov;go_wp2_with (first|(at_builtin;refine bO rfl (.tmp 35) (.tmp 40) 73 77 2 16 (.agg #[.int .i64 0,.int .i64 0]) rfl Tryz.underlying73 Tryz.infoEg rfl dc (.slice oa LB.length oc) _ _ rfl (aA eN HX5.out) ⟨w5.heap.size,0,none⟩ 1 1 (rQ [(u,(v:Int))]) rfl rfl (cC (aF.new' _ _ _ _ rfl)) (tE _) bH oz dc ?_;intro g6 c6 w6 hr6 hc6 hg6)|fail)
    have hcA:aG (fun j=>(Value.slice oa LB.length oc).ownBlock=some j) w5 w6:=(aG.of eN).trans hc6;refine⟨⟨k+1,si,oz,qd (by rw[HD2.out.1];exact aN hcA HA5.out (fun j hj e=>(HV.out.1 j hj).2.1 e)),qd (by rw[HD2.out.2,aD2,List.length_append];exact hr6),qd (aN hcA HE5.out (fun j hj e=>(HV.out.2 j e).2 hj)),qd (hcA.own HB5.out (fun e=>by have:=(HV.out.2 _ e).1;omega)),qd (HBE5.out.trans (hcA.below _ hb5w (fun j hj e=>by have:=(HV.out.2 j e).1;omega))),qd ⟨fun j hj=>?_,fun j hj=>?_⟩⟩,?_⟩
    ·refine⟨(HV.out.1 j hj).1,fun e=>?_,(HV.out.1 j hj).2.2⟩;have e1:g6=j:=eL e
     subst e1;rcases hg6 with h|h
     ·exact(HV.out.1 _ hj).2.1 h
     ·simp at h;have:=HAL.out _ hj;omega
    ·have e:g6=j:=eL hj
     subst e;rcases hg6 with h|h
     ·exact HV.out.2 _ h
     ·simp at h;refine⟨oz,fun e=>?_⟩;have e2:eb=g6:=eL e
      omega
    ·go_light;exact ml
  ·obtain rfl:k=es.length:=oz
   have d1:¬(es.length:Int)<(es.length:Int):=oz
   rw[List.take_length]at HA HX;go_wp2
   try rw[Exit.noGoto_ret]
   go_ret2;exact⟨_,_,rfl,HBE.out,HA.out,HX.out,fun j hj=>by have:=(HV.out.1 j hj).1;omega,fun j hj=>by have:=(HV.out.2 j hj).1;omega,fun j hj=>(HV.out.1 j hj).2.1⟩
theorem sJ (l:List (Nat×Int)) (t:Bool) (v:Nat):(bW l t v).length<=l.length:=by
 unfold bW;split<;>(rw[List.length_map];exact List.length_filter_le _ _)
theorem aAw (l:List (Nat×Int)) (u v:Nat) (t:Bool) (x:Nat) (y:Int) (hx:(if t then v else u)=x) (hy:(if t then(u:Int)else(v:Int))=y):bW (l++[(u,(v:Int))]) t=fun k=>if k=x then bW l t x++[y]else bW l t k:=by
 subst hx;subst hy;funext k;rw[aE8];by_cases e:k=(if t then v else u)
 ·rw[if_pos e,if_pos e,e]
 ·rw[if_neg e,if_neg e]
/-- what is empty is nil -/
def uI (G:Nat->List Int) (S:List Value):Prop:=∀ v s,S[v]? = some s->(G v).length=0->s=.slice none 0 0
theorem uI.push {G:Nat->List Int}{S:List Value}{v:Nat}{x:Int}{s':Value}(h:uI G S):uI (fun k=>if k=v then G v++[x]else G k) (S.set v s'):=by
 intro u s hs he;dsimp only at he;by_cases e:u=v
 ·rw[if_pos e]at he;simp at he
 ·rw[if_neg e]at he;rw[List.getElem?_set_ne (by omega)]at hs;exact h u s hs he
theorem eH {p:Prop}(h:p:=by
 intro w' hSw;obtain⟨s0,s1⟩:=hSw;go_simp;(try with_reducible rfl)):p:=h
theorem sC (n:Nat) (l:List (Nat×Int)) (t:Bool) (ea:Option Addr) (ec:Nat) (w:World) (hr:w.ownsRow 0 77 2 (.slice ea l.length ec) l.length (rQ l)) (hl:∀ x∈l,∃ v:Nat,x.2=v/\v<n/\x.1<n) (hlen:l.length<=4096) (hn0:0<n) (hn:n<=1024) :
 Calls Tryz.prog 38 #[.int .i64 n,.slice ea l.length ec,.bool t] w fun e w'=>∃ fb S,e=.returned (.slice (some ⟨fb,0,none⟩) n n)/\Below w.heap.size w w'/\w.heap.size<=fb/\cK w' (fb+1) fb n (bW l t) S/\uI (bW l t) S:=by
 have hm2:=run_make_row' (P:=Tryz.prog) 59 50 (.slice none 0 0) 24 Tryz.underlying59 Tryz.infoS rfl .i64 .i64 n oz oz;rw[aF3]at hm2;have HL:=qd hl;have HRW:=qd hr;have HEL:Hid (∀ k,ea=some k->k.block<w.heap.size):=qd (fun k hk=>by
  subst hk;rcases bU hr with⟨h,_⟩|⟨b,c,h,_⟩
  ·cases h
  ·cases h;exact cA hr rfl)
 have OS0:(w.alloc (.cells (List.replicate n (Value.slice none 0 0)).toArray 50)).ownsRow 0 50 1 (.slice (some ⟨w.heap.size,0,none⟩) n n) n (List.replicate n (Value.slice none 0 0)):=by
  have:=World.ownsRow_lit w (base:=0) (e:=50) (size:=1) (List.replicate n (Value.slice none 0 0)).toArray n (Nat.zero_le _) bH si;simpa using this
 have hL0:∀ v,bW [] t v=[]:=fun v=>aGr t v;clear hl hr;go_enter Tryz.func38,Tryz.ntmps38;go_wp2;generalize hW0:World.alloc _ _=W0;have hb0:Below w.heap.size w W0:=by rw[<-hW0];exact bel
 have HB0:=qd hb0;have HE0:=qd (aA hb0 HRW.out);have HG0:Hid (cK W0 (w.heap.size+1) w.heap.size n (bW (l.take 0) t) (List.replicate n (.slice none 0 0))):=qd (by
  refine⟨by rw[<-hW0];exact OS0,si,fun v s hs=>?_,fun v s k hs hk=>?_,oz,fun u v s t k hs ht hk _=>?_⟩
  ·rw[List.getElem?_replicate]at hs;split at hs
   ·cases hs;rw[List.take_zero,hL0];exact World.ownsRow_nil _ _ _ _
   ·cases hs
  ·exact aPo
  ·rw[List.getElem?_replicate]at hs;split at hs
   ·cases hs;cases hk
   ·cases hs)
 have HN0:Hid (uI (bW (l.take 0) t) (List.replicate n (.slice none 0 0))):=qd (fun v s hs _=>by
  rw[List.getElem?_replicate]at hs;split at hs
  ·cases hs;rfl
  ·cases hs)
 clear OS0 hW0 hm2 hb0 HRW hL0;generalize hfb:w.heap.size=fb at HG0 HB0 HEL ⊢;have hfb':=Nat.le_of_eq hfb;go_loopw [8] (fun v8 wx=>∃ k:Nat,∃ S,v8=.int .i64 k/\k<=l.length/\Hid (cK wx (fb+1) fb n (bW (l.take k) t) S)/\Hid (wx.ownsRow 0 77 2 (.slice ea l.length ec) l.length (rQ l))/\Hid (Below fb w wx)/\Hid (uI (bW (l.take k) t) S)) (fun v8 _=>l.length-(intOf v8).toNat)
 case atStart=>exact⟨0,_,rfl,Nat.zero_le _,HG0,HE0,HB0,HN0⟩
 case round =>
  clear HG0 HE0 HB0 HN0;obtain⟨k,S,rfl,hk,HT,HE,HBE,HN⟩:=hrel;have hbw:=HBE.out.size;rw[hfb]at hbw;by_cases hkt:k<l.length
  ·have d1:(k:Int)<(l.length:Int):=oz
   have hwk:IntKind.i64.wrap ((k:Int)+1)=(k:Int)+1:=IntWalk.i64_in _ oz;obtain⟨eb,ec',hev,-,-,hebl⟩:=bB HE.out oz;cases hev;have hebf:eb<fb:=HEL.out _ rfl;have hgk:l[k]? = some (l[k]'hkt):=List.getElem?_eq_getElem hkt;obtain⟨v,hv1,hv2,hv3⟩:=HL.out _ (List.getElem_mem hkt);have hTA:l.take (k+1)=l.take k++[l[k]'hkt]:=by rw[List.take_add_one,hgk];rfl
   have hAt:=aHe hgk;generalize l[k]'hkt=x at *;obtain⟨u,y⟩:=x;dsimp only at *;subst hv1;have e0:=aH HE.out hAt.1;have e1:=aH HE.out hAt.2;have HLL:Hid (∀ v,(bW (l.take k) t v).length<=4096):=qd (fun v=>Nat.le_trans (sJ _ _ _) (by rw[List.length_take];omega));have i1:(0:Int)<=(v:Int):=oz
   have i2:(v:Int)<(n:Int):=oz
   have i3:(0:Int)<=(u:Int):=oz
   have i4:(u:Int)<(n:Int):=oz
   have i5:(0:Int)<=(k:Int):=oz
   cases t with
   | true =>
    have HTA:Hid (bW (l.take (k+1)) true=fun q=>if q=v then bW (l.take k) true v++[(u:Int)]else bW (l.take k) true q):=qd (by rw[hTA];exact aAw _ _ _ _ _ _ rfl rfl);clear hTA hAt hgk;generalize bW (l.take k) true=G at *;obtain⟨s,hs⟩:=HT.out.at (v:=v) oz;obtain⟨sa,sc,rfl⟩:=HT.out.form hs;have hsc:=HT.out.cell hs;have hfl:=bJ HT.out.row;have hlen:=HLL.out v;have hfr:=HT.out.row.frozenAt v;go_upto_region 6 with(fail)
    refine aE (fun w'=>w'.cell? ⟨eb,k*2,none⟩=some (.int .i64 (u:Int))/\w'.cell? ⟨eb,k*2+1,none⟩=some (.int .i64 (v:Int))) kr ⟨e0,e1⟩ ?_;intro K0 hK0 hHeld;have hsc1:(wr.drew.alloc (.cells #[.int .i64 (u:Int)] 3)).cell? ⟨fb,v,none⟩=some (.slice sa (G v).length sc):=(World.cell?_of_block (Below.heap_alloc _ _ _ hfl)).trans hsc;have hSA:(wr.drew.alloc (.cells #[.int .i64 (u:Int)] 3)).cell? ⟨eb,k*2,none⟩=some (.int .i64 (u:Int))/\(wr.drew.alloc (.cells #[.int .i64 (u:Int)] 3)).cell? ⟨eb,k*2+1,none⟩=some (.int .i64 (v:Int)):=⟨(World.cell?_of_block (Below.heap_alloc _ _ _ hebl)).trans e0,(World.cell?_of_block (Below.heap_alloc _ _ _ hebl)).trans e1⟩
    (refine fH 0 rfl ?_ eH;try simp only[Act.put,SU])
    (refine fH 1 rfl ?_ eH;try simp only[Act.put,SU])
    (refine fH 2 rfl ?_ eH;try simp only[Act.put,SU])
    (refine fH 3 rfl ?_ eH;try simp only[Act.put,SU])
    (refine fH 4 rfl ?_ eH;try simp only[Act.put,SU])
    (refine fH 5 rfl ?_ eH;try simp only[Act.put,SU])
    (refine fH 6 rfl ?_ eH;try simp only[Act.put,SU])
    (refine fH 7 rfl ?_ eH;try simp only[Act.put,SU])
    (refine fH 8 rfl ?_ eH;try simp only[Act.put,SU])
    (refine fH 9 rfl ?_ eH;try simp only[Act.put,SU])
    (refine fH 10 rfl ?_ eH;try simp only[Act.put,SU])
    (refine fH 11 rfl ?_ eH;try simp only[Act.put,SU])
    (refine fH 12 rfl ?_ eH;try simp only[Act.put,SU])
    (refine fH 14 rfl ?_ eH;try simp only[Act.put,SU])
    (refine fH 15 rfl ?_ eH;try simp only[Act.put,SU])
    (refine fH 16 rfl ?_ eH;try simp only[Act.put,SU])
    (refine fH 17 rfl ?_ eH;try simp only[Act.put,SU])
    (refine fH 18 rfl ?_ eH;try simp only[Act.put,SU])
    refine wpAnyH_ready (rs:=[13,19]) kr si ?_;refine iB rfl (fun K hK=>?_) (iB rfl (fun K hK=>?_) AllReadyH.nil)
    all_goals go_simp
    refine hK.out _ _ ?_ (fun hHeld=>?_);(focus((try dsimp only);any_goals (assumption)));clear hK K;try simp only[Act.put,SU]
    (refine wpAnyH_ready (rs:=[19]) kr si ?_;refine iB rfl (fun K hK=>?_) AllReadyH.nil)
    go_simp
    refine hK.out _ _ ?_ (fun hHeld=>?_);(focus((try dsimp only);any_goals (assumption)));clear hK K;try simp only[Act.put,SU]
    rotate_left;refine hK.out _ _ ?_ (fun hHeld=>?_);(focus((try dsimp only);any_goals (assumption)));clear hK K;try simp only[Act.put,SU]
    (refine wpAnyH_ready (rs:=[13]) kr si ?_;refine iB rfl (fun K hK=>?_) AllReadyH.nil)
    go_simp
    refine hK.out _ _ ?_ (fun hHeld=>?_);(focus((try dsimp only);any_goals (assumption)));clear hK K;try simp only[Act.put,SU]
    all_goals
     (refine wpAnyH_ready (rs:=[20]) kr si ?_;refine iB rfl (fun K hK=>?_) AllReadyH.nil)
     have hbA:Below wr.heap.size wr (wr.drew.alloc (.cells #[.int .i64 (u:Int)] 3)):=(Below.refl _ wr).drew.alloc lr _;refine iN rfl (.tmp 31) (.tmp 37) 50 3 1 8 (.int .i64 0) rfl Tryz.underlying50 Tryz.infoI rfl dc (.slice sa (G v).length sc) _ _ rfl (aA hbA (HT.out.each v _ hs)) ⟨wr.heap.size,0,none⟩ 1 1 (aR [(u:Int)]) rfl rfl (cC (aF.new' _ _ _ _ rfl)) (bZ _) bH oz dc ?_;intro g6 c6 w6 hr6 hc6 hg6;have hc7:aG (fun k=>(Value.slice sa (G v).length sc).ownBlock=some k) wr w6:=(aG.of hbA).trans hc6;have hg7:∀ k,(Value.slice (some ⟨g6,0,none⟩) ((G v).length+1) c6).ownBlock=some k->(Value.slice sa (G v).length sc).ownBlock=some k\/wr.heap.size<=k:=fun k hk=>by
      exact aIj
     obtain⟨hT2,-⟩:=HT.out.push hs hc7 hr6 hg7 oz;have hnb:∀ k,k<fb+1->¬(Value.slice sa (G v).length sc).ownBlock=some k:=fun k hk e=>by have:=HT.out.low v _ k hs e;omega
     have hne:¬(Value.slice sa (G v).length sc).ownBlock=some eb:=hnb eb oz;have hS6:w6.cell? ⟨eb,k*2,none⟩=some (.int .i64 (u:Int))/\w6.cell? ⟨eb,k*2+1,none⟩=some (.int .i64 (v:Int)):=⟨(hc7.cellAt _ hebl hne).trans e0,(hc7.cellAt _ hebl hne).trans e1⟩
     have hR6:=aN hc7 HT.out.row (fun k hk=>hnb k (by have e:fb=k:=eL hk;omega));have hF6:=hR6.frozenAt v;have hE6:=aH hR6 hs;have hst:aG (· = fb) w6 (w6.setCell ⟨fb,v,none⟩ (.slice (some ⟨g6,0,none⟩) ((G v).length+1) c6)):=aG.setCell (S:=(· = fb)) (aG.refl _ _) (p:=⟨fb,v,none⟩) (Or.inl rfl) _;have hc8:=hc7.size;have hS7:(w6.setCell ⟨fb,v,none⟩ (.slice (some ⟨g6,0,none⟩) ((G v).length+1) c6)).cell? ⟨eb,k*2,none⟩=some (.int .i64 (u:Int))/\(w6.setCell ⟨fb,v,none⟩ (.slice (some ⟨g6,0,none⟩) ((G v).length+1) c6)).cell? ⟨eb,k*2+1,none⟩=some (.int .i64 (v:Int)):=⟨(hst.cellAt _ oz oz).trans hS6.1,(hst.cellAt _ oz oz).trans hS6.2⟩
     have HT2:=qd hT2;have HE2:=qd (aN hst (aN hc7 HE.out (fun j hj=>hnb j (by have e:eb=j:=eL hj;omega))) (fun j hj e2=>by have e:eb=j:=eL hj;omega));have HB2:=qd ((HBE.out.trans (hc7.below _ hbw (fun j hj e=>by have:=HT.out.low v _ j hs e;omega))).trans (hst.below _ oz (fun j hj e=>by omega)));clear hT2 hnb hne hc7 hr6 hc6 hg7 hst hR6 hg6;refine hK.out _ _ ?_ (fun hHeld=>?_);(focus((try dsimp only);any_goals (assumption)));clear hK K;try simp only[Act.put,SU]
     (refine wpAnyH_ready (rs:=[21]) kr si ?_;refine iB rfl (fun K hK=>?_) AllReadyH.nil)
     go_simp
     refine hK.out _ _ ?_ (fun hHeld=>?_);(focus((try dsimp only);any_goals (assumption)));clear hK K;try simp only[Act.put,SU]
     (refine wpAnyH_ready (rs:=[22]) kr si ?_;refine iB rfl (fun K hK=>?_) AllReadyH.nil)
     go_simp
     refine hK.out _ _ ?_ (fun hHeld=>?_);(focus((try dsimp only);any_goals (assumption)));clear hK K;try simp only[Act.put,SU]
     refine aO kr ?_;refine hK0.out _ _ ?_;go_wp2;refine⟨⟨k+1,_,si,oz,qd (by rw[HTA.out];exact HT2.out),HE2,HB2,qd (by rw[HTA.out];exact HN.out.push)⟩,?_⟩;go_light;exact ml
   | false =>
    have HTA:Hid (bW (l.take (k+1)) false=fun q=>if q=u then bW (l.take k) false u++[(v:Int)]else bW (l.take k) false q):=qd (by rw[hTA];exact aAw _ _ _ _ _ _ rfl rfl);clear hTA hAt hgk;generalize bW (l.take k) false=G at *;obtain⟨s,hs⟩:=HT.out.at (v:=u) oz;obtain⟨sa,sc,rfl⟩:=HT.out.form hs;have hsc:=HT.out.cell hs;have hfl:=bJ HT.out.row;have hlen:=HLL.out u;have hfr:=HT.out.row.frozenAt u;go_upto_region 7 with(fail)
    refine aE (fun w'=>w'.cell? ⟨eb,k*2,none⟩=some (.int .i64 (u:Int))/\w'.cell? ⟨eb,k*2+1,none⟩=some (.int .i64 (v:Int))) kr ⟨e0,e1⟩ ?_;intro K0 hK0 hHeld;have hsc1:(wr.drew.alloc (.cells #[.int .i64 (v:Int)] 3)).cell? ⟨fb,u,none⟩=some (.slice sa (G u).length sc):=(World.cell?_of_block (Below.heap_alloc _ _ _ hfl)).trans hsc;have hSA:(wr.drew.alloc (.cells #[.int .i64 (v:Int)] 3)).cell? ⟨eb,k*2,none⟩=some (.int .i64 (u:Int))/\(wr.drew.alloc (.cells #[.int .i64 (v:Int)] 3)).cell? ⟨eb,k*2+1,none⟩=some (.int .i64 (v:Int)):=⟨(World.cell?_of_block (Below.heap_alloc _ _ _ hebl)).trans e0,(World.cell?_of_block (Below.heap_alloc _ _ _ hebl)).trans e1⟩
    (refine fH 0 rfl ?_ eH;try simp only[Act.put,SU])
    (refine fH 1 rfl ?_ eH;try simp only[Act.put,SU])
    (refine fH 2 rfl ?_ eH;try simp only[Act.put,SU])
    (refine fH 3 rfl ?_ eH;try simp only[Act.put,SU])
    (refine fH 4 rfl ?_ eH;try simp only[Act.put,SU])
    (refine fH 5 rfl ?_ eH;try simp only[Act.put,SU])
    (refine fH 6 rfl ?_ eH;try simp only[Act.put,SU])
    (refine fH 7 rfl ?_ eH;try simp only[Act.put,SU])
    (refine fH 8 rfl ?_ eH;try simp only[Act.put,SU])
    (refine fH 9 rfl ?_ eH;try simp only[Act.put,SU])
    (refine fH 10 rfl ?_ eH;try simp only[Act.put,SU])
    (refine fH 11 rfl ?_ eH;try simp only[Act.put,SU])
    (refine fH 12 rfl ?_ eH;try simp only[Act.put,SU])
    (refine fH 14 rfl ?_ eH;try simp only[Act.put,SU])
    (refine fH 15 rfl ?_ eH;try simp only[Act.put,SU])
    (refine fH 16 rfl ?_ eH;try simp only[Act.put,SU])
    (refine fH 17 rfl ?_ eH;try simp only[Act.put,SU])
    (refine fH 18 rfl ?_ eH;try simp only[Act.put,SU])
    refine wpAnyH_ready (rs:=[13,19]) kr si ?_;refine iB rfl (fun K hK=>?_) (iB rfl (fun K hK=>?_) AllReadyH.nil)
    all_goals go_simp
    refine hK.out _ _ ?_ (fun hHeld=>?_);(focus((try dsimp only);any_goals (assumption)));clear hK K;try simp only[Act.put,SU]
    (refine wpAnyH_ready (rs:=[19]) kr si ?_;refine iB rfl (fun K hK=>?_) AllReadyH.nil)
    go_simp
    refine hK.out _ _ ?_ (fun hHeld=>?_);(focus((try dsimp only);any_goals (assumption)));clear hK K;try simp only[Act.put,SU]
    rotate_left;refine hK.out _ _ ?_ (fun hHeld=>?_);(focus((try dsimp only);any_goals (assumption)));clear hK K;try simp only[Act.put,SU]
    (refine wpAnyH_ready (rs:=[13]) kr si ?_;refine iB rfl (fun K hK=>?_) AllReadyH.nil)
    go_simp
    refine hK.out _ _ ?_ (fun hHeld=>?_);(focus((try dsimp only);any_goals (assumption)));clear hK K;try simp only[Act.put,SU]
    all_goals
     (refine wpAnyH_ready (rs:=[20]) kr si ?_;refine iB rfl (fun K hK=>?_) AllReadyH.nil)
     have hbA:Below wr.heap.size wr (wr.drew.alloc (.cells #[.int .i64 (v:Int)] 3)):=(Below.refl _ wr).drew.alloc lr _;refine iN rfl (.tmp 53) (.tmp 59) 50 3 1 8 (.int .i64 0) rfl Tryz.underlying50 Tryz.infoI rfl dc (.slice sa (G u).length sc) _ _ rfl (aA hbA (HT.out.each u _ hs)) ⟨wr.heap.size,0,none⟩ 1 1 (aR [(v:Int)]) rfl rfl (cC (aF.new' _ _ _ _ rfl)) (bZ _) bH oz dc ?_;intro g6 c6 w6 hr6 hc6 hg6;have hc7:aG (fun k=>(Value.slice sa (G u).length sc).ownBlock=some k) wr w6:=(aG.of hbA).trans hc6;have hg7:∀ k,(Value.slice (some ⟨g6,0,none⟩) ((G u).length+1) c6).ownBlock=some k->(Value.slice sa (G u).length sc).ownBlock=some k\/wr.heap.size<=k:=fun k hk=>by
      exact aIj
     obtain⟨hT2,-⟩:=HT.out.push hs hc7 hr6 hg7 oz;have hnb:∀ k,k<fb+1->¬(Value.slice sa (G u).length sc).ownBlock=some k:=fun k hk e=>by have:=HT.out.low u _ k hs e;omega
     have hne:¬(Value.slice sa (G u).length sc).ownBlock=some eb:=hnb eb oz;have hS6:w6.cell? ⟨eb,k*2,none⟩=some (.int .i64 (u:Int))/\w6.cell? ⟨eb,k*2+1,none⟩=some (.int .i64 (v:Int)):=⟨(hc7.cellAt _ hebl hne).trans e0,(hc7.cellAt _ hebl hne).trans e1⟩
     have hR6:=aN hc7 HT.out.row (fun k hk=>hnb k (by have e:fb=k:=eL hk;omega));have hF6:=hR6.frozenAt u;have hE6:=aH hR6 hs;have hst:aG (· = fb) w6 (w6.setCell ⟨fb,u,none⟩ (.slice (some ⟨g6,0,none⟩) ((G u).length+1) c6)):=aG.setCell (S:=(· = fb)) (aG.refl _ _) (p:=⟨fb,u,none⟩) (Or.inl rfl) _;have hc8:=hc7.size;have hS7:(w6.setCell ⟨fb,u,none⟩ (.slice (some ⟨g6,0,none⟩) ((G u).length+1) c6)).cell? ⟨eb,k*2,none⟩=some (.int .i64 (u:Int))/\(w6.setCell ⟨fb,u,none⟩ (.slice (some ⟨g6,0,none⟩) ((G u).length+1) c6)).cell? ⟨eb,k*2+1,none⟩=some (.int .i64 (v:Int)):=⟨(hst.cellAt _ oz oz).trans hS6.1,(hst.cellAt _ oz oz).trans hS6.2⟩
     have HT2:=qd hT2;have HE2:=qd (aN hst (aN hc7 HE.out (fun j hj=>hnb j (by have e:eb=j:=eL hj;omega))) (fun j hj e2=>by have e:eb=j:=eL hj;omega));have HB2:=qd ((HBE.out.trans (hc7.below _ hbw (fun j hj e=>by have:=HT.out.low u _ j hs e;omega))).trans (hst.below _ oz (fun j hj e=>by omega)));clear hT2 hnb hne hc7 hr6 hc6 hg7 hst hR6 hg6;refine hK.out _ _ ?_ (fun hHeld=>?_);(focus((try dsimp only);any_goals (assumption)));clear hK K;try simp only[Act.put,SU]
     (refine wpAnyH_ready (rs:=[21]) kr si ?_;refine iB rfl (fun K hK=>?_) AllReadyH.nil)
     go_simp
     refine hK.out _ _ ?_ (fun hHeld=>?_);(focus((try dsimp only);any_goals (assumption)));clear hK K;try simp only[Act.put,SU]
     (refine wpAnyH_ready (rs:=[22]) kr si ?_;refine iB rfl (fun K hK=>?_) AllReadyH.nil)
     go_simp
     refine hK.out _ _ ?_ (fun hHeld=>?_);(focus((try dsimp only);any_goals (assumption)));clear hK K;try simp only[Act.put,SU]
     refine aO kr ?_;refine hK0.out _ _ ?_;go_wp2;refine⟨⟨k+1,_,si,oz,qd (by rw[HTA.out];exact HT2.out),HE2,HB2,qd (by rw[HTA.out];exact HN.out.push)⟩,?_⟩;go_light;exact ml
  ·obtain rfl:k=l.length:=oz
   have d1:¬(l.length:Int)<(l.length:Int):=oz
   rw[List.take_length]at HT HN;go_wp2
   try rw[Exit.noGoto_ret]
   go_ret;exact⟨fb,rfl,HBE.out,Nat.le_refl _,_,HT.out,HN.out⟩
section
def unM (been:Int->Bool):Nat:=((List.range 1024).filter fun k:Nat => !been k).length
structure jQ (nx:Int->List Int) (b0:Int->Bool) (t0:List Int) (n:Nat) (been:Int->Bool) (todo:List Int) (i:Nat):Prop where
 s:mE nx b0 t0 been (todo.drop i)
 sz:4096*unM been+todo.length<=4198400
 el:∀ x∈todo,∃ k:Nat,x=k/\k<n
section
variable {nx : Int -> List Int} {b0 : Int -> Bool} {t0 todo : List Int} {been : Int -> Bool} {n i : Nat} {a : Int}
theorem jQ.start (h1:t0.length<=4096) (h2:∀ x∈t0,∃ k:Nat,x=k/\k<n):jQ nx b0 t0 n b0 t0 0:=⟨by rw[List.drop_zero];exact .start,by
 have:unM b0<=1024:=by
  unfold unM;have:=List.length_filter_le (fun k:Nat => !b0 k) (List.range 1024)
  rwa [List.length_range]at this
 omega,h2⟩
theorem jQ.len (h:jQ nx b0 t0 n been todo i):todo.length<=4198400:=by have:=h.sz;omega
theorem jQ.at (h:jQ nx b0 t0 n been todo i) (hi:todo[i]? = some a):mE nx b0 t0 been (todo.drop (i+1)++[a]):=by
 obtain⟨hl,he⟩:=List.getElem?_eq_some_iff.1 hi;refine mE.popped ?_;have h2:=h.s;rw[List.drop_eq_getElem_cons hl,he]at h2;exact h2
theorem jQ.skip (h:jQ nx b0 t0 n been todo i) (hi:todo[i]? = some a) (hb:been a=true):jQ nx b0 t0 n been todo (i+1):=⟨(h.at hi).drop hb,h.sz,h.el⟩
theorem jQ.push (h:jQ nx b0 t0 n been todo i) (hn:n<=1024) (hi:todo[i]? = some a) (hb:been a=false) (h1:(nx a).length<=4096) (h2:∀ x∈nx a,∃ k:Nat,x=k/\k<n):jQ nx b0 t0 n (gJ been a) (todo++nx a) (i+1):=by
 obtain⟨hl,he⟩:=List.getElem?_eq_some_iff.1 hi;refine⟨?_,?_,?_⟩
 ·rw[List.drop_append_of_le_length (by omega)];exact(h.at hi).mark hb
 ·obtain⟨k,rfl,hk⟩:=h.el a (List.mem_of_getElem? hi);have h3:=aJm hb (List.range 1024) (List.mem_range.2 oz);have h4:=h.sz;unfold unM at *;rw[List.length_append];omega
 ·intro x hx;rcases List.mem_append.1 hx with hx|hx
  ·exact h.el x hx
  ·exact h2 x hx
theorem jQ.done (h:jQ nx b0 t0 n been todo i) (hi:todo.length<=i) (x:Int):been x=true↔b0 x=true\/Cl nx b0 t0 x:=by
 have h2:=h.s;rw[List.drop_eq_nil_of_le hi]at h2;exact h2.done x
theorem jQ.cl (h:jQ nx b0 t0 n been todo i) (hi:todo[i]? = some a):Cl nx b0 t0 a:=(h.at hi).tr a si
end
/-- marks in a row -/
def mkL (n:Nat) (been:Int->Bool):List Bool:=(List.range n).map fun k:Nat=>been k
theorem yB (n:Nat) (been:Int->Bool):(mkL n been).length=n:=by simp[mkL]
theorem pJ {n k:Nat}(been:Int->Bool) (h:k<n):(mkL n been)[k]? = some (been k):=by simp[mkL,h]
theorem aAg (n:Nat):mkL n (fun _=>false)=List.replicate n false:=by
 apply List.ext_getElem?;intro j;by_cases h:j<n
 ·rw[pJ _ h,List.getElem?_replicate,if_pos h]
 ·rw[List.getElem?_eq_none (by rw[yB];omega),List.getElem?_eq_none (by rw[List.length_replicate];omega)]
theorem xZ {n k:Nat}(been:Int->Bool) (h:k<n):(mkL n been).set k true=mkL n (gJ been k):=by
 apply List.ext_getElem?;intro j;by_cases h2:j<n
 ·rw[pJ _ h2];by_cases e:j=k
  ·subst e;rw[List.getElem?_set_self (by rw[yB];exact h),uN]
  ·rw[List.getElem?_set_ne (by omega),pJ _ h2];have:gJ been (k:Int) (j:Int)=been (j:Int):=by simp[gJ];omega
   rw[this]
 ·rw[List.getElem?_eq_none (by rw[List.length_set,yB];omega),List.getElem?_eq_none (by rw[yB];omega)]
end
theorem aQi {p:Prop}(h:p:=by
 rcases hg5 j hj with e|e
 ·exact hov j e
 ·rw[<-hsz2]at e;omega):p:=h
theorem aPr {p:Prop}(h:p:=by
 rcases hg1 j hj with e|e
 ·have e2:W0.heap.size=j:=eL e
  omega
 ·have:=hbA.size;omega):p:=h
theorem aHn (n lo fb h:Nat) (G:Nat->List Int) (S:List Value) (w:World) (hf:cK w lo fb n G S) (hnl:uI G S) (hG:∀ v x,x∈G v->∃ k:Nat,x=k/\k<n) (hGl:∀ v,(G v).length<=4096) (hh:h<n) (hn:n<=1024) :
 Calls Tryz.prog 39 #[.slice (some ⟨fb,0,none⟩) n n,.int .i64 h] w fun e w'=>∃ b,e=.returned (.bool b)/\(b=true↔Cl (fun x=>G x.toNat) (fun _=>false) (G h) h)/\Below w.heap.size w w':=by
 have hmk:=run_make_row' (P:=Tryz.prog) 89 4 (.bool false) 1 Tryz.underlying89 Tryz.infoB rfl .i64 .i64 n oz oz;rw[mB]at hmk;have HST:=qd (jQ.start (nx:=fun x=>G x.toNat) (b0:=fun _=>false) (t0:=G h) (n:=n) (hGl h) (hG h));have HSK:Hid (∀ been todo i a,jQ (fun x=>G x.toNat) (fun _=>false) (G h) n been todo i->todo[i]? = some a->been a=true->jQ (fun x=>G x.toNat) (fun _=>false) (G h) n been todo (i+1)):=qd (fun _ _ _ _ q=>q.skip);have HPU:Hid (∀ been todo i (a:Nat),jQ (fun x=>G x.toNat) (fun _=>false) (G h) n been todo i->todo[i]? = some (a:Int)->been a=false->jQ (fun x=>G x.toNat) (fun _=>false) (G h) n (gJ been a) (todo++G a) (i+1)):=qd (fun _ _ _ a q h1 h2=>q.push hn h1 h2 (hGl _) (hG _));have HCL:Hid (∀ been todo i,jQ (fun x=>G x.toNat) (fun _=>false) (G h) n been todo i->todo[i]? = some (h:Int)->Cl (fun x=>G x.toNat) (fun _=>false) (G h) h):=qd (fun _ _ _ q=>q.cl);have HDN:Hid (∀ been todo i,jQ (fun x=>G x.toNat) (fun _=>false) (G h) n been todo i->todo.length<=i->been h=false->¬Cl (fun x=>G x.toNat) (fun _=>false) (G h) h):=qd (fun _ _ _ q h1 h2 hc=>by rw[(q.done h1 _).2 (.inr hc)]at h2;cases h2);obtain⟨C,hC⟩:∃ C,Cl (fun x=>G x.toNat) (fun _=>false) (G h) h=C:=⟨_,rfl⟩
 rw[hC]at HCL HDN ⊢;generalize hQ:jQ (fun x=>G x.toNat) (fun _=>false) (G h) n=Q at *;have HF:=qd hf;have HNL:=qd hnl;have HGl:=qd hGl;have HGG:=qd hG;have HEl:Hid (∀ been todo i,Q been todo i->(∀ x∈todo,∃ k:Nat,x=k/\k<n)/\todo.length<=4198400):=qd (by subst hQ;exact fun _ _ _ q=>⟨q.el,q.len⟩);obtain⟨s,hs⟩:=hf.at hh;have hc0:=hf.cell hs;obtain⟨sa,sc,rfl⟩:=hf.form hs;have hsr:=hf.each h _ hs;have hsn:=hnl h _ hs;have hfl:=bJ hf.row;have i1:(0:Int)<=(h:Int):=oz
 have i2:(h:Int)<(n:Int):=oz
 have hlg:=hGl h;have HSR:=qd hsr;have HSN:=qd hsn;clear hf hnl hG hGl hQ hC hs hsr hsn;go_enter Tryz.func39,Tryz.ntmps39;go_upto_region 2 with(fail)
 have HC:(w.alloc (.cells (bQ (List.replicate n false)).toArray 4)).ownsRow 0 4 1 (.slice (some ⟨w.heap.size,0,none⟩) n n) n (bQ (mkL n (fun _=>false))):=by rw[aAg];exact World.ownsRow_lit w (base:=0) (e:=4) (size:=1) (bQ (List.replicate n false)).toArray n (Nat.zero_le _) bH (by simp[bQ])
 generalize hW0:World.alloc _ _=W0 at *;have hb0:Below w.heap.size w W0:=by rw[<-hW0];exact bel
 have hz0:w.heap.size+1<=W0.heap.size:=by rw[<-hW0];simp
 have hc1:=(hb0.cell (p:=⟨fb,h,none⟩) hfl).trans hc0;have HR0:=qd (aA hb0 HSR.out);have T0:(W0.alloc (.cells #[] 3)).ownsRow 0 3 1 (.slice (some ⟨W0.heap.size,0,none⟩) 0 0) 0 []:=eE W0 _ 1 rfl;have hbA:Below W0.heap.size W0 (W0.alloc (.cells #[] 3)):=eN;have hc2:=(hbA.cell (p:=⟨fb,h,none⟩) (show fb<W0.heap.size by omega)).trans hc1;clear hmk hW0;go_wp2_with (first|(at_builtin;refine dD rfl (.tmp 11) (.tmp 15) 50 3 1 8 (.int .i64 0) rfl Tryz.underlying50 Tryz.infoI rfl dc (.slice (some ⟨W0.heap.size,0,none⟩) 0 0) 0 [] rfl T0 (.slice sa (G h).length sc) (G h).length (aR (G h)) rfl (aA hbA HR0.out) HSN.out (bZ _) bH oz ?_;intro v6 w1 hr1 hc9 hg1)|fail)
 rw[Nat.zero_add,List.nil_append]at hr1;have hcT:aG (fun k=>k=W0.heap.size) W0 w1:=(aG.of hbA).trans (hc9.mono fun k _ hk=>by have e:W0.heap.size=k:=eL hk;exact e.symm);have hb1:Below w.heap.size w w1:=hb0.trans (hcT.below _ hb0.size (fun k _ e=>by omega));have HC1:=qd (aN hcT HC (fun k hk e=>by have e2:w.heap.size=k:=eL hk;omega));have HT1:=qd hr1;have HB1:=qd hb1;have hov1:∀ j,v6.ownBlock=some j->w.heap.size<j:=fun j hj=>by
  exact aPr
 have hlof:fb<w.heap.size:=hfl;clear hr1 hc9 hg1 hcT hb1 HC T0 hbA hc2 hc1 hc0 hb0 HR0 HSR HSN hz0;go_wp2;go_loopw [6,7] (fun v6 v7 wx=>∃ (been:Int->Bool) (todo:List Int) (i:Nat),v7=.int .i64 i/\i<=todo.length/\Hid (Q been todo i)/\Hid (been h=false)/\Hid (wx.ownsRow 0 4 1 (.slice (some ⟨w.heap.size,0,none⟩) n n) n (bQ (mkL n been)))/\Hid (wx.ownsRow 0 3 1 v6 todo.length (aR todo))/\(∀ j,v6.ownBlock=some j->w.heap.size<j)/\Hid (Below w.heap.size w wx)) (fun _ i _=>4198400-(intOf i).toNat)
 case atStart=>exact⟨_,_,0,rfl,Nat.zero_le _,HST,qd rfl,HC1,HT1,hov1,HB1⟩
 case round =>
  clear HC1 HT1 hov1 HB1 HST;obtain⟨been,todo,i,rfl,hi,HQ,HBH,HC,HT,hov,HBE⟩:=hrel;have hbw:=HBE.out.size;have hll:=(HEl.out _ _ _ HQ.out).2;have HF2:=qd (HF.out.below HBE.out);by_cases hit:i<todo.length
  ·have d1:(i:Int)<(todo.length:Int):=oz
   obtain⟨a,ha⟩:∃ a,todo[i]? = some a:=⟨_,List.getElem?_eq_getElem hit⟩
   obtain⟨k,rfl,hk⟩:=(HEl.out _ _ _ HQ.out).1 a (List.mem_of_getElem? ha);obtain⟨tb,tc,rfl,htc,htm,htl⟩:=bB HT.out oz;have t0:=aH HT.out (aV ha);have hwi:IntKind.i64.wrap ((i:Int)+1)=(i:Int)+1:=IntWalk.i64_in _ oz;have i3:(0:Int)<=(k:Int):=oz
   have i4:(k:Int)<(n:Int):=oz
   have c0:=aH HC.out (j:=k) (u:=.bool (been k)) (by unfold bQ;rw[List.getElem?_map,pJ _ hk];rfl);have z0:=HC.out.frozenAt k;have hcbl:=bJ HC.out;have HA:=qd ha;clear ha;by_cases hkh:k=h
   ·subst hkh;have e1:((k:Int)==(k:Int))=true:=si
    have HCC:=qd (HCL.out _ _ _ HQ.out HA.out);go_wp2
    try rw[Exit.noGoto_ret]
    go_ret;exact⟨true,rfl,⟨fun _=>HCC.out,fun _=>rfl⟩,HBE.out⟩
   ·have e1:((k:Int)==(h:Int))=false:=by simp;omega
    have e2:¬(k:Int)=(h:Int):=oz
    cases hbk:been k
    ·rw[hbk]at c0;have HPQ:=qd (HPU.out _ _ _ _ HQ.out HA.out hbk);have HBH2:Hid (gJ been k h=false):=qd (by
      have:=HBH.out;simp[gJ,this];omega)
     have hlk:=HGl.out k;obtain⟨s,hs⟩:=HF2.out.at hk;have f0:=HF2.out.cell hs;obtain⟨sa2,sc2,rfl⟩:=HF2.out.form hs;have HS2:=qd hs;have HSR2:=qd (HF2.out.each k _ hs);have HSN2:=qd (HNL.out k _ hs);have hst:aG (fun j=>j=w.heap.size) wr (wr.setCell ⟨w.heap.size,k,none⟩ (.bool true)):=aG.setCell (S:=fun j=>j=w.heap.size) (aG.refl _ _) (p:=⟨w.heap.size,k,none⟩) (.inl rfl) _;have C2:=cH HC.out k (.bool true);rw[iR,xZ _ hk]at C2;have T2:=qd (aN hst HT.out (fun j hj e=>by have:=hov j hj;omega));have t1:=aH T2.out (aV HA.out);have HB2:=qd (HBE.out.trans (hst.below _ hbw (fun j hj e=>by omega)));have HF3:=qd (HF.out.below HB2.out);have f1:=HF3.out.cell HS2.out;have HSR3:=qd (HF3.out.each k _ HS2.out);have hsz2:wr.heap.size=(wr.setCell ⟨w.heap.size,k,none⟩ (.bool true)).heap.size:=si
     have HC2:=qd C2;have HKG:=qd hbk;clear hst C2 hs hbk HCL HDN HSK;go_wp2_with (first|(at_builtin;refine dD rfl (.tmp 43) (.tmp 50) 50 3 1 8 (.int .i64 0) rfl Tryz.underlying50 Tryz.infoI rfl dc (.slice (some ⟨tb,0,none⟩) todo.length tc) todo.length (aR todo) rfl T2.out (.slice sa2 (G k).length sc2) (G k).length (aR (G k)) rfl HSR3.out HSN2.out (bZ _) bH oz ?_;intro v6 w5 hr5 hc5 hg5)|fail)
     have hbt:=T2.out;have hcA:aG (fun j=>(Value.slice (some ⟨tb,0,none⟩) todo.length tc).ownBlock=some j) (wr.setCell ⟨w.heap.size,k,none⟩ (.bool true)) w5:=hc5;refine⟨⟨gJ been k,todo++G k,i+1,si,by rw[List.length_append];omega,HPQ,HBH2,qd (aN hcA HC2.out (fun j hj e=>by have e1:=hov j e;have e2:w.heap.size=j:=eL hj;omega)),qd (by rw[List.length_append,bK];exact hr5),fun j hj=>?_,qd (HB2.out.trans (hcA.below _ HB2.out.size (fun j hj e=>by have:=hov j e;omega)))⟩,?_⟩
     ·exact aQi
     ·go_light;exact ml
    ·rw[hbk]at c0;have HSQ:=qd (HSK.out _ _ _ _ HQ.out HA.out hbk);go_wp2;refine⟨⟨been,todo,i+1,si,oz,HSQ,HBH,HC,HT,hov,HBE⟩,?_⟩;go_light;exact ml
  ·obtain rfl:i=todo.length:=oz
   have d1:¬(todo.length:Int)<(todo.length:Int):=oz
   have HCC:=qd (HDN.out _ _ _ HQ.out lr HBH.out);obtain⟨ta,tc,rfl⟩:∃ ta tc,u6=.slice ta todo.length tc:=by
    exact aJ9
   go_wp2
   try rw[Exit.noGoto_ret]
   go_ret
   first|exact .inl ⟨rfl,HCC.out,HBE.out⟩|exact⟨false,rfl,⟨fun e=>by cases e,fun c=>absurd c HCC.out⟩,HBE.out⟩
theorem aDq (n lo fb h:Nat) (G:Nat->List Int) (S:List Value) (T:List Int) (vt:Value) (w:World) (hf:cK w lo fb n G S) (hnl:uI G S) (hG:∀ v x,x∈G v->∃ k:Nat,x=k/\k<n) (hGl:∀ v,(G v).length<=4096) (hh:h<n) (hn:n<=1024)
 (hvt:w.ownsRow 0 3 1 vt T.length (aR T)) (hvn:T.length=0->vt=.slice none 0 0) (hT:∀ x∈T,∃ k:Nat,x=k/\k<n) (hTl:T.length<=4096) :
 Calls Tryz.prog 40 #[.int .i64 n,.slice (some ⟨fb,0,none⟩) n n,.int .i64 h,vt] w fun e w'=>∃ been:Int->Bool,e=.returned (.slice (some ⟨w.heap.size,0,none⟩) n n)/\(∀ x,been x=true↔decide (x=(h:Int))=true\/Cl (fun x=>G x.toNat) (fun x=>decide (x=(h:Int))) T x)/\Below w.heap.size w w'/\w'.ownsRow 0 4 1 (.slice (some ⟨w.heap.size,0,none⟩) n n) n (bQ (mkL n been)):=by
 have hmk:=run_make_row' (P:=Tryz.prog) 89 4 (.bool false) 1 Tryz.underlying89 Tryz.infoB rfl .i64 .i64 n oz oz;rw[mB]at hmk;have HST:=qd (jQ.start (nx:=fun x=>G x.toNat) (b0:=fun x=>decide (x=(h:Int))) (t0:=T) (n:=n) hTl hT);have HSK:Hid (∀ been todo i a,jQ (fun x=>G x.toNat) (fun x=>decide (x=(h:Int))) T n been todo i->todo[i]? = some a->been a=true->jQ (fun x=>G x.toNat) (fun x=>decide (x=(h:Int))) T n been todo (i+1)):=qd (fun _ _ _ _ q=>q.skip);have HPU:Hid (∀ been todo i (a:Nat),jQ (fun x=>G x.toNat) (fun x=>decide (x=(h:Int))) T n been todo i->todo[i]? = some (a:Int)->been a=false->jQ (fun x=>G x.toNat) (fun x=>decide (x=(h:Int))) T n (gJ been a) (todo++G a) (i+1)):=qd (fun _ _ _ a q h1 h2=>q.push hn h1 h2 (hGl _) (hG _));have HDN:Hid (∀ been todo i,jQ (fun x=>G x.toNat) (fun x=>decide (x=(h:Int))) T n been todo i->todo.length<=i->∀ x,been x=true↔decide (x=(h:Int))=true\/Cl (fun x=>G x.toNat) (fun x=>decide (x=(h:Int))) T x):=qd (fun _ _ _ q h1=>q.done h1);have H00:mkL n (fun x=>decide (x=(h:Int)))=(List.replicate n false).set h true:=by
  rw[<-aAg,xZ _ hh];apply List.map_congr_left;intro k _;simp[gJ]
 generalize (fun x=>decide (x=(h:Int)))=b0 at *;generalize hC:Cl (fun x=>G x.toNat) b0 T=C at *;generalize hQ:jQ (fun x=>G x.toNat) b0 T n=Q at *;have HF:=qd hf;have HNL:=qd hnl;have HGl:=qd hGl;have HGG:=qd hG;have HEl:Hid (∀ been todo i,Q been todo i->(∀ x∈todo,∃ k:Nat,x=k/\k<n)/\todo.length<=4198400):=qd (by subst hQ;exact fun _ _ _ q=>⟨q.el,q.len⟩);have hfl:=bJ hf.row;have i1:(0:Int)<=(h:Int):=oz
 have i2:(h:Int)<(n:Int):=oz
 have HSR:=qd hvt;have HSN:=qd hvn;clear hf hnl hG hGl hQ hC hvt hvn hT;go_enter Tryz.func40,Tryz.ntmps40;go_upto_region 2 with(fail)
 have HC0:(w.alloc (.cells (bQ (List.replicate n false)).toArray 4)).ownsRow 0 4 1 (.slice (some ⟨w.heap.size,0,none⟩) n n) n (bQ (List.replicate n false)):=World.ownsRow_lit w (base:=0) (e:=4) (size:=1) (bQ (List.replicate n false)).toArray n (Nat.zero_le _) bH (by simp[bQ]);generalize hW9:World.alloc _ _=W9 at *;have hb9:Below w.heap.size w W9:=by rw[<-hW9];exact bel
 have hz9:w.heap.size+1<=W9.heap.size:=by rw[<-hW9];simp
 have c9:=aH HC0 (j:=h) (u:=.bool false) (by unfold bQ;rw[List.getElem?_map,List.getElem?_replicate,if_pos hh];rfl);have z9:=HC0.frozenAt h;clear hmk hW9;go_upto_region 3 with(fail)
 have HC:=cH HC0 h (.bool true);rw[iR,<-H00]at HC;have hst0:aG (fun j=>j=w.heap.size) W9 (W9.setCell ⟨w.heap.size,h,none⟩ (.bool true)):=aG.setCell (S:=fun j=>j=w.heap.size) (aG.refl _ _) (p:=⟨w.heap.size,h,none⟩) (.inl rfl) _;have hb0:=hb9.trans (hst0.below _ hb9.size (fun j hj e=>by omega));have hs0:=hst0.size;generalize hW0:World.setCell _ _ _=W0 at *;have hz0:w.heap.size+1<=W0.heap.size:=oz
 have HR0:=qd (aA hb0 HSR.out);have T0:(W0.alloc (.cells #[] 3)).ownsRow 0 3 1 (.slice (some ⟨W0.heap.size,0,none⟩) 0 0) 0 []:=eE W0 _ 1 rfl;have hbA:Below W0.heap.size W0 (W0.alloc (.cells #[] 3)):=eN;clear hW0 c9 z9 HC0 hst0 hs0 hb9 hz9;go_wp2_with (first|(at_builtin;refine dD rfl (.tmp 17) (.tmp 18) 50 3 1 8 (.int .i64 0) rfl Tryz.underlying50 Tryz.infoI rfl dc (.slice (some ⟨W0.heap.size,0,none⟩) 0 0) 0 [] rfl T0 vt T.length (aR T) rfl (aA hbA HR0.out) HSN.out (bZ _) bH oz ?_;intro v10 w1 hr1 hc9 hg1)|fail)
 rw[Nat.zero_add,List.nil_append]at hr1;have hcT:aG (fun k=>k=W0.heap.size) W0 w1:=(aG.of hbA).trans (hc9.mono fun k _ hk=>by have e:W0.heap.size=k:=eL hk;exact e.symm);have hb1:Below w.heap.size w w1:=hb0.trans (hcT.below _ hb0.size (fun k _ e=>by omega));have HC1:=qd (aN hcT HC (fun k hk e=>by have e2:w.heap.size=k:=eL hk;omega));have HT1:=qd hr1;have HB1:=qd hb1;have hov1:∀ j,v10.ownBlock=some j->w.heap.size<j:=fun j hj=>by
  exact aPr
 have hlof:fb<w.heap.size:=hfl;clear hr1 hc9 hg1 hcT hb1 HC T0 hbA hb0 HR0 HSR HSN hz0 H00;go_wp2;go_loopw [10,11] (fun v10 v11 wx=>∃ (been:Int->Bool) (todo:List Int) (i:Nat),v11=.int .i64 i/\i<=todo.length/\Hid (Q been todo i)/\Hid (wx.ownsRow 0 4 1 (.slice (some ⟨w.heap.size,0,none⟩) n n) n (bQ (mkL n been)))/\Hid (wx.ownsRow 0 3 1 v10 todo.length (aR todo))/\(∀ j,v10.ownBlock=some j->w.heap.size<j)/\Hid (Below w.heap.size w wx)) (fun _ i _=>4198400-(intOf i).toNat)
 case atStart=>exact⟨_,_,0,rfl,Nat.zero_le _,HST,HC1,HT1,hov1,HB1⟩
 case round =>
  clear HC1 HT1 hov1 HB1 HST;obtain⟨been,todo,i,rfl,hi,HQ,HC,HT,hov,HBE⟩:=hrel;have hbw:=HBE.out.size;have hll:=(HEl.out _ _ _ HQ.out).2;have HF2:=qd (HF.out.below HBE.out);by_cases hit:i<todo.length
  ·have d1:(i:Int)<(todo.length:Int):=oz
   obtain⟨a,ha⟩:∃ a,todo[i]? = some a:=⟨_,List.getElem?_eq_getElem hit⟩
   obtain⟨k,rfl,hk⟩:=(HEl.out _ _ _ HQ.out).1 a (List.mem_of_getElem? ha);obtain⟨tb,tc,rfl,htc,htm,htl⟩:=bB HT.out oz;have t0:=aH HT.out (aV ha);have hwi:IntKind.i64.wrap ((i:Int)+1)=(i:Int)+1:=IntWalk.i64_in _ oz;have i3:(0:Int)<=(k:Int):=oz
   have i4:(k:Int)<(n:Int):=oz
   have c0:=aH HC.out (j:=k) (u:=.bool (been k)) (by unfold bQ;rw[List.getElem?_map,pJ _ hk];rfl);have z0:=HC.out.frozenAt k;have hcbl:=bJ HC.out;have HA:=qd ha;clear ha;cases hbk:been k
   ·rw[hbk]at c0;have HPQ:=qd (HPU.out _ _ _ _ HQ.out HA.out hbk);have hlk:=HGl.out k;obtain⟨s,hs⟩:=HF2.out.at hk;have f0:=HF2.out.cell hs;obtain⟨sa2,sc2,rfl⟩:=HF2.out.form hs;have HS2:=qd hs;have HSR2:=qd (HF2.out.each k _ hs);have HSN2:=qd (HNL.out k _ hs);have hst:aG (fun j=>j=w.heap.size) wr (wr.setCell ⟨w.heap.size,k,none⟩ (.bool true)):=aG.setCell (S:=fun j=>j=w.heap.size) (aG.refl _ _) (p:=⟨w.heap.size,k,none⟩) (.inl rfl) _;have C2:=cH HC.out k (.bool true);rw[iR,xZ _ hk]at C2;have T2:=qd (aN hst HT.out (fun j hj e=>by have:=hov j hj;omega));have t1:=aH T2.out (aV HA.out);have HB2:=qd (HBE.out.trans (hst.below _ hbw (fun j hj e=>by omega)));have HF3:=qd (HF.out.below HB2.out);have f1:=HF3.out.cell HS2.out;have HSR3:=qd (HF3.out.each k _ HS2.out);have hsz2:wr.heap.size=(wr.setCell ⟨w.heap.size,k,none⟩ (.bool true)).heap.size:=si
    have HC2:=qd C2;have HKG:=qd hbk;clear hst C2 hs hbk HDN HSK;go_wp2_with (first|(at_builtin;refine dD rfl (.tmp 40) (.tmp 47) 50 3 1 8 (.int .i64 0) rfl Tryz.underlying50 Tryz.infoI rfl dc (.slice (some ⟨tb,0,none⟩) todo.length tc) todo.length (aR todo) rfl T2.out (.slice sa2 (G k).length sc2) (G k).length (aR (G k)) rfl HSR3.out HSN2.out (bZ _) bH oz ?_;intro v10 w5 hr5 hc5 hg5)|fail)
    have hbt:=T2.out;have hcA:aG (fun j=>(Value.slice (some ⟨tb,0,none⟩) todo.length tc).ownBlock=some j) (wr.setCell ⟨w.heap.size,k,none⟩ (.bool true)) w5:=hc5;refine⟨⟨gJ been k,todo++G k,i+1,si,by rw[List.length_append];omega,HPQ,qd (aN hcA HC2.out (fun j hj e=>by have e1:=hov j e;have e2:w.heap.size=j:=eL hj;omega)),qd (by rw[List.length_append,bK];exact hr5),fun j hj=>?_,qd (HB2.out.trans (hcA.below _ HB2.out.size (fun j hj e=>by have:=hov j e;omega)))⟩,?_⟩
    ·exact aQi
    ·go_light;exact ml
   ·rw[hbk]at c0;have HSQ:=qd (HSK.out _ _ _ _ HQ.out HA.out hbk);go_wp2;refine⟨⟨been,todo,i+1,si,oz,HSQ,HC,HT,hov,HBE⟩,?_⟩;go_light;exact ml
  ·obtain rfl:i=todo.length:=oz
   have d1:¬(todo.length:Int)<(todo.length:Int):=oz
   have HCC:=qd (HDN.out _ _ _ HQ.out lr);obtain⟨ta,tc,rfl⟩:∃ ta tc,u10=.slice ta todo.length tc:=by
    exact aJ9
   go_wp2
   try rw[Exit.noGoto_ret]
   go_ret;exact⟨rfl,been,fun x=>by have:=HCC.out x;simpa using this,HBE.out,HC.out⟩
theorem aT5 {p:Prop}(h:p:=by
 have HG:=qd (HF.out (by rw[HU.out];exact hbad));clear HF;go_upto_region 10 with(fail)
 refine bC 6 kr kr ?_;simp only[TD];repeat(refine bS (fun K hK=>?_);go_simp;refine hK _ ?_;clear hK K)
 refine cF ?_;go_wp2;go_ret2;go_light;refine⟨gH (by rw[Prod.eta,HRES.out,HG.out];dsimp only;rw[HU.out]),?_⟩
 first|exact hbr5|exact hbr5.drew):p:=h
theorem kP {p:Prop}(h:p:=by
 intro w' hSw;obtain⟨s0,s1,s2,s3,s4,s5,s6,s7⟩:=HSS.out w' hSw;go_simp;(try with_reducible rfl)):p:=h
theorem aEp (B:Nat) (hh:HF) (f:aC) (l:cE) (ma ba:Option Addr) (mc bc:Nat) (w:World) (hB:B<=w.heap.size) (hf:aZ B w hh f)
 (hm:cI B w ma l.members.length l.members) (hb:cI B w ba l.backs.length l.backs) (hh1:l.head<f.code.length) (hm1:∀ x∈l.members,∃ k:Nat,x=k/\k<f.code.length) (hb1:∀ x∈l.backs,∃ k:Nat,x=k/\k<f.code.length) (hn:f.code.length<=1024) :
 Calls Tryz.prog 41 #[aI hh f,.agg #[.int .i64 l.head,.int .i64 l.parent,.slice ma l.members.length mc,.slice ba l.backs.length bc]] w fun e w'=>e=.returned (.tuple #[.int .i64 (cS f l).1,.int .i64 (cS f l).2])/\Below w.heap.size w w':=by
 have hmk:=run_make_row' (P:=Tryz.prog) 89 4 (.bool false) 1 Tryz.underlying89 Tryz.infoB rfl .i64 .i64 f.code.length oz oz;rw[mB]at hmk;obtain⟨pa,pl,pc,ca,cl,cc⟩:=hh;obtain⟨h1,h2,⟨hcl,hcm,cb,co,hcb,hcells⟩,h4,h5⟩:=hf;dsimp only at *;subst hcl;obtain⟨rfl,hcB⟩:=hcb oz;clear h2 h1 h4 h5;obtain⟨RES,hRES⟩:∃ r,cS f l=r:=⟨_,rfl⟩
 rw[hRES];rw[aBx]at hRES;unfold aI;dsimp only;have HC:=qd hcells;clear hcells;have HM1:=qd hm1;have HB1:=qd hb1;have HM:=qd hm;have HBk:=qd hb;clear hm1 hb1 hm hb;have hx0:=HC.out l.head hh1;have hca:eF f (l.head:Int)=f.code.getD l.head default:=wF
 rw[hca]at hRES;generalize f.code.getD l.head default=x at *;obtain⟨op,a,b,c,n⟩:=x;obtain⟨⟨g0,g1,g2,g3,g4⟩,⟨i0,i1,i2,i3,i4⟩⟩:=hx0;dsimp only at *;obtain⟨head,parent,members,backs⟩:=l;dsimp only at *;have hhd:(head:Int)<(f.code.length:Int):=oz
 have hcbl:cb<w.heap.size:=oz
 by_cases hop:op=17
 ·subst hop;rw[if_neg (by simp)]at hRES;have HRES:=qd hRES.symm;clear hRES;go_enter Tryz.func41,Tryz.ntmps41;go_upto_region 5 with(fail)
  have HBR:∀ W:World,(W.alloc (.cells (bQ (List.replicate f.code.length false)).toArray 4)).ownsRow 0 4 1 (.slice (some ⟨W.heap.size,0,none⟩) f.code.length f.code.length) f.code.length (bQ (List.replicate f.code.length false)):=fun W=>World.ownsRow_lit W (base:=0) (e:=4) (size:=1) (bQ (List.replicate f.code.length false)).toArray f.code.length (Nat.zero_le _) bH (by simp[bQ]);generalize hW0:World.alloc _ _=W0;have hb0:Below w.heap.size w W0:=by rw[<-hW0];exact bel
  have hz0:w.heap.size+4<=W0.heap.size:=by rw[<-hW0];simp
  have OF:aF W0 w.heap.size [.string f.name,.slice pa pl pc,.int .i64 f.regs,.int .i64 f.words,.slice (some ⟨cb,co,none⟩) f.code.length cc]:=by rw[<-hW0];exact(((aF.new _ _ _).alloc _).alloc _).alloc _
  have OL:aF W0 (w.heap.size+1) [.int .i64 head,.int .i64 parent,.slice ma members.length mc,.slice ba backs.length bc]:=by rw[<-hW0];exact((aF.new' _ _ _ _ si).alloc _).alloc _
  have OC:aF W0 (w.heap.size+1+1) [.int .i64 17,.int .i64 a,.int .i64 b,.int .i64 c,.int .i64 n]:=sP
  have OM:W0.ownsRow 0 4 1 (.slice (some ⟨w.heap.size+1+1+1,0,none⟩) f.code.length f.code.length) f.code.length (bQ (mkL f.code.length (kG backs 0))):=by
   have e:kG backs 0=fun _=>false:=by funext x;simp[kG]
   rw[<-hW0,e,aAg];have:=HBR (((w.alloc (.cells #[.string f.name,.slice pa pl pc,.int .i64 f.regs,.int .i64 f.words,.slice (some ⟨cb,co,none⟩) f.code.length cc] 42)).alloc (.cells #[.int .i64 head,.int .i64 parent,.slice ma members.length mc,.slice ba backs.length bc] 52)).alloc (.cells #[.int .i64 17,.int .i64 a,.int .i64 b,.int .i64 c,.int .i64 n] 55));simpa using this
  have l4:=hU OL;clear hW0 hmk HBR g0 g1 g2 g3 g4;obtain⟨-,hbm,bb,bo,hbb,hbc⟩:=HBk.out;have hbm':backs.length<=9223372036854775807:=hbm;have HBC:=qd hbc;have HBB:=qd hbb;clear hbc hbb;go_wp2;go_loopw [8] (fun i wr=>∃ j:Nat,j<=backs.length/\i=.int .i64 j/\Hid (∀ i,i<j->gC f a (backs.getD i 0)=false)/\Below w.heap.size w wr/\w.heap.size+4<=wr.heap.size/\Hid (aF wr w.heap.size [.string f.name,.slice pa pl pc,.int .i64 f.regs,.int .i64 f.words,.slice (some ⟨cb,co,none⟩) f.code.length cc])/\Hid (aF wr (w.heap.size+1) [.int .i64 head,.int .i64 parent,.slice ma members.length mc,.slice ba backs.length bc])/\Hid (aF wr (w.heap.size+1+1) [.int .i64 17,.int .i64 a,.int .i64 b,.int .i64 c,.int .i64 n])/\Hid (wr.ownsRow 0 4 1 (.slice (some ⟨w.heap.size+1+1+1,0,none⟩) f.code.length f.code.length) f.code.length (bQ (mkL f.code.length (kG backs j))))) (fun i _=>backs.length-(intOf i).toNat)
  case atStart=>exact⟨0,Nat.zero_le _,rfl,qd (fun i hi=>by omega),hb0,oz,qd OF,qd OL,qd OC,qd OM⟩
  case round =>
   clear OF OL OC OM l4 hb0 hz0;obtain⟨j,hj,rfl,hno,hbr,hzr,OF,OL,OC,OM⟩:=hrel;have f5:=aX OF.out;have l4:=hU OL.out;have x5:=aX OC.out;by_cases hjt:j<backs.length
   ·have d2:(j:Int)<(backs.length:Int):=oz
    have hwj:IntKind.i64.wrap ((j:Int)+1)=(j:Int)+1:=IntWalk.i64_in _ oz;obtain⟨rfl,hbB⟩:=HBB.out oz;have c0:=(hbr.cell (p:=⟨bb,bo+j,none⟩) (by show bb<_;omega)).trans (HBC.out j hjt).1;obtain⟨k,hku,hkl⟩:=HB1.out (backs.getD j 0) (List.mem_of_getElem? (i:=j) aAe);have HU:=qd hku;rw[hku]at c0;have hk1:(k:Int)<(f.code.length:Int):=oz
    have hcaU:eF f (k:Int)=f.code.getD k default:=wF
    obtain⟨⟨y0,y1,y2,y3,y4⟩,iy⟩:=HC.out k hkl;have HY:=qd (show gC f a (k:Int)=(decide ((f.code.getD k default).op≠18)||decide ((f.code.getD k default).a≠a)) by unfold gC;rw[hcaU]);have HF:=qd (fun h=>yA (p:=gC f a) hjt hno.out h);clear hku hcaU iy;generalize f.code.getD k default=y at *;obtain⟨yo,ya,yb,yc,yn⟩:=y;dsimp only at y0 y1 y2 y3 y4 HY;have hcbw:cb<wr.heap.size:=oz
    have yy0:=(hbr.cell (p:=⟨cb,co+k*5,none⟩) (by show cb<_;omega)).trans y0;have yy1:=(hbr.cell (p:=⟨cb,co+k*5+1,none⟩) (by show cb<_;omega)).trans y1;have yy2:=(hbr.cell (p:=⟨cb,co+k*5+2,none⟩) (by show cb<_;omega)).trans y2;have yy3:=(hbr.cell (p:=⟨cb,co+k*5+3,none⟩) (by show cb<_;omega)).trans y3;have yy4:=(hbr.cell (p:=⟨cb,co+k*5+4,none⟩) (by show cb<_;omega)).trans y4;have hbbw:bb<wr.heap.size:=oz
    clear y0 y1 y2 y3 y4;have HSS:Hid (∀ w':World,Below wr.heap.size wr w'->w'.cell? ⟨w.heap.size,4,none⟩=some (.slice (some ⟨cb,co,none⟩) f.code.length cc)/\w'.cell? ⟨w.heap.size+1,3,none⟩=some (.slice (some ⟨bb,bo,none⟩) backs.length bc)/\w'.cell? ⟨bb,bo+j,none⟩=some (.int .i64 (k:Int))/\w'.cell? ⟨cb,co+k*5,none⟩=some (.int .i64 yo)/\w'.cell? ⟨cb,co+k*5+1,none⟩=some (.int .i64 ya)/\w'.cell? ⟨cb,co+k*5+2,none⟩=some (.int .i64 yb)/\w'.cell? ⟨cb,co+k*5+3,none⟩=some (.int .i64 yc)/\w'.cell? ⟨cb,co+k*5+4,none⟩=some (.int .i64 yn)):=qd (fun w' hb=>⟨(hb.cell (show w.heap.size<_ by omega)).trans f5.2.2.2.2.2.1,(hb.cell (show w.heap.size+1<_ by omega)).trans l4.2.2.2.2.1,(hb.cell hbbw).trans c0,(hb.cell hcbw).trans yy0,(hb.cell hcbw).trans yy1,(hb.cell hcbw).trans yy2,(hb.cell hcbw).trans yy3,(hb.cell hcbw).trans yy4⟩);go_upto_region 8 with(fail)
    refine aE (fun w'=>Below wr.heap.size wr w') kr ((Below.refl _ wr).drew) ?_;intro K0 hK0 hHeld
    (refine fH 0 rfl ?_ kP;try simp only[Act.put,SU])
    (refine fH 1 rfl ?_ kP;try simp only[Act.put,SU])
    (refine fH 2 rfl ?_ kP;try simp only[Act.put,SU])
    (refine fH 3 rfl ?_ kP;try simp only[Act.put,SU])
    (refine fH 4 rfl ?_ kP;try simp only[Act.put,SU])
    (refine fH 5 rfl ?_ kP;try simp only[Act.put,SU])
    (refine fH 6 rfl ?_ kP;try simp only[Act.put,SU])
    (refine fH 7 rfl ?_ kP;try simp only[Act.put,SU])
    (refine fH 8 rfl ?_ kP;try simp only[Act.put,SU])
    (refine wpAnyH_ready (rs:=[9]) kr si ?_;refine iB rfl (fun K hK=>?_) AllReadyH.nil)
    go_simp
    refine hK.out _ _ ?_ (fun hHeld=>?_);(focus((try dsimp only);any_goals (exact eN.drew)));clear hK K;try simp only[Act.put,SU]
    (refine wpAnyH_ready (rs:=[10]) kr si ?_;refine iB rfl (fun K hK=>?_) AllReadyH.nil)
    go_simp
    refine hK.out _ _ ?_ (fun hHeld=>?_);(focus((try dsimp only);any_goals (exact eN.drew)));clear hK K;try simp only[Act.put,SU]
    refine aO kr ?_;refine hK0.out _ _ ?_;have hb5:Below wr.heap.size wr (wr.alloc (.cells #[.int .i64 yo,.int .i64 ya,.int .i64 yb,.int .i64 yc,.int .i64 yn] 55)).drew:=eN.drew;have OY:aF (wr.alloc (.cells #[.int .i64 yo,.int .i64 ya,.int .i64 yb,.int .i64 yc,.int .i64 yn] 55)).drew wr.heap.size [.int .i64 yo,.int .i64 ya,.int .i64 yb,.int .i64 yc,.int .i64 yn]:=(aF.new wr _ _).drew;generalize hW5:(wr.alloc (.cells #[.int .i64 yo,.int .i64 ya,.int .i64 yb,.int .i64 yc,.int .i64 yn] 55)).drew=W5 at hb5 OY ⊢;have hz5:=hb5.size;have hbr5:=hbr.trans (hb5.mono hbr.size);have OF5:=qd (OF.out.below hb5);have OL5:=qd (OL.out.below hb5);have OC5:=qd (OC.out.below hb5);have OM5:=qd (aA hb5 OM.out);have f5':=aX OF5.out;have l4':=hU OL5.out;have x5':=aX OC5.out;have y5:=aX OY;have c0':=(hb5.cell (p:=⟨bb,bo+j,none⟩) hbbw).trans c0;clear hW5 f5 l4 x5 c0 yy0 yy1 yy2 yy3 yy4 HSS OF OL OC OM hK0 hHeld hb5 OY;by_cases e1:yo=18
    ·subst e1;by_cases e2:ya=a
     ·subst e2;have hgood:gC f ya (k:Int)=false:=by rw[HY.out];simp
      clear HF;have q1:((18:Int)!=18)=false:=si
      have q2:(ya != ya)=false:=si
      have c5:=aH OM5.out (j:=k) (u:=.bool (kG backs j k)) (by unfold bQ;rw[List.getElem?_map,pJ _ hkl];rfl);have z5:=OM5.out.frozenAt k;have C2:=cH OM5.out k (.bool true);rw[iR,xZ _ hkl,show gJ (kG backs j) (k:Int)=kG backs (j+1) by rw[<-HU.out];exact zA hjt]at C2;have hst:aG (fun q=>q=w.heap.size+1+1+1) W5 (W5.setCell ⟨w.heap.size+1+1+1,k,none⟩ (.bool true)):=aG.setCell (S:=fun q=>q=w.heap.size+1+1+1) (aG.refl _ _) (p:=⟨w.heap.size+1+1+1,k,none⟩) (.inl rfl) _;have HC2:=qd C2;have HST:=qd hst;clear C2 hst;go_wp2;have hst:=HST.out;have hz6:=hst.size;refine⟨⟨j+1,oz,si,qd (fun i hi=>?_),hbr5.trans (hst.below _ hbr5.size (fun q hq e=>by omega)),oz,qd (hst.own OF5.out oz),qd (hst.own OL5.out oz),qd (hst.own OC5.out oz),HC2⟩,?_⟩
      ·exact aOe
      ·go_light;exact ml
     ·have q1:((18:Int)!=18)=false:=si
      have q2:(ya != a)=true:=by simpa using e2
      have q3:(ya==a)=false:=by simpa using e2
      have hbad:gC f a (k:Int)=true:=by rw[HY.out];simp[e2]
      exact aT5
    ·have q1:(yo != 18)=true:=by simpa using e1
     have q2:(yo==18)=false:=by simpa using e1
     have hbad:gC f a (k:Int)=true:=by rw[HY.out];simp[e1]
     exact aT5
   ·obtain rfl:j=backs.length:=oz
    have d2:¬(backs.length:Int)<(backs.length:Int):=oz
    have HG:=qd (xT hno.out);obtain⟨W1,hW1⟩:∃ wo:World,wo=wr:=⟨_,rfl⟩
    subst hW1;obtain⟨-,hmm1,mb,mo,hmb,hmc⟩:=HM.out;have hmm':members.length<=9223372036854775807:=hmm1;have HMC:=qd hmc;have HMB:=qd hmb;clear hmc hmb hno x5 f5;go_wp2;go_loopw [10] (fun i wx=>∃ j:Nat,j<=members.length/\i=.int .i64 j/\Hid (∀ i,i<j->eZ f a b backs (members.getD i 0)=false)/\Hid (Below W1.heap.size W1 wx)) (fun i _=>members.length-(intOf i).toNat)
    case atStart=>exact⟨0,Nat.zero_le _,rfl,qd (fun i hi=>by omega),qd (Below.refl _ _)⟩
    case round =>
     obtain⟨j,hj,rfl,hno,hbx'⟩:=hrel;have hbx:=hbx'.out;have hzx:=hbx.size;have f5:=aX (OF.out.below hbx);have x5:=aX (OC.out.below hbx);have l4:=hU (OL.out.below hbx);by_cases hjt:j<members.length
     ·have d3:(j:Int)<(members.length:Int):=oz
      have hwj:IntKind.i64.wrap ((j:Int)+1)=(j:Int)+1:=IntWalk.i64_in _ oz;obtain⟨rfl,hmB⟩:=HMB.out oz;have hbw:Below w.heap.size w wr:=hbr.trans (hbx.mono oz);have c0:=(hbw.cell (p:=⟨mb,mo+j,none⟩) (by show mb<_;omega)).trans (HMC.out j hjt).1;obtain⟨k,hku,hkl⟩:=HM1.out (members.getD j 0) (List.mem_of_getElem? (i:=j) aAe);have htk:members.take (j+1)=members.take j++[(k:Int)]:=aPl
      have HU:=qd hku;have HTK:=qd htk;rw[hku]at c0;have hk1:(k:Int)<(f.code.length:Int):=oz
      have hcaU:eF f (k:Int)=f.code.getD k default:=wF
      obtain⟨⟨y0,y1,y2,y3,y4⟩,iy⟩:=HC.out k hkl;have HWr:=qd (fun w=>aE0 (f.code.getD k default) w);have HY:=qd (show eZ f a b backs (k:Int)=(decide (0<=dP (f.code.getD k default))&&((decide (dP (f.code.getD k default)=a) && !backs.contains (k:Int))||decide (dP (f.code.getD k default)=b))) by unfold eZ;rw[hcaU]);have HF:=qd (fun h=>yA (p:=eZ f a b backs) hjt hno.out h);clear hku hcaU iy htk;have e0:=(hbw.cell (p:=⟨cb,co+k*5,none⟩) (by show cb<_;omega)).trans y0;have e1:=(hbw.cell (p:=⟨cb,co+k*5+1,none⟩) (by show cb<_;omega)).trans y1;have e2:=(hbw.cell (p:=⟨cb,co+k*5+2,none⟩) (by show cb<_;omega)).trans y2;have e3:=(hbw.cell (p:=⟨cb,co+k*5+3,none⟩) (by show cb<_;omega)).trans y3;have e4:=(hbw.cell (p:=⟨cb,co+k*5+4,none⟩) (by show cb<_;omega)).trans y4;clear y0 y1 y2 y3 y4;unfold nF at HWr;generalize hz:dP (f.code.getD k default)=z at *;generalize f.code.getD k default=y at *;obtain⟨yo,ya,yb,yc,yn⟩:=y;dsimp only at e0 e1 e2 e3 e4 HWr;clear hz;have hcbw:cb<wr.heap.size:=oz
      have hmbw:mb<wr.heap.size:=oz
      have HSS:Hid (∀ w':World,Below wr.heap.size wr w'->w'.cell? ⟨w.heap.size,4,none⟩=some (.slice (some ⟨cb,co,none⟩) f.code.length cc)/\w'.cell? ⟨w.heap.size+1,2,none⟩=some (.slice (some ⟨mb,mo,none⟩) members.length mc)/\w'.cell? ⟨mb,mo+j,none⟩=some (.int .i64 (k:Int))/\w'.cell? ⟨cb,co+k*5,none⟩=some (.int .i64 yo)/\w'.cell? ⟨cb,co+k*5+1,none⟩=some (.int .i64 ya)/\w'.cell? ⟨cb,co+k*5+2,none⟩=some (.int .i64 yb)/\w'.cell? ⟨cb,co+k*5+3,none⟩=some (.int .i64 yc)/\w'.cell? ⟨cb,co+k*5+4,none⟩=some (.int .i64 yn)):=qd (fun w' hb=>⟨(hb.cell (show w.heap.size<_ by omega)).trans f5.2.2.2.2.2.1,(hb.cell (show w.heap.size+1<_ by omega)).trans l4.2.2.2.1,(hb.cell hmbw).trans c0,(hb.cell hcbw).trans e0,(hb.cell hcbw).trans e1,(hb.cell hcbw).trans e2,(hb.cell hcbw).trans e3,(hb.cell hcbw).trans e4⟩);go_upto_region 15 with(fail)
      refine aE (fun w'=>Below wr.heap.size wr w') kr ((Below.refl _ wr).drew) ?_;intro K0 hK0 hHeld
      (refine fH 0 rfl ?_ kP;try simp only[Act.put,SU])
      (refine fH 1 rfl ?_ kP;try simp only[Act.put,SU])
      (refine fH 2 rfl ?_ kP;try simp only[Act.put,SU])
      (refine fH 3 rfl ?_ kP;try simp only[Act.put,SU])
      (refine fH 4 rfl ?_ kP;try simp only[Act.put,SU])
      (refine fH 5 rfl ?_ kP;try simp only[Act.put,SU])
      (refine fH 6 rfl ?_ kP;try simp only[Act.put,SU])
      (refine fH 7 rfl ?_ kP;try simp only[Act.put,SU])
      (refine fH 8 rfl ?_ kP;try simp only[Act.put,SU])
      (refine wpAnyH_ready (rs:=[9]) kr si ?_;refine iB rfl (fun K hK=>?_) AllReadyH.nil)
      go_simp
      refine hK.out _ _ ?_ (fun hHeld=>?_);(focus((try dsimp only);any_goals (exact eN.drew)));clear hK K;try simp only[Act.put,SU]
      (refine wpAnyH_ready (rs:=[10]) kr si ?_;refine iB rfl (fun K hK=>?_) AllReadyH.nil)
      go_simp
      refine hK.out _ _ ?_ (fun hHeld=>?_);(focus((try dsimp only);any_goals (exact eN.drew)));clear hK K;try simp only[Act.put,SU]
      refine aO kr ?_;refine hK0.out _ _ ?_;have hb5:Below wr.heap.size wr (wr.alloc (.cells #[.int .i64 yo,.int .i64 ya,.int .i64 yb,.int .i64 yc,.int .i64 yn] 55)).drew:=eN.drew;have OY:aF (wr.alloc (.cells #[.int .i64 yo,.int .i64 ya,.int .i64 yb,.int .i64 yc,.int .i64 yn] 55)).drew wr.heap.size [.int .i64 yo,.int .i64 ya,.int .i64 yb,.int .i64 yc,.int .i64 yn]:=(aF.new wr _ _).drew;generalize hW5:(wr.alloc (.cells #[.int .i64 yo,.int .i64 ya,.int .i64 yb,.int .i64 yc,.int .i64 yn] 55)).drew=W5 at hb5 OY ⊢;have y5:=aX OY;clear hW5 f5 l4 x5 c0 e0 e1 e2 e3 e4 HSS hK0 hHeld OY;go_upto_region 17 with(first|(go_at_call 76;refine(HWr.out _).mono ?_;rintro e w5 ⟨rfl,hb6⟩)|fail)
      have hb15:Below W1.heap.size W1 w5:=(hbx.trans (hb5.mono hbx.size)).trans (hb6.mono (by have:=hb5.size;have:=hbx.size;omega));have x5:=aX (OC.out.below hb15);have hlk:=aH (aA hb15 OM.out) (j:=k) (u:=.bool (kG backs backs.length k)) (by unfold bQ;rw[List.getElem?_map,pJ _ hkl];rfl);rw[aAj]at hlk;generalize backs.contains (k:Int)=isB at *;have hbw5:=hbr.trans (hb15.mono (show w.heap.size<=W1.heap.size by omega));have l4':=hU (OL.out.below hb15);have c0':=(hbw5.cell (p:=⟨mb,mo+j,none⟩) (by show mb<_;omega)).trans (HMC.out j hjt).1;rw[HU.out]at c0';obtain⟨ba,qa⟩:∃ ba,(z==a)=ba:=⟨_,rfl⟩
      obtain⟨bb,qb⟩:∃ bb,(z==b)=bb:=⟨_,rfl⟩
      have HY2:=qd (HY.out.trans (show _=(decide (0<=z)&&((ba && !isB)||bb)) by rw[<-qa,<-qb];rfl));clear HY;by_cases hbad:eZ f a b backs (k:Int)=true
      ·have HG2:=qd (HF.out (by rw[HU.out];exact hbad));rw[HY2.out]at hbad;have HE:=HRES.out;rw[HG.out]at HE;dsimp only at HE;rw[HG2.out,HU.out]at HE;dsimp only at HE;have HE2:=qd HE;clear HF HY2 hno HE HG2;have hz0:0<=z:=by
        by_cases h:0<=z
        ·exact h
        ·rw[decide_eq_false h]at hbad;cases hbad
       rw[decide_eq_true hz0,Bool.true_and]at hbad;have qz:¬z<0:=oz
       have HBD:=qd hbad;clear hbad;cases ba<;>cases bb<;>cases isB
       all_goals first
        | (exfalso;have h:=HBD.out;revert h;decide)
        | (clear HBD
           go_upto_region 18 with(fail)
           refine bC 6 kr kr ?_;simp only[TD];repeat(refine bS (fun K hK=>?_);go_simp;refine hK _ ?_;clear hK K)
           refine cF ?_;go_wp2;go_ret2;go_light;refine⟨gH (by rw[Prod.eta,HE2.out]),?_⟩
           first|exact hbw5|exact hbw5.drew)
      ·have hbf:eZ f a b backs (k:Int)=false:=by simpa using hbad
       have HNO:=qd (fun i (hi:i<j+1)=>show eZ f a b backs (members.getD i 0)=false by
        by_cases e:i=j
        ·subst e;rw[HU.out];exact hbf
        ·exact hno.out i oz)
       rw[HY2.out]at hbf;have HBD:=qd hbf;clear hbf hbad HF HY2 hno;by_cases hz0:0<=z
       ·have hbd:=HBD.out;rw[decide_eq_true hz0,Bool.true_and]at hbd;have HBE:=qd hbd;have qz:¬z<0:=oz
        clear HBD hbd;cases ba<;>cases bb<;>cases isB
        all_goals first
         | (exfalso;have h:=HBE.out;revert h;decide)
         | (clear HBE
            go_wp2;refine⟨⟨j+1,oz,si,HNO,qd hb15⟩,?_⟩;go_light;exact ml)
       ·have qz:z<0:=oz
        clear HBD;go_wp2;refine⟨⟨j+1,oz,si,HNO,qd hb15⟩,?_⟩;go_light;exact ml
     ·have hjj:j=members.length:=oz
      subst hjj;have d3:¬(members.length:Int)<(members.length:Int):=oz
      have HG2:=qd (xT hno.out);have HE:=HRES.out;rw[HG.out]at HE;dsimp only at HE;rw[HG2.out]at HE;dsimp only at HE;have HE2:=qd HE;clear HE hno HG HG2;have hbw:Below w.heap.size w wr:=hbr.trans (hbx.mono oz);obtain⟨W2,hW2⟩:∃ wo:World,wo=wr:=⟨_,rfl⟩
      subst hW2;have hbx':=qd hbx;clear hbx f5 x5;go_wp2;go_loopw [13] (fun i wx=>∃ j:Nat,j<=members.length/\i=.int .i64 j/\Hid ((members.take j).any (fun u=>decide (u=n))=false)/\Hid (Below W2.heap.size W2 wx)) (fun i _=>members.length-(intOf i).toNat)
      case atStart=>exact⟨0,Nat.zero_le _,rfl,qd si,qd (Below.refl _ _)⟩
      case round =>
       obtain⟨j,hj,rfl,hno,hby⟩:=hrel;have hbx:=hbx'.out.trans (hby.out.mono hbx'.out.size);have hzx:=hbx.size;have hbw6:Below w.heap.size w wr:=hbr.trans (hbx.mono oz);have x5:=aX (OC.out.below hbx);have l4:=hU (OL.out.below hbx);by_cases hjt:j<members.length
       ·have d4:(j:Int)<(members.length:Int):=oz
        have hwj:IntKind.i64.wrap ((j:Int)+1)=(j:Int)+1:=IntWalk.i64_in _ oz;obtain⟨rfl,hmB⟩:=HMB.out oz;have c0:=(hbw6.cell (p:=⟨mb,mo+j,none⟩) (by show mb<_;omega)).trans (HMC.out j hjt).1;have hmbw:mb<wr.heap.size:=by have:=hbw6.size;omega
        have hgk:members[j]? = some (members.getD j 0):=aAe
        have htk:members.take (j+1)=members.take j++[members.getD j 0]:=by rw[List.take_add_one,hgk];rfl
        have HTK:=qd htk;have HMM:=qd (List.mem_of_getElem? hgk);clear htk hgk;generalize members.getD j 0=k at *;by_cases e5:k=n
        ·have q5:(k==n)=true:=by simpa using e5
         have HAN:=qd (show members.any (fun u=>decide (u=n))=true from List.any_eq_true.2 ⟨k,HMM.out,by simpa using e5⟩);clear e5;go_upto_region 22 with(fail)
         refine bC 7 kr kr ?_;simp only[TD];repeat(refine bS (fun K hK=>?_);go_simp;refine hK _ ?_;clear hK K)
         refine cF ?_;go_upto_region 23 with(fail)
         refine bC 3 kr kr ?_;simp only[TD];repeat(refine bS (fun K hK=>?_);go_simp;refine hK _ ?_;clear hK K)
         refine cF ?_;go_wp2;go_ret2;go_light;refine⟨gH (by rw[Prod.eta,HE2.out,HAN.out];rfl),?_⟩
         first|exact hbw6|exact hbw6.drew|exact hbw6.drew.drew
        ·have q5:(k==n)=false:=by simpa using e5
         have HNN:=qd (show(members.take (j+1)).any (fun u=>decide (u=n))=false by rw[HTK.out,List.any_append,hno.out];simpa using e5);clear e5;go_upto_region 22 with(fail)
         refine bC 7 kr kr ?_;simp only[TD];repeat(refine bS (fun K hK=>?_);go_simp;refine hK _ ?_;clear hK K)
         refine cF ?_;go_wp2;refine⟨⟨j+1,oz,si,HNN,qd (by first|exact hby.out|exact hby.out.drew)⟩,?_⟩;go_light;exact ml
       ·have hjj:j=members.length:=oz
        subst hjj;have d4:¬(members.length:Int)<(members.length:Int):=oz
        have HAN:=qd (show members.any (fun u=>decide (u=n))=false by have:=hno.out;rwa [List.take_length]at this);go_wp2;go_ret2;go_light;exact⟨gH (by rw[Prod.eta,HE2.out,HAN.out];rfl),hbw6⟩
 ·have q1:(op != 17)=true:=by simpa using hop
  have q2:(op==17)=false:=by simpa using hop
  rw[if_pos hop]at hRES;subst hRES;go_enter Tryz.func41,Tryz.ntmps41;exact aQb
theorem aLc (f:aC):(kH (GL f) f.code.length).length<=f.code.length:=by
 unfold kH dQ;exact aA0
theorem aP4 {p:Prop}(h:p:=by
 rw[List.getD_eq_getElem?_getD,List.getElem?_eq_getElem hi];exact List.getElem_mem hi):p:=h
theorem aM7 {ls:List cE}{x:cE}(hx:x∈yK ls):∃ y∈ls,x.head=y.head/\x.members=y.members/\x.backs=y.backs:=by
 unfold yK at hx;obtain⟨i,hi,rfl⟩:=List.mem_map.1 hx;have hi:=List.mem_range.1 hi;have hm:ls.getD i default∈ls:=aP4
 exact⟨_,hm,rfl,rfl,rfl⟩
theorem aBz (f:aC):(jI f).1=[]\/(jI f).1=yK (cG f):=by
 unfold jI;split
 ·exact .inl rfl
 ·split
  ·exact .inl rfl
  ·split
   ·exact .inl rfl
   ·exact .inr rfl
theorem yO (f:aC):(jI f).1.length<=f.code.length:=by
 rcases aBz f with h|h
 ·rw[h];exact Nat.zero_le _
 ·rw[h];have h1:=aLc f;unfold yK cG;simpa using h1
theorem aE5 {f:aC}(hn:f.code.length<=1024) {l:cE}(hl:l∈(jI f).1):l.head<f.code.length/\∀ x∈l.members,aM x:=by
 rcases aBz f with h|h
 ·rw[h]at hl;simp at hl
 ·rw[h]at hl;obtain⟨y,hy,h1,h2,_⟩:=aM7 hl;unfold cG at hy;obtain⟨z,hz,rfl⟩:=List.mem_map.1 hy;obtain⟨i,hi⟩:=List.getElem?_of_mem hz;obtain⟨k,rfl,hk⟩:=aEn hi;rw[h1,h2,Int.toNat_natCast];exact⟨hk,fun x hx=>((qF f hn k).1 x hx).1⟩
end Go.Proofs.YteebpnbdihcfmaaGreatDoor
