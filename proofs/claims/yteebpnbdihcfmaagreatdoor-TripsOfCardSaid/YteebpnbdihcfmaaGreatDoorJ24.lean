/- R16; R16's stand; R16's merge; Package bounds; Slices of spans; bounds -/
import Derived.Test.YteebpnbdihcfmaaGreatDoorJ18
import Derived.Test.YteebpnbdihcfmaaGreatDoorJ33
import Derived.Test.YteebpnbdihcfmaaGreatDoorJ22
import Derived.Test.YteebpnbdihcfmaaGreatDoorJ21
import Derived.Test.YteebpnbdihcfmaaGreatDoorJ07
set_option linter.unusedVariables false
set_option linter.unusedSimpArgs false
set_option maxRecDepth 100000
set_option maxHeartbeats 20000000
namespace Go.Proofs.YteebpnbdihcfmaaGreatDoor
open Go.RowKit
section
def kA (W:World) (b n c:Nat) (r:List aB):Prop:=W.ownsRow 0 47 2 (.slice (some ⟨b,0,none⟩) n c) n (bL r)
theorem kA.row {W:World}{b n c:Nat}{r:List aB}(h:kA W b n c r):bF W b n c r:=bF.of (c:=c) h
theorem kA.set {W:World}{b n c:Nat}{r:List aB}(h:kA W b n c r) {i:Nat}(hi:i<n) (p:aB):kA ((W.setCell ⟨b,i*2,none⟩ (.int .i64 p.lo)).setCell ⟨b,i*2+1,none⟩ (.int .i64 p.hi)) b n c (r.set i p):=by
 have hl:=(bF.of (c:=c) h).len;have h1:=cH (cH h (i*2) (.int .i64 p.lo)) (i*2+1) (.int .i64 p.hi);rw[mV r i p (by omega)]at h1;exact h1
def lM (w:World) (n:Nat) (R:Option (List aB)) (e:Ending) (w':World):Prop:=Below w.heap.size w w'/\match R with
 | none=>e=.returned (.tuple #[.slice none 0 0,.bool false])
 | some q=>∃ ob oc,e=.returned (.tuple #[.slice (some ⟨ob,0,none⟩) n oc,.bool true])/\w.heap.size<=ob/\kA w' ob n oc q
section
variable {w w1 w2 : World} {ob oc n : Nat} {r q : List aB}
theorem nR (hb:Below w.heap.size w w1) (h2:aG (· = ob) w1 w2) (hob:w.heap.size<=ob) (hr:kA w2 ob n oc q):lM w n (some q) (.returned (.tuple #[.slice (some ⟨ob,0,none⟩) n oc,.bool true])) w2 :=
 ⟨hb.trans (h2.below _ hb.size (fun k hk e=>by omega)),ob,oc,rfl,hob,hr⟩
theorem jC (hb:Below w.heap.size w w1) (h2:aG (· = ob) w1 w2) (hob:w.heap.size<=ob) (hr:kA w2 ob n oc r) {k:Nat}(hk:k<n) (lo hi:Int):lM w n (some (r.set k ⟨lo,hi⟩)) (.returned (.tuple #[.slice (some ⟨ob,0,none⟩) n oc,.bool true])) ((w2.setCell ⟨ob,k*2,none⟩ (.int .i64 lo)).setCell ⟨ob,k*2+1,none⟩ (.int .i64 hi)) :=
 nR hb (h2.trans (jX _ _ _ _ _ _)) hob (hr.set hk ⟨lo,hi⟩)
theorem jB (hb:Below w.heap.size w w1) (h2:aG (· = ob) w1 w2) (hob:w.heap.size<=ob):lM w n none (.returned (.tuple #[.slice none 0 0,.bool false])) w2:=⟨hb.trans (h2.below _ hb.size (fun k hk e=>by omega)),rfl⟩
end
theorem aH1 (op:Int) (a b:aB) (w:World) (h3:3<=op) (h9:op<=9) (ha:dL a) (hb:dL b) :
 Calls Tryz.prog 62 #[.int .i64 op,.agg #[.int .i64 a.lo,.int .i64 a.hi],.agg #[.int .i64 b.lo,.int .i64 b.hi]] w fun e w'=>∃ v,e=.returned v/\v=.tuple #[.agg #[.int .i64 (aS op a b).1.lo,.int .i64 (aS op a b).1.hi],.bool (aS op a b).2]/\Below w.heap.size w w' :=
 (aSx op a b w h3 h9 ha.2.2 hb.2.2 ha.1 ha.2.1 hb.1 hb.2.1).mono wP
theorem aSd (a:aB) (w:World) (ha:dL a) :
 Calls Tryz.prog 62 #[.int .i64 10,.agg #[.int .i64 a.lo,.int .i64 a.hi],.agg #[.int .i64 a.lo,.int .i64 a.hi]] w fun e w'=>∃ v,e=.returned v/\v=.tuple #[.agg #[.int .i64 (aS 10 a a).1.lo,.int .i64 (aS 10 a a).1.hi],.bool (aS 10 a a).2]/\Below w.heap.size w w' :=
 (aSv a w ha.2.2).mono wP
theorem zU (a b:aB) (w:World):Calls Tryz.prog 66 #[.agg #[.int .i64 a.lo,.int .i64 a.hi],.agg #[.int .i64 b.lo,.int .i64 b.hi]] w fun e w'=>∃ v,e=.returned v/\v=.tuple #[.agg #[.int .i64 (cZ a b).1.lo,.int .i64 (cZ a b).1.hi],.bool (cZ a b).2]/\Below w.heap.size w w' :=
 (qZ a b w).mono wP
def fN (a:aB):aB×Bool:=if a.lo=0/\a.hi=0 then(a,false)else(⟨if a.lo=0 then 1 else a.lo,if a.hi=0 then -1 else a.hi⟩,true)
theorem aE6 {a:aB}(h:a.lo<=a.hi):(fN a).2=(cB a).2/\((cB a).2=true->(fN a).1=(cB a).1):=by
 unfold fN cB;by_cases h0:a.lo=0/\a.hi=0
 ·rw[if_pos h0,if_pos h0.1,if_pos h0.2];simp
 ·rw[if_neg h0];refine⟨?_,fun _=>rfl⟩;symm;simp only[decide_eq_true_eq];split<;>split<;>omega
theorem aFw {a:aB}(h:mC a cO=false):(fN a).1=(cB a).1:=by
 unfold fN cB;rw[if_neg (fun e=>by simp[mC,cO,e.1,e.2]at h)]
theorem rW (a:aB) (w:World):Calls Tryz.prog 63 #[.agg #[.int .i64 a.lo,.int .i64 a.hi]] w fun e w'=>∃ v,e=.returned v/\v=.tuple #[.agg #[.int .i64 (fN a).1.lo,.int .i64 (fN a).1.hi],.bool (fN a).2]/\Below w.heap.size w w':=by
 obtain⟨lo,hi⟩:=a;unfold fN;dsimp only;by_cases h1:lo=0
 ·have q1:(lo==0)=true:=by simpa using h1
  by_cases h2:hi=0
  ·have q2:(hi==0)=true:=by simpa using h2
   subst h1;subst h2;go_enter Tryz.func63,Tryz.ntmps63;go_wp2
   all_goals refine bV (by rfl) (by rfl) (by rfl) aK si ?_
   all_goals exact⟨_,rfl,si,bel⟩
  ·have q2:(hi==0)=false:=by simpa using h2
   subst h1;go_enter Tryz.func63,Tryz.ntmps63;go_wp2
   all_goals refine bV (by rfl) (by rfl) (by rfl) aK si ?_
   all_goals exact⟨_,rfl,by simp[h2],bel⟩
 ·have q1:(lo==0)=false:=by simpa using h1
  by_cases h2:hi=0
  ·have q2:(hi==0)=true:=by simpa using h2
   subst h2;go_enter Tryz.func63,Tryz.ntmps63;go_wp2
   all_goals refine bV (by rfl) (by rfl) (by rfl) aK si ?_
   all_goals exact⟨_,rfl,by simp[h1],bel⟩
  ·have q2:(hi==0)=false:=by simpa using h2
   go_enter Tryz.func63,Tryz.ntmps63;go_wp2
   all_goals refine bV (by rfl) (by rfl) (by rfl) aK si ?_
   all_goals exact⟨_,rfl,by simp[h1,h2],bel⟩
end
theorem aJl (a b:Int):(a==b)=decide (a=b):=by rw[Bool.eq_iff_iff,beq_iff_eq,decide_eq_true_iff]
theorem nO (a b:Int):(a==b)=decide (b=a):=by rw[Bool.eq_iff_iff,beq_iff_eq,decide_eq_true_iff];exact eq_comm
theorem kA.low {W:World}{b n c:Nat}{r:List aB}(h:kA W b n c r) {i:Nat}(hi:i<n) {p:aB}(hp:r.getD i default=p) (lo:Int):kA (W.setCell ⟨b,i*2,none⟩ (.int .i64 lo)) b n c (r.set i ⟨lo,p.hi⟩):=by
 have hl:=h.row.len;have h1:=cH h (i*2) (.int .i64 lo);have e:=mV r i ⟨lo,p.hi⟩ oz;have e2:(bL r)[i*2+1]? = some (.int .i64 p.hi):=by
  rw[fZ _ _ _ (by omega),List.getElem?_eq_getElem (by omega)];have:r[i]'(oz)=p:=by rw[<-hp,List.getD_eq_getElem?_getD,List.getElem?_eq_getElem (by omega)];rfl
  rw[this];rfl
 have e3:((bL r).set (i*2) (.int .i64 lo)).set (i*2+1) (.int .i64 p.hi)=(bL r).set (i*2) (.int .i64 lo):=by
  apply List.ext_getElem?;intro j;by_cases hj:j=i*2+1
  ·subst hj;have:=fT r;rw[List.getElem?_set_self (by rw[List.length_set];omega),List.getElem?_set_ne (by omega),e2]
  ·rw[List.getElem?_set_ne (by omega)]
 dsimp only at e;rw[e3]at e;unfold kA;rw[<-e];exact h1
theorem aQj {r:List aB}{i:Nat}{lo hi:Int}(h:r.getD i default=⟨lo,hi⟩):r.set i ⟨lo,hi⟩=r:=by
 apply List.ext_getElem?;intro j;by_cases hj:i=j
 ·subst hj;by_cases hl:i<r.length
  ·rw[List.getElem?_set_self hl,List.getElem?_eq_getElem hl,<-h,List.getD_eq_getElem?_getD,List.getElem?_eq_getElem hl];rfl
  ·rw[List.set_eq_of_length_le (by omega)]
 ·rw[List.getElem?_set_ne hj]
theorem aL2 (a b:aB) (w:World) (ha:dL a) (hb:dL b):Calls Tryz.prog 67 #[.agg #[.int .i64 a.lo,.int .i64 a.hi],.agg #[.int .i64 b.lo,.int .i64 b.hi]] w fun e w'=>∃ v,e=.returned v/\v=.tuple #[.agg #[.int .i64 (eP a b).1.lo,.int .i64 (eP a b).1.hi],.agg #[.int .i64 (eP a b).2.1.lo,.int .i64 (eP a b).2.1.hi],.bool (eP a b).2.2]/\Below w.heap.size w w' :=
 (aGi a b w ha.2.2 hb.2.2 ha.1 hb.2.1).mono wP
theorem zJ {r:List aB}{b:Nat}{ps:List aB}:∀ {k:Nat}{q:List aB},dN r b ps k=some q->q.length=r.length/\∀ j,b+k<=j->q.getD j default=r.getD j default
 | 0,q,h=>by cases h;exact⟨rfl,fun _ _=>rfl⟩
 | k+1,q,h=>by
  simp only[dN,Option.bind_eq_some_iff]at h;obtain⟨p,hp,h⟩:=h;obtain⟨h1,h2⟩:=zJ hp;split at h
  ·cases h;unfold fQ;refine⟨by simpa using h1,fun j hj=>?_⟩;rw[<-h2 j (by omega)];simp only[List.getD_eq_getElem?_getD];rw[List.getElem?_set_ne (by omega)]
  ·cases h
theorem aH0 {r q:List aB}{b k:Nat}{ps:List aB}(h:dN r b ps k=some q):dN r b ps (k+1)=if(cZ (r.getD (b+k) default) (ps.getD k default)).2 then some (q.set (b+k) (cZ (r.getD (b+k) default) (ps.getD k default)).1)else none:=by
 simp only[dN,h,Option.bind_some,fQ,(zJ h).2 (b+k) lr]
theorem yX {r:List aB}{b:Nat}{ps:List aB}{k:Nat}(h:dN r b ps k=none):∀ d,dN r b ps (k+d)=none
 | 0=>h
 | d+1=>by rw[<-Nat.add_assoc];simp only[dN,yX h d,Option.bind_none]
def aEx (n words:Int):Int:=if cU (0-n+(words-1))then 0-n+(words-1)else 9223372036854775807
def zC (a:aB) (n words:Int):aB×Bool:=if cU (0-n)=false\/words<1 then(⟨0,0⟩,false)else cZ a ⟨0-n,aEx n words⟩
theorem aSm {a:aB}{n words:Int}(hn:aM n) (h0:0<=words) (h1:words<=4096):(if(fJ n words).2=false then(⟨0,0⟩,false)else cZ a (fJ n words).1)=zC a n words:=by
 unfold aM at hn;unfold zC aEx cU fJ;by_cases h:n = -9223372036854775808
 ·subst h;simp
 ·rw[if_neg h];have e1:wrap64 (-n)=0-n:=by unfold wrap64;omega
  have f1:(decide (-9223372036854775808<=0-n)&&decide (0-n<=9223372036854775807))=true:=by simp;omega
  rw[e1,f1];by_cases h2:words<1
  ·have e2:kB n words=wrap64 (wrap64 (words-1)-n):=by unfold kB;rw[if_neg (by omega)]
   have e3:decide (0-n<=kB n words)=false:=by rw[decide_eq_false_iff_not,e2];unfold wrap64;omega
   rw[if_pos e3,if_pos (.inr h2)]
  ·have e2:kB n words=if(decide (-9223372036854775808<=0-n+(words-1))&&decide (0-n+(words-1)<=9223372036854775807))=true then 0-n+(words-1)else 9223372036854775807:=by
    unfold kB;by_cases h3:0-n+(words-1)<=9223372036854775807
    ·rw[if_neg (by rw[e1];unfold wrap64;omega),if_pos (by simp;omega)];unfold wrap64;omega
    ·rw[if_pos (by rw[e1];unfold wrap64;omega),if_neg (by simp;omega)]
   have e3:decide (0-n<=kB n words)=true:=by rw[decide_eq_true_iff,e2];split<;>omega
   rw[if_neg (show ¬decide (0-n<=kB n words)=false by rw[e3];simp),if_neg (show ¬(true=false\/words<1) by simp;omega),e2]
theorem aUs {p:Prop}(h:p:=by
 subst hr;clear HR HH HM HS;go_enter Tryz.func64,Tryz.ntmps64;go_wp2_with (first|(go_at_call 99;refine(HL.out _).mono ?_;intro e w9 hO9;obtain⟨rfl,h9'⟩:=hO9;have h8':=h9'.symm;subst h8')|fail)
 all_goals refine bV (by rfl) (by rfl) (by rfl) aK si ?_
 all_goals exact⟨_,rfl,rfl,bel⟩):p:=h
theorem aUb {p:Prop}(h:p:=by
 subst hh';go_enter Tryz.func64,Tryz.ntmps64;go_wp2_with (first|(go_at_call 99;refine(HL.out _).mono ?_;intro e w9 hO9;obtain⟨rfl,h9'⟩:=hO9;have h8':=h9'.symm;subst h8')|(go_at_call 77;refine(HS2.out _).mono ?_;intro e w9 hO9;obtain⟨rfl,h9'⟩:=hO9;have h8':=h9'.symm;subst h8')|fail)
 all_goals(refine(HM.out _).mono ?_;rintro e w1 ⟨rfl,hb1⟩;have o1:aF w1 (w.heap.size+1) [_,_]:=aK;have q1:=aD o1;have q2:=cQ o1)
 all_goals go_wp2
 all_goals refine bV (by rfl) (by rfl) (by rfl) aK si ?_
 all_goals exact⟨_,rfl,rfl,bel⟩):p:=h
theorem aM5 (a:aB) (n words:Int) (w:World) (hn:aM n) (h0:0<=words) (h1:words<=4096):Calls Tryz.prog 64 #[.agg #[.int .i64 a.lo,.int .i64 a.hi],.int .i64 n,.int .i64 words] w fun e w'=>∃ v,e=.returned v/\v=.tuple #[.agg #[.int .i64 (zC a n words).1.lo,.int .i64 (zC a n words).1.hi],.bool (zC a n words).2]/\Below w.heap.size w w':=by
 obtain⟨lo,hi⟩:=a;have HL:=qd (fun w=>mA 0 n w pW hn (cU (0-n)) rfl);have hwk:IntKind.i64.wrap (words-1)=words-1:=IntWalk.i64_in _ oz;have HS:=qd (fun w (h:cU (0-n)=true)=>qE (0-n) (words-1) w (aJz h) pW (cU (0-n+(words-1))) rfl);have HM:=qd (fun w=>qZ ⟨lo,hi⟩ ⟨0-n,aEx n words⟩ w);obtain⟨R,hR⟩:∃ R,zC ⟨lo,hi⟩ n words=R:=⟨_,rfl⟩
 rw[hR];have HH:Hid (aEx n words=if cU (0-n+(words-1))then 0-n+(words-1)else 9223372036854775807):=qd rfl;unfold zC at hR;have HR:=qd hR;clear hR hn h0 h1;generalize cU (0-n)=b1 at *;generalize aEx n words=hh at *;generalize cU (0-n+(words-1))=b2 at *;generalize cZ ⟨lo,hi⟩ ⟨0-n,hh⟩=mq at *;unfold aJ at HM;generalize 0-n=ng at *;obtain⟨⟨mlo,mhi⟩,mb⟩:=mq;dsimp only at HM;cases b1
 ·have hr:=HR.out;rw[if_pos (.inl rfl)]at hr;exact aUs
 ·by_cases h2:words<1
  ·have hr:=HR.out;rw[if_pos (.inr h2)]at hr;exact aUs
  ·have hr:=HR.out;rw[if_neg (by simp;omega)]at hr;subst hr;have HS2:=qd (fun w=>HS.out w rfl);have hh':=HH.out;clear HR HH HS;cases b2
   ·rw[if_neg (by simp)]at hh';exact aUb
   ·rw[if_pos rfl]at hh';exact aUb
theorem xU {B:Nat}{hh:HF}{f:aC}{frm:Nat}{w:World}(hf:aZ B w hh f) (hfl:frm<f.code.length):aM (f.code.getD frm default).n:=by
 obtain⟨pa,pl,pc,ca,cl,cc⟩:=hh;obtain⟨h1,h2,⟨hcl,hcm,cb,co,hcb,hcells⟩,h4,h5⟩:=hf;dsimp only at *;subst hcl;exact(hcells frm hfl).2.2.2.2.2
section
structure PSd where
 inn:List aB
 chg:List Int
 mrk:Bool
 jn:Int
def qD (thr:List Int) (d:PSd) (next:List aB):PSd :=
 if d.inn=[]then { d with inn:=next,mrk:=true }
 else if qI d.inn next then { inn:=fX thr (wrap64 (d.jn+1)) d.inn next,chg:=uE d.inn next d.chg,mrk:=true,jn:=wrap64 (d.jn+1) }
 else d
structure gI (W:World) (k:Nat) (iv:Option (Nat×Nat)) (cb cc regs:Nat) (d:PSd):Prop where
 st:aF W k [jF regs iv,.bool d.mrk,.int .i64 d.jn,.slice (some ⟨cb,0,none⟩) regs cc]
 ei:(iv=none/\d.inn=[])\/∃ b c,iv=some (b,c)/\kA W b regs c d.inn/\b≠k/\b≠cb
 ec:W.ownsRow 0 3 1 (.slice (some ⟨cb,0,none⟩) regs cc) regs (aR d.chg)
 kc:cb≠k
def sdS (k:Nat) (iv:Option (Nat×Nat)) (cb:Nat) (x:Nat):Prop:=x=k\/x=cb\/∃ c,iv=some (x,c)
section
variable {W W' : World} {k cb cc regs : Nat} {iv : Option (Nat × Nat)} {d : PSd} {S : Nat -> Prop}
theorem gI.chg (h:gI W k iv cb cc regs d) (hc:aG S W W') (hs:∀ x,sdS k iv cb x->¬S x):gI W' k iv cb cc regs d:=by
 refine⟨hc.own h.st (hs k (.inl rfl)),?_,aT hc h.ec (hs cb (.inr (.inl rfl))),h.kc⟩;rcases h.ei with h0|⟨b,c,h1,h2,h3⟩
 ·exact .inl h0
 ·exact .inr ⟨b,c,h1,aT hc h2 (hs b (.inr (.inr ⟨c,h1⟩))),h3⟩
theorem gI.below (h:gI W k iv cb cc regs d) (hc:Below W.heap.size W W'):gI W' k iv cb cc regs d:=h.chg (S:=fun _=>False) (aG.of hc) (fun _ _ e=>e)
theorem gI.setK (h:gI W k iv cb cc regs d) {i:Nat}{v:Value}{d':PSd}(hd:d'.inn=d.inn/\d'.chg=d.chg) (hl:[jF regs iv,.bool d.mrk,.int .i64 d.jn,.slice (some ⟨cb,0,none⟩) regs cc].set i v=[jF regs iv,.bool d'.mrk,.int .i64 d'.jn,.slice (some ⟨cb,0,none⟩) regs cc]) (hi:i<4):gI (W.setCell ⟨k,i,none⟩ v) k iv cb cc regs d':=by
 have hc:aG (· = k) W (W.setCell ⟨k,i,none⟩ v):=aG.setCell (S:=(· = k)) (aG.refl _ _) (p:=⟨k,i,none⟩) (Or.inl rfl) _;refine⟨?_,?_,?_,h.kc⟩
 ·rw[<-hl];exact h.st.set i v hi
 ·rcases h.ei with h0|⟨b,c,h1,h2,h3⟩
  ·exact .inl ⟨h0.1,hd.1.trans h0.2⟩
  ·exact .inr ⟨b,c,h1,by rw[hd.1];exact aT hc h2 h3.1,h3⟩
 ·rw[hd.2];exact aT hc h.ec h.kc
theorem gI.setM (h:gI W k iv cb cc regs d) (b:Bool):gI (W.setCell ⟨k,1,none⟩ (.bool b)) k iv cb cc regs { d with mrk:=b }:=h.setK ⟨rfl,rfl⟩ rfl dc
theorem gI.setJ (h:gI W k iv cb cc regs d) (j:Int):gI (W.setCell ⟨k,2,none⟩ (.int .i64 j)) k iv cb cc regs { d with jn:=j }:=h.setK ⟨rfl,rfl⟩ rfl dc
theorem gI.setC (h:gI W k iv cb cc regs d) (i:Nat) (x:Int):gI (W.setCell ⟨cb,i,none⟩ (.int .i64 x)) k iv cb cc regs { d with chg:=d.chg.set i x }:=by
 have hc:aG (· = cb) W (W.setCell ⟨cb,i,none⟩ (.int .i64 x)):=aG.setCell (S:=(· = cb)) (aG.refl _ _) (p:=⟨cb,i,none⟩) (Or.inl rfl) _;refine⟨hc.own h.st (fun e=>h.kc e.symm),?_,?_,h.kc⟩
 ·rcases h.ei with h0|⟨b,c,h1,h2,h3⟩
  ·exact .inl h0
  ·exact .inr ⟨b,c,h1,aT hc h2 h3.2,h3⟩
 ·have:=cH h.ec i (.int .i64 x)
  rwa [tP]at this
theorem gI.setS {b c:Nat}(h:gI W k iv cb cc regs d) (hv:iv=some (b,c)) {i:Nat}(hi:i<regs) (p:aB):gI ((W.setCell ⟨b,i*2,none⟩ (.int .i64 p.lo)).setCell ⟨b,i*2+1,none⟩ (.int .i64 p.hi)) k iv cb cc regs { d with inn:=d.inn.set i p }:=by
 have hc:=jX W b (i*2) (i*2+1) (.int .i64 p.lo) (.int .i64 p.hi);rcases h.ei with h0|⟨b',c',h1,h2,h3⟩
 ·rw[hv]at h0;exact absurd h0.1 si
 ·obtain⟨rfl,rfl⟩:b=b'/\c=c':=by rw[hv]at h1;simpa using h1
  exact⟨hc.own h.st (fun e=>h3.1 e.symm),.inr ⟨b,c,hv,h2.set hi p,h3⟩,aT hc h.ec (fun e=>h3.2 e.symm),h.kc⟩
theorem gI.setI {b c:Nat}{next:List aB}(h:gI W k iv cb cc regs d) (hr:kA W b regs c next) (h1:b≠k) (h2:b≠cb):gI (W.setCell ⟨k,0,none⟩ (.slice (some ⟨b,0,none⟩) regs c)) k (some (b,c)) cb cc regs { d with inn:=next }:=by
 have hc:aG (· = k) W (W.setCell ⟨k,0,none⟩ (.slice (some ⟨b,0,none⟩) regs c)):=aG.setCell (S:=(· = k)) (aG.refl _ _) (p:=⟨k,0,none⟩) (Or.inl rfl) _;exact⟨h.st.set 0 _ si,.inr ⟨b,c,rfl,aT hc hr h1,h1,h2⟩,aT hc h.ec h.kc,h.kc⟩
theorem gI.inn {b c:Nat}(h:gI W k iv cb cc regs d) (hv:iv=some (b,c)):kA W b regs c d.inn/\b≠k/\b≠cb:=by
 rcases h.ei with h0|⟨b',c',h1,h2⟩
 ·rw[hv]at h0;exact absurd h0.1 si
 ·obtain⟨rfl,rfl⟩:b=b'/\c=c':=by rw[hv]at h1;simpa using h1
  exact h2
end
theorem uC (a b:aB) (w:World):Calls Tryz.prog 30 #[.agg #[.int .i64 a.lo,.int .i64 a.hi],.agg #[.int .i64 b.lo,.int .i64 b.hi]] w fun e w'=>e=.returned (.agg #[.int .i64 (cJ a b).lo,.int .i64 (cJ a b).hi])/\Below w.heap.size w w':=aK2 a b w
end
theorem aKe (a b:aB) (thr:List Int) (ta:Option Addr) (tl tc:Nat) (w:World) (ha:a.lo<=a.hi) (hb:b.lo<=b.hi) (ht:cI w.heap.size w ta tl thr):Calls Tryz.prog 95 #[.agg #[.int .i64 a.lo,.int .i64 a.hi],.agg #[.int .i64 b.lo,.int .i64 b.hi],.slice ta tl tc] w fun e w'=>e=.returned (.agg #[.int .i64 (gY a b thr).lo,.int .i64 (gY a b thr).hi])/\Below w.heap.size w w':=aHr a b thr ta tl tc w ha hb ht
def aHi (N k:Nat) (iv:Option (Nat×Nat)) (cb cc regs:Nat) (d':PSd) (w:World) (e:Ending) (w':World):Prop:=e=.returned (.tuple #[])/\∃ iv',gI w' k iv' cb cc regs d'/\aG (sdS k iv cb) w w'/\(iv'=iv\/∃ b c,iv'=some (b,c)/\w.heap.size<=b)
theorem aUd {p:Prop}(h:p:=by
 repeat(refine aU (fun K hK=>?_);go_simp;refine hK _ ?_;clear hK K)
 refine gX (fun t=>?_);have hft:=hF t;go_wp2;refine⟨⟨q+1,oz,si,qd (by rw[HST.out];exact(H.out.below hft).setS rfl hkt ⟨jlo,jhi⟩),qd (aT (jX _ _ _ _ _ _) (aA hft HR.out) hbo),(HC.out.trans (aG.of hft)).trans (aG.setCell (aG.setCell (aG.refl _ _) (.inl (.inr (.inr ⟨oc,rfl⟩))) _) (.inl (.inr (.inr ⟨oc,rfl⟩))) _)⟩,?_⟩;go_light;exact ml):p:=h
theorem aG8 (N k:Nat) (iv:Option (Nat×Nat)) (cb cc regs:Nat) (d:PSd) (thr:List Int) (ta:Option Addr) (tl tc b c:Nat) (next:List aB) (w:World) (h:gI w k iv cb cc regs d) (hr:kA w b regs c next) (hb:¬sdS k iv cb b) (hN:∀ x,sdS k iv cb x->N<=x) (hNw:N<=w.heap.size) (ht:cI N w ta tl thr) (h1:1<=regs) (h64:regs<=64) (hold:d.inn=[]\/gU regs d.inn) (hnx:gU regs next) (hcl:d.chg.length=regs) :
 Calls Tryz.prog 60 #[.pointer (some ⟨k,0,none⟩),.slice (some ⟨b,0,none⟩) regs c,.slice ta tl tc] w (aHi N k iv cb cc regs (qD thr d next) w):=by
 obtain⟨old,ch,mk,jv0⟩:=d;dsimp only at *;have H:=qd h;have HR:=qd hr;obtain⟨s0,s1,s2,s3,s4,s5,s6,s7,s8⟩:=hU h.st;rcases h.ei with⟨rfl,i2⟩|⟨ob,oc,rfl,i2,i3⟩
 ·have hm:qD thr ⟨old,ch,mk,jv0⟩ next=⟨next,ch,true,jv0⟩:=by unfold qD;dsimp only;rw[if_pos i2]
  rw[hm];unfold jF at s1;dsimp only at s1;have T0:(w.alloc (.cells #[] 47)).ownsRow 0 47 2 (.slice (some ⟨w.heap.size,0,none⟩) 0 0) 0 []:=eE w _ 2 rfl;have hbA:Below w.heap.size w (w.alloc (.cells #[] 47)):=eN;have hks:k<w.heap.size:=h.st.1;clear h hr ht hold hnx hcl i2;go_enter Tryz.func60,Tryz.ntmps60;go_wp2_with (first|(at_builtin;refine dD rfl (.tmp 16) (.tmp 17) 39 47 2 16 (.agg #[.int .i64 0,.int .i64 0]) rfl Tryz.underlying39 Tryz.infoSp rfl dc (.slice (some ⟨w.heap.size,0,none⟩) 0 0) 0 [] rfl T0 (.slice (some ⟨b,0,none⟩) regs c) regs (bL next) rfl (aA hbA HR.out) (fun h=>absurd h oz) (gL next) bH oz ?_;intro vo w1 hr1 hc9 hg1;rw[Nat.zero_add,List.nil_append]at hr1;have hcT:aG (fun k=>k=w.heap.size) w w1:=(aG.of hbA).trans (hc9.mono fun k _ hk=>by have e:w.heap.size=k:=eL hk;exact e.symm);have hg2:∀ j,vo.ownBlock=some j->w.heap.size<=j:=(fun j hj=>by rcases hg1 j hj with e|e;exact Nat.le_of_eq (eL e);have:=hbA.size;omega);obtain⟨nb,nc,rfl,hoc1,hoc2,hol⟩:=bB hr1 oz;have hnb:=hg2 nb rfl;have H1:=qd (H.out.chg hcT (fun x hx e=>by subst e;rcases hx with hx|hx|⟨c,hx⟩;omega;(have:=bJ H.out.ec;omega);cases hx));have st1:=hU H1.out.st;clear s0 s1 s2 s3 s4 s5 s6 s7 s8)|fail)
  go_end0
  go_light;have hcb:=bJ H.out.ec;refine⟨rfl,some (nb,nc),(H1.out.setI hr1 oz oz).setM true,?_,.inr ⟨nb,nc,rfl,hnb⟩⟩;refine aG.setCell (aG.setCell ?_ (.inl (.inl rfl)) _) (.inl (.inl rfl)) _;exact aG.of (hcT.below _ lr (fun k hk e=>by omega))
 ·have hol:old.length=regs:=i2.row.len;have hne:old≠[]:=fun e=>by rw[e]at hol;simp at hol;omega
  have hOk:gU regs old:=by
   rcases hold with h0|h0
   ·exact absurd h0 hne
   ·exact h0
  have hm:qD thr ⟨old,ch,mk,jv0⟩ next=if lO old next regs then⟨iO thr (wrap64 (jv0+1)) old next regs,eW old next ch regs,true,wrap64 (jv0+1)⟩else⟨old,ch,mk,jv0⟩:=by
   unfold qD;dsimp only;rw[if_neg hne];have e1:qI old next=lO old next regs:=by rw[<-hol];rfl
   have e2:iO thr (wrap64 (jv0+1)) old next regs=fX thr (wrap64 (jv0+1)) old next:=by rw[<-hol];exact aCc _ _ _ _
   have e3:eW old next ch regs=uE old next ch:=by rw[<-hol];rfl
   rw[e1,e2,e3]
  obtain⟨RES,hRES⟩:∃ q,q=qD thr ⟨old,ch,mk,jv0⟩ next:=⟨_,rfl⟩
  rw[<-hRES];have HRES:=qd (hRES.trans hm);clear hRES hm;unfold jF at s1;dsimp only at s1;have H0:Hid (gI w k (some (ob,oc)) cb cc regs ⟨old,eW old next ch 0,mk,jv0⟩):=qd (by rw[sH];exact h);have HOL:=qd hOk;have HNX:=qd hnx;have HT:=qd ht;have HNS:=qd hN;have HCL:=qd hcl;have HIL:=qd hol;have hbk:b≠k:=fun e=>hb (.inl e);have hbc:b≠cb:=fun e=>hb (.inr (.inl e));have hbo:b≠ob:=fun e=>hb (.inr (.inr ⟨oc,by rw[e]⟩));have hreg:¬regs=0:=oz
  clear h hr hnx ht hold i2 hOk hb hN hol hcl hne;go_enter Tryz.func60,Tryz.ntmps60;go_upto_region 5 with(fail)
  go_loopw [6,7] (fun v9 i wr=>∃ j:Nat,j<=regs/\i=.int .i64 j/\v9=.bool (lO old next j)/\Hid (gI wr k (some (ob,oc)) cb cc regs ⟨old,eW old next ch j,mk,jv0⟩)/\Hid (kA wr b regs c next)/\aG (sdS k (some (ob,oc)) cb) w wr) (fun _ i _=>regs-(intOf i).toNat)
  case atStart=>exact⟨0,Nat.zero_le _,rfl,rfl,H0,HR,aG.refl _ _⟩
  case round =>
   clear H0 H HR s0 s1 s2 s3 s4 s5 s6 s7 s8 hreg;obtain⟨j,hj,rfl,rfl,H,HR,hC⟩:=hrel;have hzr:=hC.size;obtain⟨s0,s1,s2,s3,s4,s5,s6,s7,s8⟩:=hU H.out.st;unfold jF at s1;dsimp only at s1;by_cases hjt:j<regs
   ·have d3:(j:Int)<(regs:Int):=oz
    have hwj:IntKind.i64.wrap ((j:Int)+1)=(j:Int)+1:=IntWalk.i64_in _ oz;obtain⟨oR,-⟩:=H.out.inn rfl;dsimp only at oR;obtain⟨o0,o1,-,-⟩:=oR.row.cells hjt;obtain⟨n0,n1,-,-⟩:=HR.out.row.cells hjt;have hcc:=H.out.ec;dsimp only at hcc;have gj:(eW old next ch j)[j]? = some (ch.getD j 0):=by
     have hlen:(eW old next ch j).length=regs:=by unfold eW;simp;exact HCL.out
     rw[<-aFe old next ch (j:=j) (by have:=HCL.out;omega),List.getD_eq_getElem?_getD,List.getElem?_eq_getElem (by omega)];rfl
    have c0:=aH hcc (aV gj);have c1:=hcc.frozenAt j;have hoL:=oR.row.lt;have hnL:=HR.out.row.lt;have hcbL:=bJ hcc;have HJ:=qd (fun w=>uC (old.getD j default) (next.getD j default) w);have hgr:lE (old.getD j default) (next.getD j default) = !(decide ((cJ (old.getD j default) (next.getD j default)).lo=(old.getD j default).lo)&&decide ((cJ (old.getD j default) (next.getD j default)).hi=(old.getD j default).hi)):=rfl;have hcy:=qd (fun h=>aCh old next ch (j:=j) (by have:=HCL.out;omega) h);have hcn:=qd (fun h=>aAo old next ch (j:=j) h);have hsm:=pV old next j
    obtain⟨cj,hcj⟩:∃ x,ch.getD j 0=x:=⟨_,rfl⟩
    rw[hcj]at c0 hcy;clear hcj gj hcc;have HC:=qd hC;clear oR hC;generalize cJ (old.getD j default) (next.getD j default)=jo at *;generalize lE (old.getD j default) (next.getD j default)=gr at *;obtain⟨jlo,jhi⟩:=jo;generalize old.getD j default=po at *;generalize next.getD j default=pn at *;obtain⟨olo,ohi⟩:=po;obtain⟨nlo,nhi⟩:=pn;dsimp only at o0 o1 n0 n1 HJ hgr;cases gr
    case false =>
     have hgr2:jlo=olo/\jhi=ohi:=by simpa using hgr.symm
     obtain⟨rfl,rfl⟩:=hgr2;have hcn2:=hcn.out rfl;rw[Bool.or_false]at hsm;have HCN:=qd hcn2;have HSM:=qd hsm;clear hcn hcy hgr hcn2 hsm;go_upto_region 7 with(fail)
     refine bI 19 kr kr (fun T F hF hall=>?_);simp only[TD];have hFc:=fun t=>(bT (hF t)).1;have hFf:=fun t=>(bT (hF t)).2;have hFs:=fun t=>(hF t).size;have hNE:Nonempty T:=(hall _ (Below.refl _ _)).elim fun t _=>⟨t⟩;repeat(refine aU (fun K hK=>?_);go_simp;refine hK _ ?_;clear hK K)
     (refine aU (fun K hK=>?_);go_simp;refine⟨_,fun t=>bE (hF t) hall (HJ.out (F t)),hK _ ?_⟩;clear hK K)
     repeat(refine aU (fun K hK=>?_);go_simp;refine hK _ ?_;clear hK K)
     refine gX (fun t=>?_);have hft:=hF t;go_wp2;refine⟨⟨j+1,oz,si,by rw[HSM.out],qd (by rw[HCN.out];exact H.out.below hft),qd (aA hft HR.out),HC.out.trans (aG.of hft)⟩,?_⟩;go_light;exact ml
    case true =>
     have hgr2:¬(jlo=olo/\jhi=ohi):=fun⟨e1,e2⟩=>by subst e1;subst e2;simp at hgr
     have hcy2:=hcy.out rfl;rw[Bool.or_true]at hsm;have HCN:=qd hcy2;have HSM:=qd hsm;clear hcn hcy hgr hcy2 hsm;go_upto_region 7 with(fail)
     refine bI 19 kr kr (fun T F hF hall=>?_);simp only[TD];have hFc:=fun t=>(bT (hF t)).1;have hFf:=fun t=>(bT (hF t)).2;have hFs:=fun t=>(hF t).size;have hNE:Nonempty T:=(hall _ (Below.refl _ _)).elim fun t _=>⟨t⟩;repeat(refine aU (fun K hK=>?_);go_simp;refine hK _ ?_;clear hK K)
     (refine aU (fun K hK=>?_);go_simp;refine⟨_,fun t=>bE (hF t) hall (HJ.out (F t)),hK _ ?_⟩;clear hK K)
     repeat(refine aU (fun K hK=>?_);go_simp;refine hK _ ?_;clear hK K)
     refine gX (fun t=>?_);have hft:=hF t;go_wp2
     all_goals refine⟨⟨j+1,oz,si,by rw[HSM.out],qd (by rw[HCN.out];exact(H.out.below hft).setC j _),qd (aT (jP _ _ _ _) (aA hft HR.out) hbc),(HC.out.trans (aG.of hft)).trans (aG.setCell (aG.refl _ _) (.inl (.inr (.inl rfl))) _)⟩,?_⟩
     all_goals go_light
     all_goals first|omega|(simp only[intOf];omega)
   ·have hjj:j=regs:=oz
    subst hjj;have d3:¬(j:Int)<(j:Int):=oz
    cases hsr:lO old next j
    ·have hres:RES=⟨old,ch,mk,jv0⟩:=by rw[HRES.out,hsr];rfl
     have HCE:=qd (sB old next ch j hsr);have HRE:=qd hres;have HC:=qd hC;clear hres hC;go_wp2
     go_end0
     go_light;refine⟨rfl,some (ob,oc),?_,HC.out,.inl rfl⟩;rw[HRE.out];have h9:=H.out;rw[HCE.out]at h9;exact h9
    ·have hres:RES=⟨iO thr (wrap64 (jv0+1)) old next j,eW old next ch j,true,wrap64 (jv0+1)⟩:=by rw[HRES.out,hsr];rfl
     obtain⟨jv,hjw⟩:∃ x,wrap64 (jv0+1)=x:=⟨_,rfl⟩
     have hjw':IntKind.i64.wrap (jv0+1)=jv:=by rw[<-oG];exact hjw
     rw[hjw]at hres;have HRE:=qd hres;have hC2:aG (sdS k (some (ob,oc)) cb) w ((wr.setCell ⟨k,1,none⟩ (.bool true)).setCell ⟨k,2,none⟩ (.int .i64 jv)):=(hC.trans (aG.setCell (aG.refl _ _) (.inl (.inl rfl)) _)).trans (aG.setCell (aG.refl _ _) (.inl (.inl rfl)) _);have H2:Hid (gI ((wr.setCell ⟨k,1,none⟩ (.bool true)).setCell ⟨k,2,none⟩ (.int .i64 jv)) k (some (ob,oc)) cb cc j ⟨iO thr jv old next 0,eW old next ch j,true,jv⟩):=qd (by rw[aAz];exact(H.out.setM true).setJ jv);have HR2:Hid (kA ((wr.setCell ⟨k,1,none⟩ (.bool true)).setCell ⟨k,2,none⟩ (.int .i64 jv)) b j c next):=qd (aT (jP _ _ _ _) (aT (jP _ _ _ _) HR.out hbk) hbk);clear hres HRES hjw;obtain⟨wA,hwA⟩:∃ wA:World,wA=wr:=⟨_,rfl⟩
     subst hwA;go_upto_region 14 with(fail)
     go_loopw [8] (fun i wr=>∃ q:Nat,q<=j/\i=.int .i64 q/\Hid (gI wr k (some (ob,oc)) cb cc j ⟨iO thr jv old next q,eW old next ch j,true,jv⟩)/\Hid (kA wr b j c next)/\aG (sdS k (some (ob,oc)) cb) w wr) (fun i _=>j-(intOf i).toNat)
     case atStart=>exact⟨0,Nat.zero_le _,rfl,H2,HR2,hC2⟩
     case round =>
      clear H2 H HR HR2 hC hC2 s0 s1 s2 s3 s4 s5 s6 s7 s8 hzr hjw';obtain⟨q,hq,rfl,H,HR,hC⟩:=hrel;have hzr:=hC.size;obtain⟨s0,s1,s2,s3,s4,s5,s6,s7,s8⟩:=hU H.out.st;unfold jF at s1;dsimp only at s1;by_cases hkt:q<j
      ·have d3:(q:Int)<(j:Int):=oz
       have hwj:IntKind.i64.wrap ((q:Int)+1)=(q:Int)+1:=IntWalk.i64_in _ oz;obtain⟨oR,-⟩:=H.out.inn rfl;dsimp only at oR;obtain⟨o0,o1,o2,o3⟩:=oR.row.cells hkt;have hil:=HIL.out;rw[aFl thr jv old next (by omega)]at o0 o1;obtain⟨n0,n1,-,-⟩:=HR.out.row.cells hkt;have hoL:=oR.row.lt;have hnL:=HR.out.row.lt;have hst:=yY thr jv old next (j:=q) oz
       have hpo:=HOL.out.2 q hkt;have hpn:=HNX.out.2 q hkt;have HC:=qd hC;have HJ:=qd (fun w=>uC (old.getD q default) (next.getD q default) w);have HWd:=qd (fun w h=>aKe (old.getD q default) (next.getD q default) thr ta tl tc w hpo.2.2 hpn.2.2 h);have HUP:=qd (fun w' (hw:Below wr.heap.size wr w')=>((HT.out.same (hC.same (B:=N) hNw (fun x hx e=>absurd (HNS.out x e) oz))).same (aQ.of' (hw.mono oz))).monoB (show N<=w'.heap.size by have:=hw.size;omega));unfold gR at hst;clear oR hpo hpn hil hC;by_cases h4:4<jv
       ·rw[if_pos h4]at hst;have HST:=qd hst;clear hst HJ;generalize gY (old.getD q default) (next.getD q default) thr=jo at *;obtain⟨jlo,jhi⟩:=jo;generalize old.getD q default=po at *;generalize next.getD q default=pn at *;obtain⟨olo,ohi⟩:=po;obtain⟨nlo,nhi⟩:=pn;dsimp only at o0 o1 n0 n1 HWd;go_upto_region 17 with(fail)
        refine bI 18 kr kr (fun T F hF hall=>?_);simp only[TD];have hFc:=fun t=>(bT (hF t)).1;have hFf:=fun t=>(bT (hF t)).2;have hFs:=fun t=>(hF t).size;have hNE:Nonempty T:=(hall _ (Below.refl _ _)).elim fun t _=>⟨t⟩;repeat(refine aU (fun K hK=>?_);go_simp;refine hK _ ?_;clear hK K)
        (refine aU (fun K hK=>?_);go_simp;refine⟨_,fun t=>bE (hF t) hall (HWd.out (F t) (HUP.out _ (hF t))),hK _ ?_⟩;clear hK K)
        exact aUd
       ·rw[if_neg h4]at hst;have HST:=qd hst;clear hst HWd HUP;generalize cJ (old.getD q default) (next.getD q default)=jo at *;obtain⟨jlo,jhi⟩:=jo;generalize old.getD q default=po at *;generalize next.getD q default=pn at *;obtain⟨olo,ohi⟩:=po;obtain⟨nlo,nhi⟩:=pn;dsimp only at o0 o1 n0 n1 HJ;go_upto_region 18 with(fail)
        refine bI 17 kr kr (fun T F hF hall=>?_);simp only[TD];have hFc:=fun t=>(bT (hF t)).1;have hFf:=fun t=>(bT (hF t)).2;have hFs:=fun t=>(hF t).size;have hNE:Nonempty T:=(hall _ (Below.refl _ _)).elim fun t _=>⟨t⟩;repeat(refine aU (fun K hK=>?_);go_simp;refine hK _ ?_;clear hK K)
        (refine aU (fun K hK=>?_);go_simp;refine⟨_,fun t=>bE (hF t) hall (HJ.out (F t)),hK _ ?_⟩;clear hK K)
        exact aUd
      ·have hkj:q=j:=oz
       subst hkj;have d4:¬(q:Int)<(q:Int):=oz
       have HC:=qd hC;clear hC;go_wp2
       go_end0
       go_light;refine⟨rfl,some (ob,oc),?_,HC.out,.inl rfl⟩;rw[HRE.out];exact H.out
section
structure RAd where
 lb:Nat
 lc:Nat
 kk:Nat->Nat
 iv:Nat->Option (Nat×Nat)
 cv:Nat->Nat×Nat
 tg:Nat->Nat
def qX (s:fF) (v:Nat):PSd:=⟨s.inn.getD v [],s.chg.getD v [],s.mrk.getD v false,s.jn.getD v 0⟩
def aDo (n:Nat) (kk:Nat->Nat):List Value:=(List.range n).map fun v=>.pointer (some ⟨kk v,0,none⟩)
theorem rK (n:Nat) (kk:Nat->Nat) {v:Nat}(hv:v<n):(aDo n kk)[v]? = some (.pointer (some ⟨kk v,0,none⟩)):=by unfold aDo;rw[List.getElem?_map,List.getElem?_range hv];rfl
structure RAt (N:Nat) (W:World) (A:RAd) (n regs:Nat) (s:fF):Prop where
 ls:W.ownsRow 0 119 1 (.slice (some ⟨A.lb,0,none⟩) n A.lc) n (aDo n A.kk)
 sd:∀ v,v<n->gI W (A.kk v) (A.iv v) (A.cv v).1 (A.cv v).2 regs (qX s v)
 tl:A.tg A.lb=1
 tk:∀ v,v<n->A.tg (A.kk v)=2+3*v
 tc:∀ v,v<n->A.tg (A.cv v).1=3+3*v
 ti:∀ v b c,v<n->A.iv v=some (b,c)->A.tg b=4+3*v
 fr:∀ b,W.heap.size<=b->A.tg b=0
 lo:∀ b,A.tg b≠0->N<=b
 li:s.inn.length=n
 lc:s.chg.length=n
 lm:s.mrk.length=n
 lj:s.jn.length=n
section
variable {N : Nat} {W W' : World} {A : RAd} {n regs : Nat} {s : fF} {S : Nat -> Prop}
theorem RAt.tags (h:RAt N W A n regs s) {v x:Nat}(hv:v<n) (hx:sdS (A.kk v) (A.iv v) (A.cv v).1 x):A.tg x=2+3*v\/A.tg x=3+3*v\/A.tg x=4+3*v:=by
 rcases hx with rfl|rfl|⟨c,hx⟩
 ·exact .inl (h.tk v hv)
 ·exact .inr (.inl (h.tc v hv))
 ·exact .inr (.inr (h.ti v x c hv hx))
theorem RAt.chg (h:RAt N W A n regs s) (hc:aG S W W') (hs:∀ x,S x->A.tg x=0):RAt N W' A n regs s:=by
 refine⟨aT hc h.ls (fun e=>by have:=hs _ e;rw[h.tl]at this;cases this),fun v hv=>(h.sd v hv).chg hc (fun x hx e=>?_),h.tl,h.tk,h.tc,h.ti,fun b hb=>h.fr b (Nat.le_trans hc.size hb),h.lo,h.li,h.lc,h.lm,h.lj⟩;have:=hs x e;rcases h.tags hv hx with h1|h1|h1<;>omega
theorem RAt.below (h:RAt N W A n regs s) (hc:Below W.heap.size W W'):RAt N W' A n regs s:=h.chg (S:=fun _=>False) (aG.of hc) (fun _ e=>e.elim)
/-- one stand is another one -/
theorem RAt.one {tt:Nat}{iv':Option (Nat×Nat)}{s':fF}(h:RAt N W A n regs s) (htt:tt<n) (hN:N<=W.heap.size) (hc:aG (sdS (A.kk tt) (A.iv tt) (A.cv tt).1) W W') (hd:gI W' (A.kk tt) iv' (A.cv tt).1 (A.cv tt).2 regs (qX s' tt))
 (hiv:iv'=A.iv tt\/∃ b c,iv'=some (b,c)/\W.heap.size<=b) (ho:∀ v,v≠tt->qX s' v=qX s v) (l1:s'.inn.length=n) (l2:s'.chg.length=n) (l3:s'.mrk.length=n) (l4:s'.jn.length=n) :
 ∃ iv2 tg2,RAt N W' { A with iv:=iv2,tg:=tg2 } n regs s'/\∀ x,x<W.heap.size->tg2 x=A.tg x:=by
 have hdis:∀ v x,v<n->v≠tt->sdS (A.kk v) (A.iv v) (A.cv v).1 x->¬sdS (A.kk tt) (A.iv tt) (A.cv tt).1 x:=fun v x hv hne h1 h2=>by
  rcases h.tags hv h1 with e|e|e<;>rcases h.tags htt h2 with e'|e'|e'<;>omega
 have hls:W'.ownsRow 0 119 1 (.slice (some ⟨A.lb,0,none⟩) n A.lc) n (aDo n A.kk):=aT hc h.ls (fun e=>by rcases h.tags htt e with e'|e'|e'<;>rw[h.tl]at e'<;>omega);rcases hiv with rfl|⟨b,c,rfl,hb⟩
 ·refine⟨A.iv,A.tg,⟨hls,fun v hv=>?_,h.tl,h.tk,h.tc,h.ti,fun b hb=>h.fr b (Nat.le_trans hc.size hb),h.lo,l1,l2,l3,l4⟩,fun _ _=>rfl⟩;by_cases e:v=tt
  ·subst e;exact hd
  ·show gI W' (A.kk v) (A.iv v) (A.cv v).1 (A.cv v).2 regs (qX s' v);rw[ho v e];exact(h.sd v hv).chg hc (fun x hx=>hdis v x hv e hx)
 ·have hb0:=h.fr b hb;have hbW:b<W'.heap.size:=(hd.inn rfl).1.row.lt;have hnb:∀ x,A.tg x≠0->x≠b:=fun x hx e=>hx (by rw[e];exact hb0);refine⟨fun v=>if v=tt then some (b,c)else A.iv v,fun x=>if x=b then 4+3*tt else A.tg x,⟨hls,fun v hv=>?_,?_,fun v hv=>?_,fun v hv=>?_,fun v b' c' hv e=>?_,fun b' hb'=>?_,fun b' hb'=>?_,l1,l2,l3,l4⟩,fun x hx=>if_neg oz⟩
  ·by_cases e:v=tt
   ·subst e;simpa using hd
   ·show gI W' (A.kk v) (if v=tt then some (b,c)else A.iv v) (A.cv v).1 (A.cv v).2 regs (qX s' v);rw[ho v e,if_neg e];exact(h.sd v hv).chg hc (fun x hx=>hdis v x hv e hx)
  ·show(if A.lb=b then _ else A.tg A.lb)=1;rw[if_neg (hnb _ (by rw[h.tl];decide)),h.tl]
  ·show(if A.kk v=b then _ else A.tg (A.kk v))=2+3*v;rw[if_neg (hnb _ (by rw[h.tk v hv];omega)),h.tk v hv]
  ·show(if(A.cv v).1=b then _ else A.tg (A.cv v).1)=3+3*v;rw[if_neg (hnb _ (by rw[h.tc v hv];omega)),h.tc v hv]
  ·dsimp only at e ⊢;by_cases e1:v=tt
   ·rw[if_pos e1]at e;cases e;rw[if_pos rfl,e1]
   ·rw[if_neg e1]at e;have:=h.ti v b' c' hv e;rw[if_neg (hnb _ (by rw[this];omega)),this]
  ·dsimp only;rw[if_neg (by omega)];exact h.fr b' (Nat.le_trans hc.size hb')
  ·dsimp only at hb';by_cases e1:b'=b
   ·omega
   ·rw[if_neg e1]at hb';exact h.lo b' hb'
end
theorem aTe (s:fF) {n v:Nat}(h:s.mrk.length=n) (hv:v<n) (b:Bool):qX { s with mrk:=s.mrk.set v b } v={ qX s v with mrk:=b }/\∀ u,u≠v->qX { s with mrk:=s.mrk.set v b } u=qX s u:=by
 unfold qX;refine⟨?_,fun u hu=>?_⟩
 ·dsimp only;rw[bP _ _ _ _ _ (by omega),if_pos rfl]
 ·dsimp only;rw[bP _ _ _ _ _ (by omega),if_neg hu]
theorem aKp (thr:List Int) (s:fF) {n v:Nat}(next:List aB) (h1:s.inn.length=n) (h2:s.chg.length=n) (h3:s.mrk.length=n) (h4:s.jn.length=n) (hv:v<n):qX (cM thr s v next) v=qD thr (qX s v) next/\∀ u,u≠v->qX (cM thr s v next) u=qX s u:=by
 unfold cM qD;by_cases e:s.inn.getD v []=[]
 ·rw[if_pos e,if_pos (show(qX s v).inn=[]from e)];unfold qX;refine⟨?_,fun u hu=>?_⟩
  ·dsimp only;rw[bP _ _ _ _ _ (by omega),if_pos rfl,bP _ _ _ _ _ (by omega),if_pos rfl]
  ·dsimp only;rw[bP _ _ _ _ _ (by omega),if_neg hu,bP _ _ _ _ _ (by omega),if_neg hu]
 ·rw[if_neg e,if_neg (show ¬(qX s v).inn=[]from e)];by_cases e2:qI (s.inn.getD v []) next=true
  ·rw[if_pos e2,if_pos (show qI (qX s v).inn next=true from e2)];unfold qX nI;refine⟨?_,fun u hu=>?_⟩
   ·dsimp only;rw[bP _ _ _ _ _ (by omega),if_pos rfl,bP _ _ _ _ _ (by omega),if_pos rfl,bP _ _ _ _ _ (by omega),if_pos rfl,bP _ _ _ _ _ (by omega),if_pos rfl]
   ·dsimp only;rw[bP _ _ _ _ _ (by omega),if_neg hu,bP _ _ _ _ _ (by omega),if_neg hu,bP _ _ _ _ _ (by omega),if_neg hu,bP _ _ _ _ _ (by omega),if_neg hu]
  ·rw[if_neg e2,if_neg (show ¬qI (qX s v).inn next=true from e2)];exact⟨rfl,fun _ _=>rfl⟩
end
theorem Tryz.infoSt:(Tryz.prog.info? 119).map (fun i=>(i.zero,i.size,i.bytes))=some (some (.pointer none),1,8):=kr
def d0 (regs:Nat):PSd:=⟨[],List.replicate regs 0,false,0⟩
structure RSI (N:Nat) (W:World) (regs j:Nat) (v:Value) (kk:Nat->Nat) (cv:Nat->Nat×Nat) (tg:Nat->Nat):Prop where
 ls:W.ownsRow 0 119 1 v j (aDo j kk)
 sd:∀ u,u<j->gI W (kk u) none (cv u).1 (cv u).2 regs (d0 regs)
 tv:∀ k,v.ownBlock=some k->tg k=1
 tk:∀ u,u<j->tg (kk u)=2+3*u
 tc:∀ u,u<j->tg (cv u).1=3+3*u
 fr:∀ b,W.heap.size<=b->tg b=0
 lo:∀ b,tg b≠0->N<=b
theorem aKk (j:Nat) (kk kk':Nat->Nat) (k:Nat) (h:∀ u,u<j->kk' u=kk u) (hk:kk' j=k):aDo (j+1) kk'=aDo j kk++[.pointer (some ⟨k,0,none⟩)]:=by
 unfold aDo;rw[List.range_succ,List.map_append];congr 1
 ·exact List.map_congr_left fun u hu=>by rw[h u (List.mem_range.1 hu)]
 ·simp[hk]
theorem RSI.push {N:Nat}{W W3 W4:World}{regs j g cap cc:Nat}{v:Value}{kk:Nat->Nat}{cv:Nat->Nat×Nat}{tg:Nat->Nat}(h:RSI N W regs j v kk cv tg) (hN:N<=W.heap.size) (hb:Below W.heap.size W W3) (hz:W.heap.size+3<=W3.heap.size)
 (hd:gI W3 (W.heap.size+1) none W.heap.size cc regs (d0 regs)) (hr:W4.ownsRow 0 119 1 (.slice (some ⟨g,0,none⟩) (j+1) cap) (j+1) (aDo j kk++[.pointer (some ⟨W.heap.size+1,0,none⟩)]))
 (hc:aG (fun k=>v.ownBlock=some k) W3 W4) (hg:v.ownBlock=some g\/g=W3.heap.size):∃ kk' cv' tg',RSI N W4 regs (j+1) (.slice (some ⟨g,0,none⟩) (j+1) cap) kk' cv' tg':=by
 have hvt:∀ k,v.ownBlock=some k->k<W.heap.size:=fun k hk=>by
  have:=h.tv k hk;by_cases e:k<W.heap.size
  ·exact e
  ·rw[h.fr k (by omega)]at this;cases this
 have hne:∀ x,tg x≠0->x<W.heap.size:=fun x hx=>by
  by_cases e:x<W.heap.size
  ·exact e
  ·exact absurd (h.fr x oz) hx
 have hgd:g<W.heap.size/\tg g=1\/g=W3.heap.size:=by
  rcases hg with e|e
  ·exact .inl ⟨hvt g e,h.tv g e⟩
  ·exact .inr e
 have hgl:g<W4.heap.size:=cA hr rfl;have hz4:=hc.size;have old:∀ u,u<j->kk u≠W.heap.size/\kk u≠W.heap.size+1/\kk u≠g/\(cv u).1≠W.heap.size/\(cv u).1≠W.heap.size+1/\(cv u).1≠g:=fun u hu=>by
  have h1:=hne (kk u) (by rw[h.tk u hu];omega);have h2:=hne (cv u).1 (by rw[h.tc u hu];omega);have e1:=h.tk u hu;have e2:=h.tc u hu;refine⟨oz,oz,fun e=>?_,oz,oz,fun e=>?_⟩
  ·rcases hgd with⟨_,h3⟩|h3
   ·rw[e,h3]at e1;omega
   ·omega
  ·rcases hgd with⟨_,h3⟩|h3
   ·rw[e,h3]at e2;omega
   ·omega
 have gne:g≠W.heap.size/\g≠W.heap.size+1:=by rcases hgd with⟨h3,_⟩|h3<;>omega
 refine⟨fun u=>if u=j then W.heap.size+1 else kk u,fun u=>if u=j then(W.heap.size,cc)else cv u,fun x=>if x=W.heap.size then 3+3*j else if x=W.heap.size+1 then 2+3*j else if x=g then 1 else tg x,?_,fun u hu=>?_,fun k hk=>?_,fun u hu=>?_,fun u hu=>?_,fun b hb'=>?_,fun b hb'=>?_⟩
 ·rw[aKk j kk (fun u=>if u=j then W.heap.size+1 else kk u) (W.heap.size+1) (fun u hu=>if_neg (by omega)) (if_pos rfl)];exact hr
 ·by_cases e:u=j
  ·subst e;simp only[if_true];exact hd.chg hc (fun x hx e=>by have:=hvt x e;rcases hx with rfl|rfl|⟨c,hx⟩<;>first|omega|cases hx)
  ·simp only[if_neg e];have hu':u<j:=oz
   refine((h.sd u hu').below hb).chg hc (fun x hx e'=>?_);have e1:=h.tk u hu';have e2:=h.tc u hu';have e3:=h.tv x e';rcases hx with rfl|rfl|⟨c,hx⟩
   ·omega
   ·omega
   ·cases hx
 ·have e:g=k:=by simpa[Value.ownBlock]using hk
  subst e;simp only[if_neg gne.1,if_neg gne.2,if_true]
 ·by_cases e:u=j
  ·subst e;simp
  ·have o:=old u oz;simp only[if_neg e,if_neg o.1,if_neg o.2.1,if_neg o.2.2.1];exact h.tk u oz
 ·by_cases e:u=j
  ·subst e;simp
  ·have o:=old u oz;simp only[if_neg e,if_neg o.2.2.2.1,if_neg o.2.2.2.2.1,if_neg o.2.2.2.2.2];exact h.tc u oz
 ·try dsimp only
  rw[if_neg (by omega),if_neg (by omega),if_neg (by omega)];exact h.fr b (by have:=hb.size;omega)
 ·try dsimp only at hb'
  split at hb'
  ·omega
  ·split at hb'
   ·omega
   ·split at hb'
    ·rcases hgd with⟨h3,h4⟩|h3
     ·have:=h.lo g (by rw[h4];decide);omega
     ·have:=hb.size;omega
    ·exact h.lo b hb'
theorem aOa (n regs:Nat) {v:Nat}(hv:v<n):qX (eI n regs) v=d0 regs:=by
 unfold qX eI d0;simp[List.getD_eq_getElem?_getD,List.getElem?_replicate,hv]
theorem RSI.done {N:Nat}{W:World}{regs n g cap:Nat}{kk:Nat->Nat}{cv:Nat->Nat×Nat}{tg:Nat->Nat}(h:RSI N W regs n (.slice (some ⟨g,0,none⟩) n cap) kk cv tg):RAt N W ⟨g,cap,kk,fun _=>none,cv,tg⟩ n regs (eI n regs) :=
 ⟨h.ls,fun v hv=>by rw[aOa n regs hv];exact h.sd v hv,h.tv g rfl,h.tk,h.tc,fun v b c hv e=>(by cases e),h.fr,h.lo,by simp[eI],by simp[eI],by simp[eI],by simp[eI]⟩
theorem aHk (w:World) (regs:Nat) (h64:regs<=64):gI (((w.alloc (.cells (Array.replicate regs (.int .i64 0)) 3)).alloc (.cells #[.slice none 0 0,.bool false,.int .i64 0,.slice (some ⟨w.heap.size,0,none⟩) regs regs] 121)).alloc (.cells #[.pointer (some ⟨w.heap.size+1,0,none⟩)] 119)) (w.heap.size+1) none w.heap.size regs regs (d0 regs):=by
 have e:(aR (List.replicate regs 0)).toArray=Array.replicate regs (.int .i64 0):=by unfold aR;simp
 have hr:=World.ownsRow_lit w (base:=0) (e:=3) (size:=1) (aR (List.replicate regs 0)).toArray regs (Nat.zero_le _) bH (by simp[aR]);rw[e]at hr;have e2:(Array.replicate regs (Value.int .i64 0)).toList=aR (List.replicate regs 0):=by unfold aR;simp
 rw[e2]at hr;refine⟨?_,.inl ⟨rfl,rfl⟩,?_,oz⟩
 ·have:=(aF.new (w.alloc (.cells (Array.replicate regs (.int .i64 0)) 3)) [.slice none 0 0,.bool false,.int .i64 0,.slice (some ⟨w.heap.size,0,none⟩) regs regs] 121).alloc (.cells #[.pointer (some ⟨w.heap.size+1,0,none⟩)] 119);rw[World.size_alloc]at this;exact this
 ·exact aA (eN.alloc si _) hr
section
/-- the stands, wherever their spans lie -/
def RSt (N:Nat) (W:World) (lb lc:Nat) (kk:Nat->Nat) (cv:Nat->Nat×Nat) (n regs:Nat) (s:fF):Prop:=∃ iv tg,RAt N W ⟨lb,lc,kk,iv,cv,tg⟩ n regs s
section
variable {N : Nat} {W W' : World} {lb lc n regs : Nat} {kk : Nat -> Nat} {cv : Nat -> Nat × Nat} {s : fF}
theorem RSt.mark (h:RSt N W lb lc kk cv n regs s) {tt:Nat}(htt:tt<n) (hN:N<=W.heap.size) (b:Bool):RSt N (W.setCell ⟨kk tt,1,none⟩ (.bool b)) lb lc kk cv n regs { s with mrk:=s.mrk.set tt b }:=by
 obtain⟨iv,tg,h⟩:=h;obtain⟨e1,e2⟩:=aTe s h.lm htt b;have hc:aG (sdS (kk tt) (iv tt) (cv tt).1) W (W.setCell ⟨kk tt,1,none⟩ (.bool b)):=aG.setCell (aG.refl _ _) (p:=⟨kk tt,1,none⟩) (.inl (.inl rfl)) _;obtain⟨iv2,tg2,h2,-⟩:=h.one (s':={ s with mrk:=s.mrk.set tt b }) htt hN hc (by rw[e1];exact(h.sd tt htt).setM b) (.inl rfl) e2 h.li h.lc (by simp[h.lm]) h.lj;exact⟨iv2,tg2,h2⟩
/-- the first of all spans -/
theorem RSt.first (h:RSt N W lb lc kk cv n regs s) {tt b c:Nat}{next:List aB}(htt:tt<n) (hN:N<=W.heap.size) (hb:W.heap.size<=b) {W1:World}(hc:Below W.heap.size W W1) (hr:kA W1 b regs c next):RSt N (W1.setCell ⟨kk tt,0,none⟩ (.slice (some ⟨b,0,none⟩) regs c)) lb lc kk cv n regs { s with inn:=s.inn.set tt next }:=by
 obtain⟨iv,tg,h⟩:=h;have hk:kk tt<W.heap.size:=(h.sd tt htt).st.1;have hcb:(cv tt).1<W.heap.size:=bJ (h.sd tt htt).ec;have hc2:aG (sdS (kk tt) (iv tt) (cv tt).1) W (W1.setCell ⟨kk tt,0,none⟩ (.slice (some ⟨b,0,none⟩) regs c)):=(aG.of hc).trans (aG.setCell (aG.refl _ _) (p:=⟨kk tt,0,none⟩) (.inl (.inl rfl)) _);have e1:qX { s with inn:=s.inn.set tt next } tt={ qX s tt with inn:=next }:=by
  unfold qX;dsimp only;rw[bP _ _ _ _ _ (by have:=h.li;omega),if_pos rfl]
 have e2:∀ u,u≠tt->qX { s with inn:=s.inn.set tt next } u=qX s u:=fun u hu=>by
  unfold qX;dsimp only;rw[bP _ _ _ _ _ (by have:=h.li;omega),if_neg hu]
 have hd:gI (W1.setCell ⟨kk tt,0,none⟩ (.slice (some ⟨b,0,none⟩) regs c)) (kk tt) (some (b,c)) (cv tt).1 (cv tt).2 regs (qX { s with inn:=s.inn.set tt next } tt):=by
  rw[e1];exact((h.below hc).sd tt htt).setI hr (by dsimp only;omega) (by dsimp only;omega)
 obtain⟨iv2,tg2,h2,-⟩:=h.one (s':={ s with inn:=s.inn.set tt next }) htt hN hc2 hd (.inr ⟨b,c,rfl,hb⟩) e2 (by simp[h.li]) h.lc h.lm h.lj;exact⟨iv2,tg2,h2⟩
end
end
/-- the analysis' memory, when some instructions have come -/
def aV3 (m:bA) (f:aC) (N:Nat) (A:yU) (n regs bx:Nat) (s:fF) (W:World):Prop:=(∃ iv tg,kR N W { A with iv:=iv,tg:=tg } n regs s)/\aF W bx [.pointer (some ⟨A.k,0,none⟩)]/\rC n regs s/\MOk n s
def lR (m:bA) (f:aC) (s0:fF) (pre:List Nat):fF:=pre.foldl (gF m f) s0
theorem aKf (m:bA) (f:aC) (s0:fF) (pre:List Nat) (x:Nat):lR m f s0 (pre++[x])=gF m f (lR m f s0 pre) x:=by unfold lR;rw[List.foldl_append];rfl
theorem aKr (m:bA) (f:aC) (s0:fF) (pre:List Nat):lR m f s0 (pre++List.range f.code.length)=oE m f (lR m f s0 pre):=by unfold lR oE;rw[List.foldl_append]
theorem aG0 (nf:Nat) (m:bA) (f:aC) (N:Nat) (A:yU) (n regs bx l:Nat) (s0:fF) (W:World) (J:List Nat->World->Prop) (hn:n=f.code.length) (hn0:0<n) (hn1:n<=1024)
 (hJ:∀ pre W,J pre W->aV3 m f N A n regs bx (lR m f s0 pre) W) (hJB:∀ pre W W',J pre W->Below W.heap.size W W'->J pre W')
 (hY:∀ pre x W1,J pre W1->x<n->YieldAt Fence.wide (nf-1) Tryz.prog l #[.int .i64 x] W1 fun e W'=>e=.returned (.bool true)/\J (pre++[x]) W')
 (hP:∀ s,rC n regs s->MOk n s->s.mrk.contains true=true->jZ n regs (oE m f s)<jZ n regs s)
 (h0:J [] W):CallsIn Fence.wide nf Tryz.prog 80 #[.func (.yield l) #[] #[],.pointer (some ⟨bx,0,none⟩)] W fun e W'=>(∃ v,e=.returned v)/\∃ xs,fO m f s0 (lR m f s0 xs)/\J xs W':=by
 have HN:=qd hn;clear hn;have HJ:=qd h0;have HJJ:=qd hJ;have HYY:=qd hY;have HPP:=qd hP;clear h0 hJ hY hP;refine callsIn_of_wp Tryz.func80 rfl trivial ?_ rfl;simp only[Tryz.ntmps80,List.size_toArray,List.length_cons,List.length_nil,Nat.reduceAdd,Nat.reduceSub,Array.replicate_succ,Array.replicate_zero,List.push_toArray,List.append_toArray,List.nil_append,List.cons_append];gi_wp2;gi_loopw [] (fun wr=>∃ pre,Hid (J pre wr/\∀ t,fO m f (lR m f s0 pre) t->fO m f s0 t)) (fun wr=>aOl fun k=>∃ pre,Hid (J pre wr/\∀ t,fO m f (lR m f s0 pre) t->fO m f s0 t)/\jZ n regs (lR m f s0 pre)=k)
 case atStart=>exact⟨[],qd ⟨HJ.out,fun t h=>h⟩⟩
 case round =>
  clear HJ;obtain⟨pre,hpre,hmin⟩:=aSf (p:=fun k=>∃ pre,Hid (J pre wr/\∀ t,fO m f (lR m f s0 pre) t->fO m f s0 t)/\jZ n regs (lR m f s0 pre)=k) (by obtain⟨pre,h⟩:=hrel;exact⟨_,pre,h,rfl⟩);clear hrel;obtain⟨hj,hrs⟩:=hpre.out;obtain⟨⟨iv,tg,hb⟩,hbox,hsok,hmok⟩:=HJJ.out pre wr hj;have HRS:=qd hrs;have HJ:=qd hj;have HMIN:=qd hmin;have HPO:=qd (fun h=>HPP.out _ hsok hmok h);have hst:=hb.st;unfold yU.cells at hst;dsimp only at hst;obtain⟨s0',s1,s2,s3,s4,s5,s6,s7,s8⟩:=hU hst;have b1:=dG hbox;have HC:=qd (aA8 A.mb n A.mc (lR m f s0 pre).mrk wr hb.rm oz);have hml:=hb.lm;clear hb hbox hst hj hrs hpre hmin hsok hmok;obtain⟨cb,hcb⟩:∃ q,(lR m f s0 pre).mrk.contains true=q:=⟨_,rfl⟩
  rw[hcb]at HC HPO;have HCB:=qd hcb;clear hcb;cases cb
  ·gi_wp2_with (refine⟨trivial,(fun h=>absurd h dc),?_⟩;gi_at_call 81;refine(callsIn_wide.2 HC.out).mono ?_;rintro e w1 ⟨rfl,rfl⟩)
   go_end0
   first|exact⟨⟨_,rfl⟩,pre,HRS.out _ (.stop _ HCB.out),HJ.out⟩|exact⟨⟨⟨_,rfl⟩,pre,HRS.out _ (.stop _ HCB.out),HJ.out⟩⟩
  ·gi_wp2_with (refine⟨trivial,(fun h=>absurd h dc),?_⟩;gi_at_call 81;refine(callsIn_wide.2 HC.out).mono ?_;rintro e w1 ⟨rfl,rfl⟩)
   have hpo:=HPO.out (by first|rfl|trivial);have HPO2:=qd hpo;clear HPO hpo HC b1 s0' s1 s2 s3 s4 s5 s6 s7 s8 hml;have hn9:n<=9223372036854775807:=oz
   obtain⟨wA,hwA⟩:∃ wA:World,wA=w1:=⟨_,rfl⟩
   subst hwA;gi_loopw [14] (fun i wx=>∃ k:Nat,k<=n/\i=.int .i64 k/\Hid (J (pre++List.range k) wx)) (fun i _=>n-(intOf i).toNat)
   case atStart=>exact⟨0,Nat.zero_le _,rfl,qd (by simpa using HJ.out)⟩
   case round =>
    clear HJ;obtain⟨k,hk,rfl,hJ⟩:=hrel;by_cases hkt:k<n
    ·have d3:(k:Int)<(n:Int):=oz
     have hwk:IntKind.i64.wrap ((k:Int)+1)=(k:Int)+1:=IntWalk.i64_in _ oz;obtain⟨fn,tmps,assign,body,hy,hRd⟩:=HYY.out _ k wr hJ.out hkt;have HRd:=qd hRd;clear hRd;gi_wp2;refine⟨fun h=>absurd h dc,HRd.out.mono ?_⟩;rintro e W3 ⟨rfl,hJ3⟩;have HJ3:=qd hJ3;clear hJ3;gi_wp2
     go_roundw
     case rel=>exact⟨k+1,oz,si,qd (by rw[List.range_succ,<-List.append_assoc];exact HJ3.out)⟩
     case measure=>go_light;exact ml
    ·have hkk:n=k:=oz
     subst hkk;have d3:¬(n:Int)<(n:Int):=oz
     have hst:lR m f s0 (pre++List.range n)=oE m f (lR m f s0 pre):=by rw[HN.out];exact aKr m f s0 pre
     have HR2:Hid (J (pre++List.range n) wr/\∀ t,fO m f (lR m f s0 (pre++List.range n)) t->fO m f s0 t):=qd ⟨hJ.out,fun t h=>HRS.out t (.pass _ _ HCB.out (by rw[hst]at h;exact h))⟩;have hle:=aSg (p:=fun k=>∃ pre,Hid (J pre wr/\∀ t,fO m f (lR m f s0 pre) t->fO m f s0 t)/\jZ n regs (lR m f s0 pre)=k) ⟨_,HR2,rfl⟩;rw[hst]at hle;have hlt:=HPO2.out;have heq:=HMIN.out;have HLT:=qd (Nat.lt_of_le_of_lt hle (by rw[heq]at hlt;exact hlt));clear hst hle hlt heq;gi_wp2
     go_roundw
     case rel=>exact⟨_,HR2⟩
     case measure=>exact HLT.out
theorem aIw (k:Nat) (w:World):Calls Tryz.prog 45 #[.pointer (some ⟨k,0,none⟩)] w fun e w'=>e=.returned (.func (.func 80) #[] #[.pointer (some ⟨w.heap.size,0,none⟩)])/\w'=w.alloc (.cells #[.pointer (some ⟨k,0,none⟩)] 95):=by
 have hmf:=@mkF Tryz.prog;go_enter Tryz.func45,Tryz.ntmps45;go_wp2;go_ret;exact⟨rfl,rfl⟩
theorem kR.turn {b N:Nat}{W W':World}{A:yU}{n regs:Nat}{s:fF}(h:kR N W A n regs s) (c:iF b W W') (hk:A.k<b):kR N W' A n regs s:=by
 have rt:∀ {e size n g cc m:Nat}{xs:List Value},W.ownsRow 0 e size (.slice (some ⟨g,0,none⟩) n cc) m xs->W'.ownsRow 0 e size (.slice (some ⟨g,0,none⟩) n cc) m xs:=fun h=>gE c h;refine⟨h.st.turn c hk,rt h.ri,rt h.rc,rt h.rm,rt h.rj,fun v hv=>?_,fun v hv=>?_,h.tk,h.ti,h.tc,h.tm,h.tj,fun x hx=>h.fr x (by rw[<-c.size];exact hx),h.lo,h.li,h.lc⟩
 ·rcases h.ei v hv with h1|⟨b,cc,h1,⟨c',h2⟩,h3⟩
  ·exact .inl h1
  ·exact .inr ⟨b,cc,h1,⟨c',rt h2⟩,h3⟩
 ·obtain⟨h1,h2⟩:=h.ec v hv;exact⟨rt h1,h2⟩
theorem aDe {g:Operand}{ps:Array Tmp}{assign body:Code}{Q:Exit->Act->World->Prop}{a:Act}{w:World}(m:bA) (f:aC) (N:Nat) (A:yU) (n regs bx:Nat) (s0:fF) (I:List Nat->World->Prop)
 (hg:a.eval g=.func (.func 80) #[] #[.pointer (some ⟨bx,0,none⟩)]) (hps:ps.size=1) (hn:n=f.code.length) (hn0:0<n) (hn1:n<=1024)
 (hI:∀ pre W,I pre W->aV3 m f N A n regs bx (lR m f s0 pre) W) (hIB:∀ pre W W',I pre W->Below W.heap.size W W'->I pre W') (hIT:∀ pre W W',I pre W->iF w.heap.size W W'->I pre W')
 (hP:∀ s,rC n regs s->MOk n s->s.mrk.contains true=true->jZ n regs (oE m f s)<jZ n regs s) (h0:I [] w)
 (hround:∃ a₁:Nat->Act,(∀ (l:Nat) (x:Nat) (W:World) (K:Act->World->Prop),K (a₁ x) W ->
   assign.wpIn (Fence.wide.inRound l) 0 Tryz.prog (Exit.then K (fun _ _ _=>False)) { tmps:=(ps.zip #[.int .i64 x]).foldl (fun t (p,v)=>t.setIfInBounds p v) a.tmps,defers:=[] } W) /\
   (∀ (l:Nat) (pre:List Nat) (x:Nat) (W:World),I pre W->x<n->w.heap.size+1<W.heap.size ->
   body.wpIn (Fence.wide.inRound l) 0 Tryz.prog (aI0 fun W'=>(∀ k,w.heap.size<=k->k<w.heap.size+2->W'.heap[k]? = W.heap[k]?)/\I (pre++[x]) W') (a₁ x) W))
 (hdone:∀ (xs:List Nat) (W:World),fO m f s0 (lR m f s0 xs)->I xs W->W.heap[w.heap.size]? = some (.deferred (some []))->Q .normal { a with defers:={ target:=.collected w.heap.size,args:=#[] }::a.defers } W) :
 (Code.rangeFunc g ps assign body).wp Tryz.prog Q a w:=by
 obtain⟨a₁,hassign,hbody⟩:=hround;refine(wpIn_wide (n:=2)).1 ?_;refine aCe (α:=Nat) 80 #[.pointer (some ⟨bx,0,none⟩)] hg (fun _ _=>rfl) (fun x=>#[.int .i64 x]) (fun x=>by rw[hps];rfl) I hIB hIT h0 (fun xs=>fO m f s0 (lR m f s0 xs)) (fun pre x=>x<n) (fun pre x W W'=>I (pre++[x]) W') ?_ ?_ a₁ hassign ?_ ?_
 ·intro pre x W Wb W3 W' hi tb hkp te _ _;exact hIT _ _ _ hkp te
 ·intro l W J hJI hJB hbel hY hJ0;refine aG0 (2-1) m f N A n regs bx l s0 W J hn hn0 hn1 (fun pre W h=>hI pre W (hJI _ _ h)) hJB ?_ hP hJ0;intro pre x W1 h1 h2;obtain⟨fn,tmps,assign,body,hy,hr⟩:=hY pre x W1 h1 h2;exact⟨fn,tmps,assign,body,hy,hr.mono fun e W' h=>⟨h.1,h.2.1⟩⟩
 ·intro l pre x W h1 h2 h3;refine wpIn_mono (hbody l pre x W h1 h2 h3) ?_;rintro e a3 W3 hp;cases e with
  | normal=>exact⟨hp.1,hp.2,hp.2⟩
  | ret=>exact hp
  | exit id=>exact hp
  | goto t=>exact hp
  | panic ch=>exact hp
  | outgrown=>exact hp
 ·intro xs W hS hi hd;exact hdone xs W hS hi hd
section
theorem aEw {B:Nat}{w:World}{v:Value}{m:bA}(hm:cP B w v m) (he:(dS m).e=0) {fn:Nat}(hfn:fn<m.funcs.length) {rg:Nat}(hrg:(bX m fn).regs=rg) :
 ∀ (a:Nat) (inn:List aB) (t:Int) (out:List aB),a<(bX m fn).code.length->gU rg inn->t∈aY (bX m fn) a->gP m (bX m fn) a t inn=some out->gU rg out:=by
 intro a inn t out ha hi ht hw;have hfine:=nE he;obtain⟨_,_,_,_,_,_,rfl,_,hfl1,hfl2,fb,fo,hfb,H,hH⟩:=hm;have hx:=hfine.ins fn a hfn ha;have hfo:=(hH fn oz).2;obtain⟨_,_,⟨hcl,_,cb,co,_,hcc⟩,_,_⟩:=hfo;have e:m.funcs.getD fn default=bX m fn:=rfl;rw[e]at hcl hcc;have h64:=(hcc a oz).2.2.2.2.2;have er:(bX m fn).regs.toNat=rg:=by rw[hrg];simp
 have hp:∀ i,i<(eD m ((bX m fn).code.getD a default).n).length->aM ((eD m ((bX m fn).code.getD a default).n).getD i default).lo/\aM ((eD m ((bX m fn).code.getD a default).n).getD i default).hi:=fun i hi2=>by
  unfold eD at hi2 ⊢;generalize ((bX m fn).code.getD a default).n.toNat=q at *;by_cases hq:q<m.funcs.length
  ·obtain⟨hsl,_,b,o,_,hs⟩:=(hH q oz).2.2.1;exact(hs i oz).2.2
  ·have:m.funcs.getD q default=default:=by rw[List.getD_eq_getElem?_getD,List.getElem?_eq_none (by omega)];rfl
   rw[this]at hi2;exact absurd hi2 (Nat.not_lt_zero i)
 have h:=aVc (hfine.fn fn hfn) hx h64 hp (by rw[er];exact hi) hw;rw[er]at h;exact h
theorem dF {l n:Nat}{P:Program}{f:FuncId}{args:Array Value}{w:World}{R:Ending->World->Prop}(h:Calls P f args w R):CallsIn (Fence.wide.inRound l) n P f args w R:=(callsIn_wide.2 h:CallsIn Fence.wide n P f args w R)
structure RI (N:Nat) (A:yU) (n rg bx t0 mb ab fx p:Nat) (mv fv:List Value) (w0:World) (s:fF) (W:World) (iv:Nat->Option (Nat×Nat)) (tg:Nat->Nat):Prop where
 b:kR N W { A with iv:=iv,tg:=tg } n rg s
 x:aF W bx [.pointer (some ⟨A.k,0,none⟩)]
 bo:oC W tg mb ab fx p A.k mv fv
 so:rC n rg s
 mo:MOk n s
 tx:tg bx=0
 y0:tg t0=0
 y1:tg (t0+1)=0
 be:Below w0.heap.size w0 W
 nz:N<=W.heap.size
 nw:w0.heap.size<=N
 lq:mb<t0/\ab<t0/\fx<t0/\p<t0/\bx<t0/\A.k<t0
 nt:N<=t0
section
variable {N : Nat} {A : yU} {n rg bx t0 mb ab fx p : Nat} {mv fv : List Value} {w0 : World} {s : fF} {W W' : World} {iv : Nat -> Option (Nat × Nat)} {tg : Nat -> Nat} {S : Nat -> Prop}
theorem RI.keep (h:RI N A n rg bx t0 mb ab fx p mv fv w0 s W iv tg) (hc:aG S W W') (hS:∀ x,S x->tg x=0/\t0+2<=x):RI N A n rg bx t0 mb ab fx p mv fv w0 s W' iv tg:=by
 obtain⟨l1,l2,l3,l4,l5,l6⟩:=h.lq;have no:∀ x,x<t0->¬S x:=fun x hx e=>by have:=(hS x e).2;omega
 exact⟨h.b.keep hc (fun x e=>(hS x e).1),hc.own h.x (no _ l5),⟨hc.own h.bo.cm (no _ l1),hc.own h.bo.ca (no _ l2),hc.own h.bo.cf (no _ l3),hc.own h.bo.cp (no _ l4),h.bo.tm,h.bo.ta,h.bo.tf,h.bo.tp⟩,h.so,h.mo,h.tx,h.y0,h.y1,
  h.be.trans (hc.below _ h.be.size (fun k hk e=>by have:=(hS k e).2;have:=h.nw;have:=h.nt;omega)),Nat.le_trans h.nz hc.size,h.nw,h.lq,h.nt⟩
theorem RI.below (h:RI N A n rg bx t0 mb ab fx p mv fv w0 s W iv tg) (hb:Below W.heap.size W W'):RI N A n rg bx t0 mb ab fx p mv fv w0 s W' iv tg:=h.keep (S:=fun _=>False) (aG.of hb) (fun _ e=>e.elim)
/-- the state's blocks are written -/
theorem RI.wr (h:RI N A n rg bx t0 mb ab fx p mv fv w0 s W iv tg) {s':fF}{iv':Nat->Option (Nat×Nat)}{tg':Nat->Nat}(hb:kR N W' { A with iv:=iv',tg:=tg' } n rg s') (hc:aG (fun x=>tg x≠0) W W') (ht:∀ x,x<t0+2->tg' x=tg x) (hso:rC n rg s') (hmo:MOk n s'):RI N A n rg bx t0 mb ab fx p mv fv w0 s' W' iv' tg':=by
 obtain⟨l1,l2,l3,l4,l5,l6⟩:=h.lq;have hx:=h.bo.keep hc (fun x e=>e);refine⟨hb,hc.own h.x (fun e=>e h.tx),⟨hx.cm,hx.ca,hx.cf,hx.cp,by rw[ht _ (by omega)];exact h.bo.tm,by rw[ht _ (by omega)];exact h.bo.ta,by rw[ht _ (by omega)];exact h.bo.tf,by rw[ht _ (by omega)];exact h.bo.tp⟩,hso,hmo,by rw[ht _ (by omega)];exact h.tx,by rw[ht _ (by omega)];exact h.y0,by rw[ht _ (by omega)];exact h.y1,
  h.be.trans (hc.below _ h.be.size (fun k hk e=>by have:=h.b.lo k e;have:=h.nw;omega)),Nat.le_trans h.nz hc.size,h.nw,h.lq,h.nt⟩
theorem RI.turn (h:RI N A n rg bx t0 mb ab fx p mv fv w0 s W iv tg) (c:iF t0 W W'):RI N A n rg bx t0 mb ab fx p mv fv w0 s W' iv tg:=by
 obtain⟨l1,l2,l3,l4,l5,l6⟩:=h.lq;exact⟨h.b.turn c l6,h.x.turn c l5,⟨h.bo.cm.turn c l1,h.bo.ca.turn c l2,h.bo.cf.turn c l3,h.bo.cp.turn c l4,h.bo.tm,h.bo.ta,h.bo.tf,h.bo.tp⟩,h.so,h.mo,h.tx,h.y0,h.y1,
  h.be.trans (c.below.mono (by have:=h.nw;have:=h.nt;omega)),by rw[c.size];exact h.nz,h.nw,h.lq,h.nt⟩
/-- the loop's own record stays as it is -/
theorem RI.recd (h:RI N A n rg bx t0 mb ab fx p mv fv w0 s W iv tg) (hc:aG S W W') (hS:∀ x,S x->tg x≠0\/t0+2<=x) (hz:t0+1<W.heap.size):∀ q,t0<=q->q<t0+2->W'.heap[q]? = W.heap[q]? := fun q h1 h2=>by
 refine hc.block q oz (fun e=>?_);have:q=t0\/q=t0+1:=oz
 rcases hS q e with h3|h3
 ·rcases this with rfl|rfl
  ·exact h3 h.y0
  ·exact h3 h.y1
 ·omega
end
end
theorem aOg (f:aC) {j:Nat}(hj:j<f.regs.toNat) (hp:f.params.length<=f.regs.toNat):(cL f).take (j+1)=(cL f).take j++[if j<f.params.length then f.params.getD j default else⟨0,0⟩]:=by
 have hl:(cL f).length=f.regs.toNat:=by unfold cL;simp;omega
 rw[List.take_add_one,List.getElem?_eq_getElem (by omega)];congr 1;simp only[Option.toList];congr 1;unfold cL;split
 ·next h=>rw[List.getElem_append_left h,List.getD_eq_getElem?_getD,List.getElem?_eq_getElem h];rfl
 ·next h=>rw[List.getElem_append_right (by omega),List.getElem_replicate]
theorem aT4 {p:Prop}(h:p:=by
 have hc5:aG (fun j=>u3.ownBlock=some j) wr w4:=(aG.of (by exact bel)).trans hc4;have hb5:Below w.heap.size w w4:=hbr.trans (hc5.below _ hbr.size (fun j hj e=>by have:=hvb j e;omega));refine⟨⟨j+1,oz,si,hb5,qd (hc5.own H1.out (fun e=>by have:=hvb _ e;omega)),?_,qd ?_⟩,?_⟩
 ·intro k hk;have hk':g2=k:=by simpa[Value.ownBlock]using hk
  subst hk';rcases hg4 with h|h
  ·exact hvb _ h
  ·simp at h;omega
 ·rw[HTk.out,pU];exact hb4
 ·go_light;exact ml):p:=h
theorem aG4 (B:Nat) (hh:HF) (f:aC) (w:World) (hB:B<=w.heap.size) (hf:aZ B w hh f) (r1:1<=f.regs) (r2:f.regs<=64) (hnp:(f.params.length:Int)<=f.regs) :
 Calls Tryz.prog 28 #[aI hh f] w fun e w'=>∃ g c,e=.returned (.slice (some ⟨g,0,none⟩) f.regs.toNat c)/\kA w' g f.regs.toNat c (cL f)/\w.heap.size<=g/\Below w.heap.size w w':=by
 obtain⟨pa,pl,pc,ca,cl,cc⟩:=hh;obtain⟨h1,⟨hpl,hpm,pb,po,hpb,hpc⟩,h3,h4,h5⟩:=hf;dsimp only at *;subst hpl;have hpm':f.params.length<=9223372036854775807:=hpm;have HPB:=qd hpb;have HPC:=qd hpc;have HT:=qd (fun(j:Nat) (hj:j<f.regs.toNat)=>aOg f hj oz);have HE:Hid ((cL f).take f.regs.toNat=cL f):=qd (List.take_of_length_le (by unfold cL;simp;omega));obtain⟨rn,hrn⟩:∃ rn:Nat,f.regs=rn:=⟨f.regs.toNat,oz⟩
 have hrt:f.regs.toNat=rn:=oz
 rw[hrt]at HT HE ⊢;clear h1 h3 h4 h5 hpb hpc;unfold aI;dsimp only;generalize cL f=L at *;generalize f.params=ps at *;rw[hrn];clear hrt;have hr1:1<=rn:=oz
 have hr2:rn<=64:=oz
 have hpn:ps.length<=rn:=oz
 clear r1 r2 hnp hrn;go_enter Tryz.func28,Tryz.ntmps28;go_upto_region 3 with(fail)
 generalize hW0:World.alloc _ _=W0;have hb0:Below w.heap.size w W0:=by rw[<-hW0];exact bel
 have OF:aF W0 w.heap.size [.string f.name,.slice pa ps.length pc,.int .i64 rn,.int .i64 f.words,.slice ca cl cc]:=mR
 have T0:W0.ownsRow 0 47 2 (.slice (some ⟨w.heap.size+1,0,none⟩) 0 0) 0 []:=by rw[<-hW0];exact eE _ _ 2 si
 clear hW0;go_loopw [3,4] (fun v i wr=>∃ j:Nat,j<=rn/\i=.int .i64 j/\Below w.heap.size w wr/\Hid (aF wr w.heap.size [.string f.name,.slice pa ps.length pc,.int .i64 rn,.int .i64 f.words,.slice ca cl cc])/\(∀ k,v.ownBlock=some k->w.heap.size<k)/\Hid (wr.ownsRow 0 47 2 v j (bL (L.take j)))) (fun _ i _=>rn-(intOf i).toNat)
 case atStart =>
  refine⟨0,Nat.zero_le _,rfl,hb0,qd OF,fun k hk=>?_,qd T0⟩;have e:w.heap.size+1=k:=eL hk
  omega
 case round =>
  clear OF T0 hb0;obtain⟨j,hj,rfl,hbr,H1,hvb,hv⟩:=hrel;have f5:=aX H1.out;have hzr:=hbr.size;by_cases hlt:j<rn
  ·have d3:(j:Int)<(rn:Int):=oz
   have hwk:IntKind.i64.wrap ((j:Int)+1)=(j:Int)+1:=IntWalk.i64_in _ oz;have HTj:=qd (HT.out j hlt);by_cases hp:j<ps.length
   ·have d4:(j:Int)<(ps.length:Int):=oz
    obtain⟨rfl,hpbB⟩:=HPB.out oz;obtain⟨p0,p1,-,-⟩:=HPC.out j hp;have HTk:=qd (HTj.out.trans (by rw[if_pos hp]));have y0:=(hbr.cell (p:=⟨pb,po+j*2,none⟩) (by show pb<_;omega)).trans p0;have y1:=(hbr.cell (p:=⟨pb,po+j*2+1,none⟩) (by show pb<_;omega)).trans p1;clear p0 p1 HTj;generalize ps.getD j default=pp at *;obtain⟨plo,phi⟩:=pp;dsimp only at y0 y1;go_wp2_with (first|(at_builtin;refine bO rfl (.tmp 17) (.tmp 23) 39 47 2 16 (.agg #[.int .i64 0,.int .i64 0]) rfl Tryz.underlying39 Tryz.infoSp rfl dc _ _ _ rfl (aA bel hv.out) ⟨wr.heap.size,0,none⟩ 1 1 [.int .i64 plo,.int .i64 phi] rfl rfl (cC (aF.new' _ _ _ _ si)) (by intro u hu;simp at hu;rcases hu with rfl|rfl<;>rfl) bH oz dc ?_;intro g2 cap2 w4 hb4 hc4 hg4)|fail)
    exact aT4
   ·have d4:¬(j:Int)<(ps.length:Int):=oz
    have HTk:=qd (HTj.out.trans (by rw[if_neg hp]));clear HTj;go_wp2_with (first|(at_builtin;refine bO rfl (.tmp 25) (.tmp 27) 39 47 2 16 (.agg #[.int .i64 0,.int .i64 0]) rfl Tryz.underlying39 Tryz.infoSp rfl dc _ _ _ rfl (aA bel hv.out) ⟨wr.heap.size,0,none⟩ 1 1 [.int .i64 0,.int .i64 0] rfl rfl (cC (aF.new' _ _ _ _ si)) (by intro u hu;simp at hu;rcases hu with rfl|rfl<;>rfl) bH oz dc ?_;intro g2 cap2 w4 hb4 hc4 hg4)|fail)
    exact aT4
  ·obtain rfl:j=rn:=oz
   have d3:¬(j:Int)<(j:Int):=oz
   obtain⟨g,c,rfl,-,-,-⟩:=bB hv.out oz;have hgb:=hvb g rfl;have hv2:=hv.out;rw[HE.out]at hv2;have HV2:=qd hv2;clear hv2;go_wp2;go_ret;go_light;exact⟨g,c,rfl,HV2.out,oz,hbr⟩
theorem aBm (B:Nat) (pa ca:Option Addr) (pl pc cl cc rg:Nat) (f:aC) (w:World) (hB:B<=w.heap.size) (hf:aZ B w ⟨pa,pl,pc,ca,cl,cc⟩ f) (hrg:f.regs=rg) (r1:1<=f.regs) (r2:f.regs<=64) (hnp:(f.params.length:Int)<=f.regs) :
 Calls Tryz.prog 28 #[.agg #[.string f.name,.slice pa pl pc,.int .i64 rg,.int .i64 f.words,.slice ca cl cc]] w fun e w'=>∃ v,e=.returned v/\∃ g c,v=.slice (some ⟨g,0,none⟩) rg c/\kA w' g rg c (cL f)/\w.heap.size<=g/\Below w.heap.size w w':=by
 have h0:=aG4 B _ f w hB hf r1 r2 hnp;unfold aI at h0;rw[hrg,Int.toNat_natCast]at h0;exact h0.mono (by rintro e w'' ⟨g,c,rfl,h1,h2,h3⟩;exact⟨_,rfl,g,c,rfl,h1,h2,h3⟩)
theorem aFk {p:Prop}(h:p:=by
 exact aPb x B m hh f ta fa tl tc fl fc frm to_ b n c r w hB hf hfl hn1 hx hi hr hrg hn oz hrok):p:=h
theorem aEt (x:dJ) (B:Nat) (m:bA) (hh:HF) (f:aC) (ta fa:Option Addr) (tl tc fl fc:Nat) (frm:Nat) (to_:Int) (b n c:Nat) (r:List aB) (w:World) (hB:B<=w.heap.size) (hf:aZ B w hh f) (hfl:frm<f.code.length) (hn1:f.code.length<=1024) (hx:f.code.getD frm default=x) (hi:cY m f x) (hr:bF w b n c r) (hrg:(n:Int)=f.regs) (hn:n<=64) (hrok:gU n r) (hmo:cP B w (.agg #[.slice ta tl tc,.slice fa fl fc]) m) (hBb:B<=b) :
 Calls Tryz.prog 47 #[.agg #[.slice ta tl tc,.slice fa fl fc],aI hh f,.int .i64 frm,.int .i64 to_,.slice (some ⟨b,0,none⟩) n c] w (dX b n c w (gP m f frm to_ r)):=by
 unfold gP;rw[hx];have h0:=hi.op0;have h1:=hi.op1;obtain h|h|h|h|h|h|h|h|h|h|h|h|h|h|h|h|h|h|h|h:x.op=0\/x.op=1\/x.op=2\/x.op=3\/x.op=4\/x.op=5\/x.op=6\/x.op=7\/x.op=8\/x.op=9\/x.op=10\/x.op=11\/x.op=12\/x.op=13\/x.op=14\/x.op=15\/x.op=16\/x.op=17\/x.op=18\/x.op=19:=oz
 all_goals unfold gZ
 all_goals simp only[h,reduceIte,Int.reduceEq,Int.reduceLE,and_self,and_true,true_and,and_false,false_and,or_self,or_true,true_or,or_false,false_or]
 ·exact aQf x B m hh f ta fa tl tc fl fc frm to_ b n c r w hB hf hfl hn1 hx hi hr hrg hn h
 ·exact aPn x B m hh f ta fa tl tc fl fc frm to_ b n c r w hB hf hfl hn1 hx hi hr hrg hn h
 ·exact aK6 x B m hh f ta fa tl tc fl fc frm to_ b n c r w hB hf hfl hn1 hx hi hr hrg hn h
 ·exact aFk
 ·exact aFk
 ·exact aFk
 ·exact aN2 x B m hh f ta fa tl tc fl fc frm to_ b n c r w hB hf hfl hn1 hx hi hr hrg hn h hrok
 ·exact aN6 x B m hh f ta fa tl tc fl fc frm to_ b n c r w hB hf hfl hn1 hx hi hr hrg hn h hrok
 ·exact aFk
 ·exact aFk
 ·exact aQz x B m hh f ta fa tl tc fl fc frm to_ b n c r w hB hf hfl hn1 hx hi hr hrg hn h hrok
 ·exact aKz x B m hh f ta fa tl tc fl fc frm to_ b n c r w hB hf hfl hn1 hx hi hr hrg hn h
 ·exact aHd x B m hh f ta fa tl tc fl fc frm to_ b n c r w hB hf hfl hn1 hx hi hr hrg hn h
 ·exact aGv x B m hh f ta fa tl tc fl fc frm to_ b n c r w hB hf hfl hn1 hx hi hr hrg hn h
 ·exact aKn x B m hh f ta fa tl tc fl fc frm to_ b n c r w hB hf hfl hn1 hx hi hr hrg hn h
 ·exact aSs x B m hh f ta fa tl tc fl fc frm to_ b n c r w hB hf hfl hn1 hx hi hr hrg hn h
 ·exact aFb x B m hh f ta fa tl tc fl fc frm to_ b n c r w hB hf hfl hn1 hx hi hr hrg hn h
 ·exact aGl x B m hh f ta fa tl tc fl fc frm to_ b n c r w hB hf hfl hn1 hx hi hr hrg hn h hrok
 ·exact aMd x B m hh f ta fa tl tc fl fc frm to_ b n c r w hB hf hfl hn1 hx hi hr hrg hn h hrok
 ·exact aK1 x B m hh f ta fa tl tc fl fc frm to_ b n c r w hB hf hfl hn1 hx hi hr hrg hn hmo hBb h
theorem aCa {B:Nat}{w:World}{a:Option Addr}{n:Nat}{zs:List aB}(h:nC B w a n zs) (h0:0<n):∃ b o,a=some ⟨b,o,none⟩/\b<B/\∀ j u,(bL zs)[j]? = some u->w.cell? ⟨b,o+j,none⟩=some u:=by
 obtain⟨hl,_,b,o,hb,hc⟩:=h;obtain⟨rfl,hbB⟩:=hb h0;refine⟨b,o,rfl,hbB,fun j u hu=>?_⟩;have hj:j<(bL zs).length:=(List.getElem?_eq_some_iff.1 hu).1;rw[fT]at hj;have e:zs[j / 2]? = some (zs.getD (j / 2) default):=by rw[List.getD_eq_getElem?_getD,List.getElem?_eq_getElem (by omega)];rfl
 obtain⟨c0,c1,_⟩:=hc (j / 2) oz;have h2:j%2=0\/j%2=1:=oz
 rcases h2 with h2|h2
 ·have ej:j=j / 2*2+0:=oz
  rw[ej,fZ zs (j / 2) 0 (by omega),e]at hu;have hu':some (Value.int .i64 (zs.getD (j / 2) default).lo)=some u:=hu;rw[ej,<-hu'];exact c0
 ·have ej:j=j / 2*2+1:=oz
  rw[ej,fZ zs (j / 2) 1 (by omega),e]at hu;have hu':some (Value.int .i64 (zs.getD (j / 2) default).hi)=some u:=hu;rw[ej,<-hu'];exact c1
theorem bF.src {W:World}{b n c:Nat}{r:List aB}(h:bF W b n c r):∀ j u,(bL r)[j]? = some u->W.cell? ⟨b,j,none⟩=some u:=fun j u hu=>by
 obtain⟨c',h⟩:=h;exact aH h hu
/-- Clone of spans: what it hands back, as a value of whatever form -/
def aIo (n:Nat) (r:List aB) (w:World) (v:Value) (w':World):Prop:=∃ va vc,v=.slice va n vc/\n<=vc/\(vc:Int)<=9223372036854775807/\(va=none->n=0/\vc=0)/\((va=none/\n=0)\/∃ b,va=some ⟨b,0,none⟩/\w.heap.size<=b/\∀ c,bF w' b n c r)/\Below w.heap.size w w'
theorem tL (a:Option Addr) (n c:Nat) (r:List aB) (w:World) (hl:r.length=n) (hs:0<n->∃ b o,a=some ⟨b,o,none⟩/\b<w.heap.size/\∀ j u,(bL r)[j]? = some u->w.cell? ⟨b,o+j,none⟩=some u) (hn:n<=64) :
 Calls Tryz.prog 21 #[.slice a n c] w fun e w'=>∃ v,e=.returned v/\aIo n r w v w' :=
 (aKo a n c r w hl hs hn).mono (by
  rintro e w' ⟨v,rfl,h1,h2,h3⟩;refine⟨v,rfl,?_⟩;rcases bU h1 with⟨rfl,rfl,_⟩|⟨g,cap,rfl,h4,h5,_⟩
  ·exact⟨none,0,rfl,Nat.le_refl _,oz,fun _=>⟨rfl,rfl⟩,.inl ⟨rfl,rfl⟩,h2⟩
  ·exact⟨_,cap,rfl,h4,(by unfold maxLen at h5;omega),fun h=>(by cases h),.inr ⟨g,rfl,h3 g rfl,fun c=>⟨_,h1⟩⟩,h2⟩)
theorem aJr (a:Option Addr) (n c:Nat) (w:World) (hnc:n<=c) (hc:(c:Int)<=9223372036854775807) (ha:a=none->n=0/\c=0):Calls Tryz.prog 20 #[.slice a n c] w fun e w'=>∃ v,e=.returned v/\v=.slice a n n/\w'=w :=
 (aN1 a n c w hnc hc ha).mono (by rintro e w' ⟨rfl,rfl⟩;exact⟨_,rfl,rfl,rfl⟩)
theorem rS (w:World) (ty:TypeId) (a:Option Addr) (n k:Nat) (r:List aB) (hl:r.length=n) (hr:(a=none/\n=0)\/∃ b,a=some ⟨b,0,none⟩/\∀ c,bF w b n c r) (h0:0<n+k) (hn:n+k<=64) :
 ∃ g cap w',(Builtin.append_ #[39,3] ty #[.slice a n n,.int .i64 k]).run Tryz.prog w=.ok (.slice (some ⟨g,0,none⟩) (n+k) cap) w'/\bF w' g (n+k) cap (r++List.replicate k ⟨0,0⟩)/\Below w.heap.size w w'/\(g=w.heap.size\/a=some ⟨g,0,none⟩):=by
 by_cases hk:0<k
 ·obtain⟨cap,w',h1,h2,h3⟩:=aDz w ty a n k r hl (fun hn0=>by
   rcases hr with⟨_,h⟩|⟨b,h,h2⟩
   ·omega
   ·exact⟨b,h,(h2 0).src⟩) hk hn
  exact⟨_,cap,w',h1,h2,h3,.inl rfl⟩
 ·have hk0:k=0:=oz
  subst hk0;rcases hr with⟨_,h⟩|⟨b,rfl,h2⟩
  ·omega
  ·obtain⟨i0,hi,hz0,hz1,hz2⟩:=info_parts Tryz.infoSp;have htn:Tryz.prog.underlying 3=some (.int .i64):=kr
   refine⟨b,n,w,?_,by simpa using h2 n,Below.refl _ _,.inr rfl⟩;have hw0:IntKind.i64.wrap 0=0:=by rw[IntKind.wrap_i64];omega
   simp[hw0,storeCells,Builtin.append_,run_underlying Tryz.underlying39,run_underlying htn,sizeOf,typeInfo,zeroValue,hi,hz0,asInt,asIntOf]
theorem xB {P:Program}{ops:Array Oper}{o:Oper}{a:Act}{w:World}{K:Act->World->Prop}{Q:Exit->Act->World->Prop}{E:Prop}(hg:o.guard=none) (s x:Operand) (t tn:TypeId)
 (ho:o.op=.call { callee:=.builtin .append,args:=#[s,x],argTypes:=#[t,tn] }) (vs vx:Value) (hs:a.eval s=vs) (hx:a.eval x=vx)
 (v':Value) (w':World) (hr:(Builtin.append_ #[t,tn] o.type #[vs,vx]).run P w=.ok v' w') (h:K (a.put o.dst v') w'):if Region.wanted o (yielded ops a.tmps)=true then o.wp P a w K Q else E:=by
 have hw:Region.wanted o (yielded ops a.tmps)=true:=by simp[Region.wanted,hg]
 rw[if_pos hw];exact Lib.wp_append_run w s x t tn ho vs vx hs hx v' w' hr h
section
attribute [local go_sem] Oper.semAt_some
theorem aWe (W:World) (b:Nat) (u v:Value):aG (· = b) W ((W.setCell ⟨b,0,none⟩ u).setCell ⟨b,1,none⟩ v) :=
 aG.setCell (S:=(· = b)) (aG.setCell (S:=(· = b)) (aG.refl _ _) (p:=⟨b,0,none⟩) (Or.inl rfl) _) (p:=⟨b,1,none⟩) (Or.inl rfl) _
/-- what Run hands back, where nothing is wrong: the spans that stand when no mark is left -/
def aUl (m:bA) (fn:Nat) (w:World) (e:Ending) (w':World):Prop:=∃ (N rg:Nat) (A:yU) (s:fF),(bX m fn).regs=rg/\fO m (bX m fn) (fL (bX m fn)) s /\
 e=.returned (.tuple #[.agg #[.slice (some ⟨A.ib,0,none⟩) (bX m fn).code.length A.ic,.slice (some ⟨A.cb,0,none⟩) (bX m fn).code.length A.cc],.int .i64 0])/\kR N w' A (bX m fn).code.length rg s/\rC (bX m fn).code.length rg s/\w.heap.size<=N/\Below w.heap.size w w'
theorem xH {p:Prop}(h:p:=by
 show w.heap.size<=w.heap.size+1;omega):p:=h
theorem aQp {p:Prop}(h:p:=by
 rcases hur with⟨_,h0⟩|⟨b,h1,h2,h3⟩;omega;exact⟨b,h1,h2,h3⟩):p:=h
theorem aU6 (B:Nat) (m:bA) (fn:Nat) (ta fa:Option Addr) (tl tc fl fc:Nat) (w:World) (hB:B<=w.heap.size) (hB0:0<B) (hmo:cP B w (.agg #[.slice ta tl tc,.slice fa fl fc]) m) (hr:eO w) (he:(dS m).e=0) (hfn:fn<m.funcs.length) :
 Calls Tryz.prog 16 #[.agg #[.slice ta tl tc,.slice fa fl fc],.int .i64 fn] w (aUl m fn w):=by
 have HM:=qd hmo;have HRW:=qd hr;have HMay:=qd (fun w' hw hr'=>yE B (.agg #[.slice ta tl tc,.slice fa fl fc]) m w' hw hB0 hr');rw[he]at HMay;obtain⟨_,_,_,_,_,_,hv,⟨htl,htm,-⟩,hfs⟩:=hmo;cases hv;obtain⟨hfl1,hfl2,fb,fo,hfb,H,hH⟩:=hfs;obtain⟨rfl,hfbB⟩:=hfb oz;obtain⟨hcells,hfo⟩:=hH fn oz;generalize H fn=hh at *;generalize hff:m.funcs.getD fn default=f at *;obtain⟨pa,pl,pc,ca,cl,cc⟩:=hh;have hcl:f.code.length=cl:=hfo.2.2.1.1;subst hcl;obtain⟨g0,g1,g2,g3,g4⟩:=hcells;dsimp only at g0 g1 g2 g3 g4;have hfnl:(fn:Int)<(fl:Int):=oz
 have q1:¬(fn:Int)<0:=oz
 have q2:decide ((fl:Int)<=(fn:Int))=false:=by simp;omega
 have q3:decide ((fn:Int)<0)=false:=si
 have hfine:=nE he;have hff1:=hfine.fn fn hfn;have hfe:bX m fn=f:=hff;rw[hfe]at hff1;obtain⟨rg,hrg⟩:∃ rg:Nat,f.regs=rg:=⟨f.regs.toNat,by have:=hff1.r1;omega⟩
 have hrg0:0<rg:=by have:=hff1.r1;omega
 have hrg64:rg<=64:=by have:=hff1.r2;omega
 have hn0:0<f.code.length:=hff1.c1;have hn1:f.code.length<=1024:=hff1.c2;have hpl:f.params.length<=rg:=by have:=hff1.np;omega
 rw[hrg]at g2;have HRG:=qd hrg;have HFF:=qd hff1;have HFE:=qd hfe;have HFI:=qd hfine;have HE:=qd he;have HFO:=qd hfo;clear hfine hff1 hfe hrg hff;clear hH hfb hfo;refine(callsIn_wide (n:=3)).1 ?_;refine callsIn_of_wp_marks Tryz.func16 rfl trivial ?_ rfl;refine wpIn_wide.2 ?_;simp only[Tryz.ntmps16,List.size_toArray,List.length_cons,List.length_nil,Nat.reduceAdd,Nat.reduceSub,Array.replicate_succ,Array.replicate_zero,List.push_toArray,List.append_toArray,List.nil_append,List.cons_append];go_wp2;generalize hW0:World.alloc _ _=W0;have hb0:Below w.heap.size w W0:=by rw[<-hW0];exact bel
 have OM:aF W0 w.heap.size [.slice ta tl tc,.slice (some ⟨fb,fo,none⟩) fl fc]:=mR
 have OA:aF W0 (w.heap.size+1) [.slice none 0 0,.slice none 0 0]:=lG
 have hz0:w.heap.size+2=W0.heap.size:=by rw[<-hW0];simp
 have hz0':w.heap.size+2<=W0.heap.size:=oz
 have m2:=aD OM;have HC:=qd (HMay.out W0 oz (HM.out.same (aQ.of hb0 hB)) (HRW.out.same (aQ.of hb0 lr) HRW.out.1 hb0.size));clear hW0 HMay hz0;go_step3;go_upto_region 6 with(first|(go_at_call 44;refine HC.out.mono ?_;rintro e w1 ⟨rfl,hb1⟩;have m2b:=aD (OM.below hb1);clear m2)|fail)
 have hz1:=hb1.size;generalize hW2:World.alloc _ _=W2;have hbA:Below w1.heap.size w1 W2:=by rw[<-hW2];exact eN
 have hz2:=hbA.size;have hb2:Below w.heap.size w W2:=(hb0.trans (hb1.mono oz)).trans (hbA.mono oz);have OM2:=(OM.below hb1).below hbA;have OA2:=(OA.below hb1).below hbA;have m2':=aD OM2;have sm:=aQ.of hb2 hB;rw[<-sm _ _ (by show fb<B;omega)]at g0 g1 g2 g3 g4;clear hW2 m2b hbA OM OA HC hb1;have hm34:=run_make_row' (P:=Tryz.prog) 58 39 (.slice none 0 0) 24 Tryz.underlying58 kr rfl .i64 .i64 f.code.length oz oz;have hm35:=run_make_row' (P:=Tryz.prog) 59 50 (.slice none 0 0) 24 Tryz.underlying59 kr rfl .i64 .i64 f.code.length oz oz;have hm69:=run_make_row' (P:=Tryz.prog) 89 4 (.bool false) 1 Tryz.underlying89 kr rfl .i64 .i64 f.code.length oz oz;have hm47:=run_make_row' (P:=Tryz.prog) 50 3 (.int .i64 0) 8 Tryz.underlying50 Tryz.infoI rfl .i64 .i64 f.code.length oz oz;have hmc:∀ z:Value,madeCells #[z] f.code.length=(List.replicate f.code.length z).toArray:=aDl f.code.length;rw[hmc]at hm34 hm35 hm69 hm47;have hml:f.code.length<=maxLen:=by unfold maxLen;omega
 go_upto_region 8 with(fail)
 generalize hW5:World.alloc _ _=W5;have hb5:Below w.heap.size w W5:=by rw[<-hW5];exact bel
 have OF5:aF W5 W2.heap.size [.string f.name,.slice pa pl pc,.int .i64 rg,.int .i64 f.words,.slice ca f.code.length cc]:=by rw[<-hW5];exact aF.new _ _ _
 have OM5:aF W5 w.heap.size [.slice ta tl tc,.slice (some ⟨fb,fo,none⟩) fl fc]:=by rw[<-hW5];exact OM2.alloc _
 have OA5:aF W5 (w.heap.size+1) [.slice none 0 0,.slice none 0 0]:=by rw[<-hW5];exact OA2.alloc _
 have hz5:W2.heap.size+1=W5.heap.size:=by rw[<-hW5];simp
 have hz5':W2.heap.size+1<=W5.heap.size:=oz
 clear hW5 hz5 OM2 OA2 hb2 m2' g0 g1 g2 g3 g4 sm;generalize hA0:(Act.mk _ _:Act)=a0;have e8:a0.eval (.tmp 8)=.int .i64 f.code.length:=by rw[<-hA0];rfl
 have hsz:a0.tmps.size=143:=by rw[<-hA0];rfl
 refine aDa kr kr kr (by rw[hsz];kernel_rfl) [some 42,some 43,some 44,some 45,some 46,some 47,some 48,some 49,some 50,some 51,some 52,some 9,none] kr kr (fun L V W=>L.size=13/\∃ tg,gA f.code.length W5 L V W tg) (fun V=>⟨si,_,gA.start _ _ V (Below.refl _ _).drew⟩) ?_ ?_
 ·intro i o L V ev W ho hlt hne hd hc hcst hun hev hF;obtain⟨hLs,tg,hF⟩:=hF;have e8':ev (.tmp 8)=.int .i64 f.code.length:=(hun 8 (aIa kr)).trans e8;have hi:i<13:=by rw[<-hLs];exact hlt
  obtain rfl|rfl|rfl|rfl|rfl|rfl|rfl|rfl|rfl|rfl|rfl|rfl|rfl:i=0\/i=1\/i=2\/i=3\/i=4\/i=5\/i=6\/i=7\/i=8\/i=9\/i=10\/i=11\/i=12:=oz
  ·cases ho;have hl12:¬L.getD 12 false=true:=fun h=>hne (hc 12 _ rfl h ⟨0,.phase⟩ si rfl);exact .inl ⟨_,W,by simp[execOp,e8',go_sem],by simpa using hLs,tg,hF.s0 hlt hl12⟩
  ·cases ho;have hl12:¬L.getD 12 false=true:=fun h=>hne (hc 12 _ rfl h ⟨1,.phase⟩ si rfl);have d0:L.getD 0 false=true:=hd ⟨0,.data⟩ si rfl;have ed:ev (.tmp 42)=.int .i64 f.code.length:=(hev 0 42 rfl d0).trans (hF.num 0 si d0);have nb4:¬L.getD 4 false=true:=fun h=>hne (hc 4 _ rfl h ⟨1,.data⟩ si rfl);have nb9:¬L.getD 9 false=true:=fun h=>nb4 (hc 9 _ rfl h ⟨4,.data⟩ si rfl);have nb10:¬L.getD 10 false=true:=fun h=>nb9 (hc 10 _ rfl h ⟨9,.data⟩ si rfl);exact .inl ⟨_,_,by unfold execOp;simp only[GE,ed,Sem.run_bind,Sem.run_pure,Result.andThen_ok,hm34],by simpa using hLs,_,hF.s1 hlt hl12 nb9 nb10 nb4 hml⟩
  ·cases ho;have hl12:¬L.getD 12 false=true:=fun h=>hne (hc 12 _ rfl h ⟨2,.phase⟩ si rfl);exact .inl ⟨_,W,by simp[execOp,e8',go_sem],by simpa using hLs,tg,hF.s2 hlt hl12⟩
  ·cases ho;have hl12:¬L.getD 12 false=true:=fun h=>hne (hc 12 _ rfl h ⟨3,.phase⟩ si rfl);have d2:L.getD 2 false=true:=hd ⟨2,.data⟩ si rfl;have ed:ev (.tmp 44)=.int .i64 f.code.length:=(hev 2 44 rfl d2).trans (hF.num 2 si d2);have nb4:¬L.getD 4 false=true:=fun h=>hne (hc 4 _ rfl h ⟨3,.data⟩ si rfl);have nb9:¬L.getD 9 false=true:=fun h=>nb4 (hc 9 _ rfl h ⟨4,.data⟩ si rfl);have nb10:¬L.getD 10 false=true:=fun h=>nb9 (hc 10 _ rfl h ⟨9,.data⟩ si rfl);exact .inl ⟨_,_,by unfold execOp;simp only[GE,ed,Sem.run_bind,Sem.run_pure,Result.andThen_ok,hm35],by simpa using hLs,_,hF.s3 hlt hl12 nb9 nb10 nb4 hml⟩
  ·cases ho;have hl12:¬L.getD 12 false=true:=fun h=>hne (hc 12 _ rfl h ⟨4,.phase⟩ si rfl);have d1:L.getD 1 false=true:=hd ⟨1,.data⟩ si rfl;have d3:L.getD 3 false=true:=hd ⟨3,.data⟩ si rfl;obtain⟨b1,hv1,-,-⟩:=hF.r1 d1;have e1:ev (.tmp 43)=.slice (some ⟨b1,0,none⟩) f.code.length f.code.length:=(hev 1 43 rfl d1).trans hv1;obtain⟨b3,hv3,-,-⟩:=hF.r3 d3;have e3:ev (.tmp 45)=.slice (some ⟨b3,0,none⟩) f.code.length f.code.length:=(hev 3 45 rfl d3).trans hv3;exact .inl ⟨.agg #[V 1,V 3],W,by rw[hv1,hv3];simp[execOp,e1,e3,go_sem],by simpa using hLs,tg,hF.s4 hlt hl12 d1 d3⟩
  ·cases ho;have hl12:¬L.getD 12 false=true:=fun h=>hne (hc 12 _ rfl h ⟨5,.phase⟩ si rfl);exact .inl ⟨_,W,by simp[execOp,e8',go_sem],by simpa using hLs,tg,hF.s5 hlt hl12⟩
  ·cases ho;have hl12:¬L.getD 12 false=true:=fun h=>hne (hc 12 _ rfl h ⟨6,.phase⟩ si rfl);have d5:L.getD 5 false=true:=hd ⟨5,.data⟩ si rfl;have ed:ev (.tmp 47)=.int .i64 f.code.length:=(hev 5 47 rfl d5).trans (hF.num 5 si d5);have nb9:¬L.getD 9 false=true:=fun h=>hne (hc 9 _ rfl h ⟨6,.data⟩ si rfl);have nb10:¬L.getD 10 false=true:=fun h=>nb9 (hc 10 _ rfl h ⟨9,.data⟩ si rfl);exact .inl ⟨_,_,by unfold execOp;simp only[GE,ed,Sem.run_bind,Sem.run_pure,Result.andThen_ok,hm69],by simpa using hLs,_,hF.s6 hlt hl12 nb9 nb10 hml⟩
  ·cases ho;have hl12:¬L.getD 12 false=true:=fun h=>hne (hc 12 _ rfl h ⟨7,.phase⟩ si rfl);exact .inl ⟨_,W,by simp[execOp,e8',go_sem],by simpa using hLs,tg,hF.s7 hlt hl12⟩
  ·cases ho;have hl12:¬L.getD 12 false=true:=fun h=>hne (hc 12 _ rfl h ⟨8,.phase⟩ si rfl);have d7:L.getD 7 false=true:=hd ⟨7,.data⟩ si rfl;have ed:ev (.tmp 49)=.int .i64 f.code.length:=(hev 7 49 rfl d7).trans (hF.num 7 si d7);have nb9:¬L.getD 9 false=true:=fun h=>hne (hc 9 _ rfl h ⟨8,.data⟩ si rfl);have nb10:¬L.getD 10 false=true:=fun h=>nb9 (hc 10 _ rfl h ⟨9,.data⟩ si rfl);exact .inl ⟨_,_,by unfold execOp;simp only[GE,ed,Sem.run_bind,Sem.run_pure,Result.andThen_ok,hm47],by simpa using hLs,_,hF.s8 hlt hl12 nb9 nb10 hml⟩
  ·cases ho;have hl12:¬L.getD 12 false=true:=fun h=>hne (hc 12 _ rfl h ⟨9,.phase⟩ si rfl);have d4:L.getD 4 false=true:=hd ⟨4,.data⟩ si rfl;have d6:L.getD 6 false=true:=hd ⟨6,.data⟩ si rfl;have d8:L.getD 8 false=true:=hd ⟨8,.data⟩ si rfl;have d1:L.getD 1 false=true:=hc 4 _ rfl d4 ⟨1,.data⟩ si rfl;have d3:L.getD 3 false=true:=hc 4 _ rfl d4 ⟨3,.data⟩ si rfl;obtain⟨b1,hv1,-,-⟩:=hF.r1 d1;have e1:ev (.tmp 43)=.slice (some ⟨b1,0,none⟩) f.code.length f.code.length:=(hev 1 43 rfl d1).trans hv1;obtain⟨b3,hv3,-,-⟩:=hF.r3 d3;have e3:ev (.tmp 45)=.slice (some ⟨b3,0,none⟩) f.code.length f.code.length:=(hev 3 45 rfl d3).trans hv3;obtain⟨b6,hv6,-,-⟩:=hF.r6 d6;have e6:ev (.tmp 48)=.slice (some ⟨b6,0,none⟩) f.code.length f.code.length:=(hev 6 48 rfl d6).trans hv6;obtain⟨b8,hv8,-,-⟩:=hF.r8 d8;have e8:ev (.tmp 50)=.slice (some ⟨b8,0,none⟩) f.code.length f.code.length:=(hev 8 50 rfl d8).trans hv8;have e4:ev (.tmp 46)=.agg #[.slice (some ⟨b1,0,none⟩) f.code.length f.code.length,.slice (some ⟨b3,0,none⟩) f.code.length f.code.length]:=by rw[hev 4 46 rfl d4,hF.b4 d4,hv1,hv3]
   exact .inl ⟨.agg #[V 1,V 3,V 6,V 8],W,by rw[hv1,hv3,hv6,hv8];simp[execOp,e4,e6,e8,go_sem],by simpa using hLs,tg,hF.s9 hlt hl12⟩
  ·cases ho;have hl12:¬L.getD 12 false=true:=fun h=>hne (hc 12 _ rfl h ⟨10,.phase⟩ si rfl);have d9:L.getD 9 false=true:=hd ⟨9,.data⟩ si rfl;have d4:L.getD 4 false=true:=hc 9 _ rfl d9 ⟨4,.data⟩ si rfl;have d6:L.getD 6 false=true:=hc 9 _ rfl d9 ⟨6,.data⟩ si rfl;have d8:L.getD 8 false=true:=hc 9 _ rfl d9 ⟨8,.data⟩ si rfl;have d1:L.getD 1 false=true:=hc 4 _ rfl d4 ⟨1,.data⟩ si rfl;have d3:L.getD 3 false=true:=hc 4 _ rfl d4 ⟨3,.data⟩ si rfl;obtain⟨b1,hv1,-,-⟩:=hF.r1 d1;have e1:ev (.tmp 43)=.slice (some ⟨b1,0,none⟩) f.code.length f.code.length:=(hev 1 43 rfl d1).trans hv1;obtain⟨b3,hv3,-,-⟩:=hF.r3 d3;have e3:ev (.tmp 45)=.slice (some ⟨b3,0,none⟩) f.code.length f.code.length:=(hev 3 45 rfl d3).trans hv3;obtain⟨b6,hv6,-,-⟩:=hF.r6 d6;have e6:ev (.tmp 48)=.slice (some ⟨b6,0,none⟩) f.code.length f.code.length:=(hev 6 48 rfl d6).trans hv6;obtain⟨b8,hv8,-,-⟩:=hF.r8 d8;have e8:ev (.tmp 50)=.slice (some ⟨b8,0,none⟩) f.code.length f.code.length:=(hev 8 50 rfl d8).trans hv8;have e9:ev (.tmp 51)=.agg #[.slice (some ⟨b1,0,none⟩) f.code.length f.code.length,.slice (some ⟨b3,0,none⟩) f.code.length f.code.length,.slice (some ⟨b6,0,none⟩) f.code.length f.code.length,.slice (some ⟨b8,0,none⟩) f.code.length f.code.length]:=by rw[hev 9 51 rfl d9,hF.b9 d9,hv1,hv3,hv6,hv8]
   refine .inl ⟨_,_,?_,by simpa using hLs,_,hF.s10 hlt hl12⟩;rw[hv1,hv3,hv6,hv8];simp[execOp,e9,go_sem]
  ·cases ho;have hl12:¬L.getD 12 false=true:=fun h=>hne (hc 12 _ rfl h ⟨11,.phase⟩ si rfl);refine .inl ⟨_,_,?_,by simpa using hLs,_,hF.s11 hlt hl12⟩;simp[execOp,go_sem]
  ·cases ho;have d11:L.getD 11 false=true:=hd ⟨11,.data⟩ si rfl;have d10:L.getD 10 false=true:=hd ⟨10,.data⟩ si rfl;obtain⟨p,hp,-,hown⟩:=hF.pt d11;rw[if_neg hne]at hown;obtain⟨k,hk,-,-⟩:=hF.st d10;have o9:=dG hown;have e11:ev (.tmp 9)=.pointer (some ⟨p,0,none⟩):=(hev 11 9 rfl d11).trans hp;have e10:ev (.tmp 52)=.pointer (some ⟨k,0,none⟩):=(hev 10 52 rfl d10).trans hk;refine .inr ⟨_,?_,by simpa using hLs,_,hF.s12 hlt hne d11 hp undef⟩;rw[hk];simp[execOp,e11,e10,go_sem,o9.2.1,o9.2.2]
 ·rintro L V W hL ⟨hLs,tg,hF⟩;have l:∀ i,i<13->L.getD i false=true:=hL;obtain⟨b1,v1,r1,t1⟩:=hF.r1 (l 1 dc);obtain⟨b3,v3,r3,t3⟩:=hF.r3 (l 3 dc);obtain⟨b6,v6,r6,t6⟩:=hF.r6 (l 6 dc);obtain⟨b8,v8,r8,t8⟩:=hF.r8 (l 8 dc);obtain⟨k,v10,hst,tk⟩:=hF.st (l 10 dc);obtain⟨p,v11,tp,hpt⟩:=hF.pt (l 11 dc);rw[if_pos (l 12 (by decide)),v10]at hpt;rw[v1,v3,v6,v8]at hst;rw[v1]at r1;rw[v3]at r3;rw[v6]at r6;rw[v8]at r8;have w0:=hF.num 0 si (l 0 dc);have w2:=hF.num 2 si (l 2 dc);have w5:=hF.num 5 si (l 5 dc);have w7:=hF.num 7 si (l 7 dc);have w4:=hF.b4 (l 4 dc);have w9:=hF.b9 (l 9 dc);have hbel:=hF.bel;have hfr:=hF.fr;have hlo:=hF.lo;rw[v1,v3]at w4;rw[v1,v3,v6,v8]at w9;simp only[xO,Nat.zero_add,Nat.reduceAdd];rw[v1,w0,w2,v3,w4,w5,v6,w7,v8,w9,v10,v11];subst hA0
  try clear Ee
  simp only[GE,Act.put,SU];have hpk:k≠p:=fun e=>by rw[e]at tk;omega
  have hp1:b1≠p:=fun e=>by rw[e]at t1;omega
  have hp3:b3≠p:=fun e=>by rw[e]at t3;omega
  have hp6:b6≠p:=fun e=>by rw[e]at t6;omega
  have hp8:b8≠p:=fun e=>by rw[e]at t8;omega
  have hpl2:=hpt.1;have htg0:∀ x,x<W5.heap.size->cV tg p 0 x=0:=fun x hx=>by
   by_cases e:x=p
   ·subst e;exact cD _ _ _
   ·rw[bN _ _ e];exact Classical.byContradiction fun h=>by have:=hlo x h;omega
  have HI:Hid (oA W5.heap.size W { k:=k,ib:=b1,ic:=f.code.length,cb:=b3,cc:=f.code.length,mb:=b6,mc:=f.code.length,jb:=b8,jc:=f.code.length,iv:=fun _=>none,cv:=fun _=>(0,0),tg:=cV tg p 0 } f.code.length rg 0):=qd (by
   refine⟨hst,r1,?_,r6,r8,fun v hv=>absurd hv (Nat.not_lt_zero v),by dsimp only;rw[bN _ _ hpk];exact tk,by dsimp only;rw[bN _ _ hp1];exact t1,by dsimp only;rw[bN _ _ hp3];exact t3,by dsimp only;rw[bN _ _ hp6];exact t6,by dsimp only;rw[bN _ _ hp8];exact t8,fun b hb=>?_,fun b hb=>?_,Nat.zero_le _⟩
   ·have e:(List.range f.code.length).map (fun v=>if v<0 then mX rg ((0:Nat),(0:Nat))else Value.slice none 0 0)=List.replicate f.code.length (.slice none 0 0):=by
     simp[List.eq_replicate_iff]
    dsimp only;rw[e];exact r3
   ·dsimp only;rw[bN _ _ (by omega)];exact hfr b hb
   ·dsimp only at hb;by_cases e:b=p
    ·subst e;rw[cD]at hb;omega
    ·rw[bN _ _ e]at hb;exact hlo b hb)
  have HB:Hid (oC W (cV tg p 0) w.heap.size (w.heap.size+1) W2.heap.size p k [.slice ta tl tc,.slice (some ⟨fb,fo,none⟩) fl fc] [.string f.name,.slice pa pl pc,.int .i64 rg,.int .i64 f.words,.slice ca f.code.length cc]):=qd ⟨OM5.below hbel,OA5.below hbel,OF5.below hbel,hpt,htg0 _ oz,htg0 _ oz,htg0 _ oz,cD _ _ _⟩;have hbW:Below w.heap.size w W:=hb5.trans (hbel.mono hb5.size);have hb5w:=hb5;have hzW:=hbel.size;have HBE:=qd hbel;clear r1 r3 r6 r8 t1 t3 t6 t8 tk tp hst hpt v1 v3 v6 v8 v10 v11 w0 w2 w4 w5 w7 w9 hbel hfr hlo hF l hL hLs hpk hp1 hp3 hp6 hp8 htg0 OM5 OA5 OF5 hb5 hm34 hm35 hm69 hm47 hmc hml e8 hsz;have hm47r:=run_make_row' (P:=Tryz.prog) 50 3 (.int .i64 0) 8 Tryz.underlying50 Tryz.infoI rfl .i64 .i64 rg oz oz;rw[aDl]at hm47r;go_wp2;go_loopw [54] (fun i wx=>∃ (j:Nat) (cv:Nat->Nat×Nat) (tg':Nat->Nat),j<=f.code.length/\i=.int .i64 j/\Hid (oA W5.heap.size wx { k:=k,ib:=b1,ic:=f.code.length,cb:=b3,cc:=f.code.length,mb:=b6,mc:=f.code.length,jb:=b8,jc:=f.code.length,iv:=fun _=>none,cv:=cv,tg:=tg' } f.code.length rg j)/\Hid (oC wx tg' w.heap.size (w.heap.size+1) W2.heap.size p k [.slice ta tl tc,.slice (some ⟨fb,fo,none⟩) fl fc] [.string f.name,.slice pa pl pc,.int .i64 rg,.int .i64 f.words,.slice ca f.code.length cc])/\Below W5.heap.size W5 wx) (fun i _=>f.code.length-(intOf i).toNat)
  case atStart=>exact⟨0,_,_,Nat.zero_le _,rfl,HI,HB,HBE.out⟩
  case round =>
   clear HI HB;obtain⟨j,cv,tg',hj,rfl,HI,HB,hbx⟩:=hrel;have hzx:=hbx.size;have k4:=hU HI.out.st;have f5:=aX HB.out.cf;have p1:=dG HB.out.cp;by_cases hjt:j<f.code.length
   ·have d3:(j:Int)<(f.code.length:Int):=oz
    have hwj:IntKind.i64.wrap ((j:Int)+1)=(j:Int)+1:=IntWalk.i64_in _ oz;have c0:wr.cell? ⟨b3,j,none⟩=some (.slice none 0 0):=aH HI.out.rc (by simp[hjt]);have z0:wr.frozen? ⟨b3,j,none⟩=false:=HI.out.rc.frozenAt _;have hb3L:=bJ HI.out.rc;have htc:tg' b3=3:=HI.out.tc;have htk:tg' k=1:=HI.out.tk;have htp:tg' p=0:=HB.out.tp;have htf:tg' W2.heap.size=0:=HB.out.tf;have HSS:Hid (∀ w',aG (· = b3) wr w'->w'.cell? ⟨p,0,none⟩=some (.pointer (some ⟨k,0,none⟩))/\w'.cell? ⟨k,1,none⟩=some (.slice (some ⟨b3,0,none⟩) f.code.length f.code.length)/\w'.cell? ⟨W2.heap.size,2,none⟩=some (.int .i64 rg)):=qd (fun w' hw=>by
     have k4:=hU (hw.own HI.out.st (fun e=>by have e':k=b3:=e;rw[e']at htk;omega));have f5:=aX (hw.own HB.out.cf (fun e=>by rw[e]at htf;omega));have p1:=dG (hw.own HB.out.cp (fun e=>by rw[e]at htp;omega));exact⟨p1.2.1,k4.2.2.1,f5.2.2.2.1⟩)
    go_upto_region 12 with(fail)
    clear k4 f5 p1;generalize hA0:(Act.mk _ _:Act)=a0;have Ee:a0.eval (.tmp 9)=.pointer (some ⟨p,0,none⟩)/\a0.eval (.tmp 10)=.int .i64 j/\a0.eval (.tmp 7)=.pointer (some ⟨W2.heap.size,0,none⟩)/\a0.tmps.size=143:=by rw[<-hA0];exact⟨rfl,rfl,rfl,rfl⟩
    refine aE (fun w'=>aG (· = b3) wr w') kr ((aG.refl _ wr).drew) ?_;intro K0 hK0 hHeld
    try dsimp only at hHeld
    refine aL 0 rfl ?_;refine aL 1 rfl ?_;refine aL 2 rfl ?_;refine aL 3 rfl ?_;refine aL 4 rfl ?_;refine aL 5 rfl ?_;refine aL 6 rfl ?_;refine aL 7 rfl ?_;generalize hA1:(Act.put _ _ _:Act)=a1;replace Ee:a1.eval (.tmp 61)=.slice (some ⟨b3,0,none⟩) f.code.length f.code.length/\a1.eval (.tmp 62)=.int .i64 j/\a1.eval (.tmp 64)=.int .i64 rg/\a1.tmps.size=143:=oZ;refine fD 8 rfl fun K hK=>?_;refine aEv rfl (.slice (some ⟨wr.heap.size,0,none⟩) rg rg) _ (by unfold execOp;simp only[GE,Ee,Sem.run_bind,Sem.run_pure,Result.andThen_ok,hm47r];rfl) ?_;refine hK.out _ _ (chq) fun hHeld=>?_;clear hK K;generalize hA2:(Act.put _ _ _:Act)=a2;replace Ee:a2.eval (.tmp 61)=.slice (some ⟨b3,0,none⟩) f.code.length f.code.length/\a2.eval (.tmp 62)=.int .i64 j/\a2.eval (.tmp 65)=.slice (some ⟨wr.heap.size,0,none⟩) rg rg/\a2.tmps.size=143:=mQ;refine aL 9 rfl ?_;generalize hA3:(Act.put _ _ _:Act)=a3;replace Ee:a3.eval (.tmp 66)=.pointer (some ⟨b3,j,none⟩)/\a3.eval (.tmp 65)=.slice (some ⟨wr.heap.size,0,none⟩) rg rg/\a3.tmps.size=143:=rV;refine fD 10 rfl fun K hK=>?_;refine pA ?_;refine hK.out _ _ (chq) fun hHeld=>?_;clear hK K;refine aO kr ?_;refine hK0.out _ _ ?_;subst hA3;subst hA2;subst hA1;subst hA0;clear Ee;simp only[GE,Act.put,SU];generalize hW9':(World.drew _:World)=w9;have hW9:(wr.drew.alloc (.cells (List.replicate rg (Value.int .i64 0)).toArray 3)).setCell ⟨b3,j,none⟩ (.slice (some ⟨wr.heap.size,0,none⟩) rg rg)=w9:=by
     rw[<-hW9']
     go_simp
    have hba:Below wr.heap.size wr (wr.drew.alloc (.cells (List.replicate rg (Value.int .i64 0)).toArray 3)):=(Below.refl _ wr).drew.alloc lr _;have hrow:(wr.drew.alloc (.cells (List.replicate rg (Value.int .i64 0)).toArray 3)).ownsRow 0 3 1 (.slice (some ⟨wr.heap.size,0,none⟩) rg rg) rg (aR (List.replicate rg 0)):=by
     have:=World.ownsRow_lit wr.drew (base:=0) (e:=3) (size:=1) (List.replicate rg (Value.int .i64 0)).toArray rg (Nat.zero_le _) bH si;simpa[aR]using this
    have hM9:=(HI.out.below hba).row hjt hrow (HI.out.fr _ lr) hzx;have hB9:=HB.out.tag1 ((HB.out.below hba).keep (jP _ b3 j (.slice (some ⟨wr.heap.size,0,none⟩) rg rg)) (fun x e=>by have e2:x=b3:=e;rw[e2,htc];decide)) (Nat.le_refl wr.heap.size) (7+2*j);have hbx9:Below W5.heap.size W5 w9:=by rw[<-hW9];exact(hbx.trans (hba.mono hzx)).setCell (p:=⟨b3,j,none⟩) (HI.out.lo b3 (by show tg' b3≠0;rw[htc];decide)) _
    dsimp only at hM9;rw[hW9]at hM9 hB9;have HM9:=qd hM9;have HB9:=qd hB9;clear hM9 hB9 hW9 hW9' hrow;go_wp2;refine⟨⟨j+1,_,_,oz,si,HM9,HB9,hbx9⟩,?_⟩;go_light;exact ml
   ·obtain rfl:j=f.code.length:=oz
    have d3:¬(f.code.length:Int)<(f.code.length:Int):=oz
    have HBt:=qd HI.out.done;have htb1:tg' b1=2:=HI.out.ti;have htk:tg' k=1:=HI.out.tk;have htp:tg' p=0:=HB.out.tp;have htf:tg' W2.heap.size=0:=HB.out.tf;have c0:wr.cell? ⟨b1,0,none⟩=some (.slice none 0 0):=aH HI.out.ri (by simp[hn0]);have z0:wr.frozen? ⟨b1,0,none⟩=false:=HI.out.ri.frozenAt _;have hb1L:=bJ HI.out.ri;have hb1W:W5.heap.size<=b1:=HI.out.lo b1 (by show tg' b1≠0;rw[htb1];decide);have hbwr:Below w.heap.size w wr:=hb5w.trans (hbx.mono oz);have hsp:=HFO.out.2.1;have hsp2:pl=pl/\∀ i,i<pl->aM (f.params.getD i default).lo/\aM (f.params.getD i default).hi:=⟨rfl,fun i hi=>by obtain⟨_,_,_,_,_,hc⟩:=hsp;exact(hc i hi).2.2⟩
    have hplen:f.params.length=pl:=hsp.1;have hrgp:pl+(rg-pl)=rg:=oz
    have hpl64:pl<=64:=oz
    have hws:IntKind.i64.wrap ((rg:Int)-(pl:Int))=((rg-pl:Nat):Int):=tU
    have hws2:wrap64 ((rg:Int)-(pl:Int))=((rg-pl:Nat):Int):=by rw[oG];exact hws
    have hbeg:f.params++List.replicate (rg-pl) (⟨0,0⟩:aB)=cL f:=by unfold cL;rw[HRG.out,hplen];simp
    have HSR:=qd (aCa hsp);have HCl:Hid (∀ w',aG (· = b1) wr w'->Calls Tryz.prog 21 #[.slice pa pl pc] w' fun e w2=>∃ v,e=.returned v/\aIo pl f.params w' v w2):=qd (fun w' hw=>tL pa pl pc f.params w' hplen (fun h0=>by
     obtain⟨b,o,h1,h2,h3⟩:=HSR.out h0;have hbl:b<w.heap.size:=oz
     have hz:=hbwr.size;have hz2:=hw.size;refine⟨b,o,h1,oz,fun j u hu=>?_⟩;exact(hw.cellAt (o+j) (b:=b) oz (by show ¬(b=b1);omega)).trans ((hbwr.cell (p:=⟨b,o+j,none⟩) hbl).trans (h3 j u hu))) hpl64)
    have hcf:∀ (args:Array Value) (w:World),(callFunc 21 args).run Tryz.prog w=.ok (.enter 21 args) w:=fun _ _=>rfl;have hcf2:∀ (args:Array Value) (w:World),(callFunc 20 args).run Tryz.prog w=.ok (.enter 20 args) w:=fun _ _=>rfl;have HSS:Hid (∀ w',aG (· = b1) wr w'->w'.cell? ⟨p,0,none⟩=some (.pointer (some ⟨k,0,none⟩))/\w'.cell? ⟨k,0,none⟩=some (.slice (some ⟨b1,0,none⟩) f.code.length f.code.length)/\w'.cell? ⟨W2.heap.size,1,none⟩=some (.slice pa pl pc)/\w'.cell? ⟨W2.heap.size,2,none⟩=some (.int .i64 rg)):=qd (fun w' hw=>by
     have k4:=hU (hw.own HI.out.st (fun e=>by have e':k=b1:=e;rw[e']at htk;omega));have f5:=aX (hw.own HB.out.cf (fun e=>by rw[e]at htf;omega));have p1:=dG (hw.own HB.out.cp (fun e=>by rw[e]at htp;omega));exact⟨p1.2.1,k4.2.1,f5.2.2.1,f5.2.2.2.1⟩)
    go_upto_region 14 with(fail)
    clear k4 f5 p1;generalize hA0:(Act.mk _ _:Act)=a0;have Ee:a0.eval (.tmp 9)=.pointer (some ⟨p,0,none⟩)/\a0.eval (.tmp 7)=.pointer (some ⟨W2.heap.size,0,none⟩)/\a0.tmps.size=143:=qB
    refine aE (fun w'=>aG (· = b1) wr w') kr ((aG.refl _ wr).drew) ?_;intro K0 hK0 hHeld
    try dsimp only at hHeld
    refine aL 0 rfl ?_;refine aL 1 rfl ?_;refine aL 2 rfl ?_;refine aL 3 rfl ?_;refine aL 4 rfl ?_;refine aL 5 rfl ?_;refine aL 6 rfl ?_;refine aL 9 rfl ?_;refine aL 10 rfl ?_;refine aL 11 rfl ?_;refine aL 12 rfl ?_;refine aL 13 rfl ?_;refine aL 14 rfl ?_;generalize hA1:(Act.put _ _ _:Act)=a1;replace Ee:a1.eval (.tmp 72)=.slice (some ⟨b1,0,none⟩) f.code.length f.code.length/\a1.eval (.tmp 82)=.int .i64 ((rg-pl:Nat):Int)/\a1.eval (.tmp 74)=.slice pa pl pc/\a1.tmps.size=143:=oZ;refine fD 7 rfl fun K hK=>?_;refine aP rfl 21 [.tmp 74] #[39] rfl hcf [.slice pa pl pc] iD _ (HCl.out _ hHeld) ?_;rintro v wM ⟨va,vc,rfl,hvc1,hvc2,hvn,hvr,hbM⟩;have hwM:aG (· = b1) wr wM:=hHeld.trans (aG.of hbM);have hzM:=hwM.size;refine hK.out _ _ (hwM) fun hHeld=>?_;clear hK K;generalize hA2:(Act.put _ _ _:Act)=a2;replace Ee:a2.eval (.tmp 72)=.slice (some ⟨b1,0,none⟩) f.code.length f.code.length/\a2.eval (.tmp 82)=.int .i64 ((rg-pl:Nat):Int)/\a2.eval (.tmp 75)=.slice va pl vc/\a2.tmps.size=143:=mQ;refine fD 8 rfl fun K hK=>?_;refine aP rfl 20 [.tmp 75] #[39] rfl hcf2 [.slice va pl vc] iD _ (aJr va pl vc _ hvc1 hvc2 hvn) ?_;rintro v wN ⟨rfl,hwN⟩;rw[hwN];clear hwN;refine hK.out _ _ (hwM) fun hHeld=>?_;clear hK K;generalize hA3:(Act.put _ _ _:Act)=a3;replace Ee:a3.eval (.tmp 72)=.slice (some ⟨b1,0,none⟩) f.code.length f.code.length/\a3.eval (.tmp 82)=.int .i64 ((rg-pl:Nat):Int)/\a3.eval (.tmp 76)=.slice va pl pl/\a3.tmps.size=143:=rV;have⟨_,e3_82,e3_76,_⟩:=Ee;refine fD 15 rfl fun K hK=>?_;obtain⟨g,cap,wA,hrun,hrA,hbA,hgA⟩:=rS wM 39 va pl (rg-pl) f.params hplen (hvr.imp id (fun⟨b,h1,_,h2⟩=>⟨b,h1,h2⟩)) oz oz;rw[hrgp]at hrun hrA;have hwA:aG (· = b1) wr wA:=hwM.trans (aG.of hbA);have hbwA:Below wr.heap.size wr wA:=((Below.refl _ wr).drew.trans (hbM.mono lr)).trans (hbA.mono hzM);have c0A:=(hbwA.cell (p:=⟨b1,0,none⟩) hb1L).trans c0;have z0A:=(hbwA.frozen (p:=⟨b1,0,none⟩) hb1L).trans z0;refine xB rfl (.tmp 76) (.tmp 82) 39 3 rfl _ _ e3_76 e3_82 _ _ hrun ?_;refine hK.out _ _ (hwA) fun hHeld=>?_;clear hK K;generalize hA4:(Act.put _ _ _:Act)=a4;replace Ee:a4.eval (.tmp 72)=.slice (some ⟨b1,0,none⟩) f.code.length f.code.length/\a4.eval (.tmp 83)=.slice (some ⟨g,0,none⟩) rg cap/\a4.tmps.size=143:=xE;refine aL 16 rfl ?_;generalize hA5:(Act.put _ _ _:Act)=a5;replace Ee:a5.eval (.tmp 84)=.pointer (some ⟨b1,0,none⟩)/\a5.eval (.tmp 83)=.slice (some ⟨g,0,none⟩) rg cap/\a5.tmps.size=143:=ee5;refine fD 17 rfl fun K hK=>?_;refine pA ?_;refine hK.out _ _ (chq) fun hHeld=>?_;clear hK K;refine aO kr ?_;refine hK0.out _ _ ?_;subst hA5;subst hA4;subst hA3;subst hA2;subst hA1;subst hA0;clear Ee e3_82 e3_76;simp only[GE,Act.put,SU];generalize hW9:(World.setCell _ _ _:World)=w9;have hgl:wr.heap.size<=g:=by
     rcases hgA with h|h
     ·omega
     ·rcases hvr with⟨h2,_⟩|⟨b,h2,h3,_⟩
      ·rw[h2]at h;cases h
      ·rw[h2]at h;cases h;exact h3
    rw[hbeg]at hrA;have htg:tg' g=0:=HI.out.fr g hgl;have hB9:=(HBt.out.below hbwA).setI hn0 hrA htg oz;have hX9:=HB.out.tag1 ((HB.out.below hbwA).keep (jP wA b1 0 (.slice (some ⟨g,0,none⟩) rg cap)) (fun x e=>by have e2:x=b1:=e;rw[e2,htb1];decide)) hgl (6+2*0);dsimp only at hB9;rw[hW9]at hB9 hX9;have hbx9:Below W5.heap.size W5 w9:=by rw[<-hW9];exact(hbx.trans (hbwA.mono hzx)).setCell (p:=⟨b1,0,none⟩) hb1W _
    have m9:=(hB9.rd hn0).2.2.1;have z9:=(hB9.fz 0).2.1;have k4:=hU hB9.st;have p1:=dG hX9.cp;dsimp only at m9 z9 k4;have HB9:=qd hB9;have HX9:=qd hX9;clear hB9 hX9 hW9 hrA hbA hgA hrun hbM hvr hvn hvc1 hvc2 hwM hwA hbwA hbeg hws hws2 HCl HSS HSR HBt HI HB c0 z0 c0A z0A hcf hcf2 hsp hb1L;go_upto_region 16 with(fail)
    generalize hWS:(World.setCell _ _ _:World)=wS;have hBS:=HB9.out.setM 0 true;have htb6:cV tg' g (6+2*0) b6=4:=HB9.out.tm;have hXS:=HX9.out.keep (jP w9 b6 0 (.bool true)) (fun x e=>by have e2:x=b6:=e;rw[e2,htb6];decide);dsimp only at hBS;rw[hWS]at hBS hXS;have est:=aEc f HRG.out (rfl:f.code.length=f.code.length);have hBS2:kR W5.heap.size wS { k:=k,ib:=b1,ic:=f.code.length,cb:=b3,cc:=f.code.length,mb:=b6,mc:=f.code.length,jb:=b8,jc:=f.code.length,iv:=cV (fun _=>none) 0 (some (g,cap)),cv:=cv,tg:=cV tg' g (6+2*0) } f.code.length rg (fL f):=by rw[est];exact hBS
    have hbxS:Below W5.heap.size W5 wS:=by rw[<-hWS];exact hbx9.setCell (p:=⟨b6,0,none⟩) (HB9.out.lo b6 (by show cV tg' g (6+2*0) b6≠0;rw[htb6];decide)) _
    have p1:=dG hXS.cp;have HBS:=qd hBS2;have HXS:=qd hXS;clear hBS hBS2 hXS hWS est k4 m9 z9 HB9 HX9;go_wp2;go_step3;go_wp2_with (first|(go_at_call 45;refine(aIw k _).mono ?_;rintro e wT ⟨rfl,rfl⟩)|fail)
    generalize hWT:World.alloc _ _=wT;have hbST:Below wS.heap.size wS wT:=by rw[<-hWT];exact eN
    have hzT:wT.heap.size=wS.heap.size+1:=by rw[<-hWT];simp
    have OXT:aF wT wS.heap.size [.pointer (some ⟨k,0,none⟩)]:=by rw[<-hWT];exact aF.new _ _ _
    have hzS:=hbxS.size;have hso:=aEz HRG.out hrg0 (rfl:f.code.length=f.code.length) hn0 HFF.out.np (fun i hi=>⟨(hsp2.2 i oz).1,(hsp2.2 i oz).2,by
     have h9:=wU HE.out hfn (i:=i) (by rw[HFE.out];exact hi);rw[HFE.out]at h9;exact h9⟩)
    obtain⟨iv0,hiv0⟩:∃ iv0:Nat->Option (Nat×Nat),cV (fun _=>none) 0 (some (g,cap))=iv0:=⟨_,rfl⟩
    obtain⟨tg0,htg0⟩:∃ tg0:Nat->Nat,cV tg' g (6+2*0)=tg0:=⟨_,rfl⟩
    rw[hiv0,htg0]at HBS;rw[htg0]at HXS;obtain⟨A,hA⟩:∃ A:yU,{ k:=k,ib:=b1,ic:=f.code.length,cb:=b3,cc:=f.code.length,mb:=b6,mc:=f.code.length,jb:=b8,jc:=f.code.length,iv:=iv0,cv:=cv,tg:=tg0 }=A:=⟨_,rfl⟩
    have hAB:∀ iv tg,{ A with iv:=iv,tg:=tg }=({ k:=k,ib:=b1,ic:=f.code.length,cb:=b3,cc:=f.code.length,mb:=b6,mc:=f.code.length,jb:=b8,jc:=f.code.length,iv:=iv,cv:=cv,tg:=tg }:yU):=fun iv tg=>by rw[<-hA]
    have hAk:A.k=k:=by rw[<-hA]
    have HR0:Hid (RI W5.heap.size A f.code.length rg wS.heap.size wT.heap.size w.heap.size (w.heap.size+1) W2.heap.size p [.slice ta tl tc,.slice (some ⟨fb,fo,none⟩) fl fc] [.string f.name,.slice pa pl pc,.int .i64 rg,.int .i64 f.words,.slice ca f.code.length cc] w (fL f) wT iv0 tg0):=qd (by
     have hb0:=HBS.out.below hbST;refine⟨by rw[hAB];exact hb0,by rw[hAk];exact OXT,by rw[hAk];exact HXS.out.below hbST,hso.1,hso.2,HBS.out.fr _ lr,HBS.out.fr _ oz,HBS.out.fr _ oz,(hb5w.trans (hbxS.mono hb5w.size)).trans (hbST.mono (by have:=hb5w.size;omega)),oz,hb5w.size,⟨by have:=hb5w.size;omega,by have:=hb5w.size;omega,oz,by have:=HXS.out.cp.1;omega,oz,by rw[hAk];have:=HBS.out.st.1;dsimp only at this;omega⟩,oz⟩)
    have HAB:=qd hAB;have HAK:=qd hAk;have hzT2:wS.heap.size+1<=wT.heap.size:=oz
    clear hso HBS HXS OXT hWT hiv0 htg0 hA hAB hAk hbST hzT;have HWK:=qd (show ∀ (a:Nat) (inn:List aB) (t:Int) (out:List aB),a<f.code.length->gU rg inn->t∈aY f a->gP m f a t inn=some out->gU rg out from(by
     have h:=aEw HM.out HE.out hfn (by rw[HFE.out];exact HRG.out);rw[HFE.out]at h;exact h))
    refine aDe m f W5.heap.size A f.code.length rg wS.heap.size (fL f) (fun pre W=>∃ iv tg,RI W5.heap.size A f.code.length rg wS.heap.size wT.heap.size w.heap.size (w.heap.size+1) W2.heap.size p [.slice ta tl tc,.slice (some ⟨fb,fo,none⟩) fl fc] [.string f.name,.slice pa pl pc,.int .i64 rg,.int .i64 f.words,.slice ca f.code.length cc] w (lR m f (fL f) pre) W iv tg) rfl rfl rfl hn0 hn1 ?_ ?_ ?_ (fun s h1 h2 h3=>(aFz rfl hrg0 HWK.out h1 h2 h3).2.2) ⟨_,_,HR0.out⟩ ?_ ?_
    ·rintro pre W ⟨iv,tg,h⟩;exact⟨⟨iv,tg,h.b⟩,h.x,h.so,h.mo⟩
    ·rintro pre W W' ⟨iv,tg,h⟩ hb;exact⟨iv,tg,h.below hb⟩
    ·rintro pre W W' ⟨iv,tg,h⟩ hc;exact⟨iv,tg,h.turn hc⟩
    ·apply Exists.intro;constructor
     ·intro l' x W K hK;have HK:=qd hK;clear hK;gi_wp2;exact HK.out
     ·rintro l' pre x W ⟨iv,tg,hR⟩ hxn hsz;have hsn:=aKf m f (fL f) pre x;generalize lR m f (fL f) pre=s at *;have HSN:=qd hsn;clear hsn;have hb:=hR.b;rw[HAB.out]at hb;have hbo:=hR.bo;rw[HAK.out]at hbo;have HR:=qd hR;have k4:=hU hb.st;have p1:=dG hbo.cp;obtain⟨m1,m2,m3,m4⟩:=hb.rd hxn;obtain⟨z1,z2,z3⟩:=hb.fz x;have hxi:(x:Int)<(f.code.length:Int):=oz
      dsimp only at k4 m1 m2 m3 m4 z1 z2 z3;by_cases hm:s.mrk.getD x false=true
      ·have hst:gF m f s x=(aY f x).foldl (iW m f x (s.inn.getD x [])) { s with mrk:=s.mrk.set x false }:=by unfold gF;rw[if_pos hm]
       have HST:=qd hst;clear hst;rw[hm]at m3;have hinn:gU rg (s.inn.getD x []):=(hR.so.inn x hxn).resolve_left (hR.mo x hxn hm);rcases hb.ei x hxn with⟨e1,e2⟩|⟨ob,oc,e1,e2,e3⟩
       ·exact absurd e2 (hR.mo x hxn hm)
       dsimp only at e1 e3;rw[e1]at m1;have m1':W.cell? ⟨b1,x,none⟩=some (.slice (some ⟨ob,0,none⟩) rg oc):=m1;clear m1;have htb6:tg b6=4:=hb.tm;have htb1:tg b1=2:=hb.ti;have htk:tg k=1:=hb.tk;have hne1:b6≠k:=fun e=>by rw[e]at htb6;omega
       have hne2:b6≠p:=fun e=>by have:=hbo.tp;rw[<-e]at this;omega
       have hne3:b6≠b1:=fun e=>by rw[e]at htb6;omega
       have hbM:=hb.setM x false;have hsoM:rC f.code.length rg { s with mrk:=s.mrk.set x false }:=⟨hR.so.li,hR.so.lc,by simp[hR.so.lm],hR.so.lj,hR.so.inn,hR.so.chg⟩
       have hmoM:MOk f.code.length { s with mrk:=s.mrk.set x false }:=fun v hv hq=>by
        dsimp only at hq ⊢;rw[lH]at hq;split at hq
        ·cases hq
        ·exact hR.mo v hv hq
       have hcM:aG (fun x=>tg x≠0) W (W.setCell ⟨b6,x,none⟩ (.bool false)):=aG.setCell (aG.refl _ _) (.inl (by show tg b6≠0;rw[htb6];decide)) _;have HR1:Hid (RI W5.heap.size A f.code.length rg wS.heap.size wT.heap.size w.heap.size (w.heap.size+1) W2.heap.size p [.slice ta tl tc,.slice (some ⟨fb,fo,none⟩) fl fc] [.string f.name,.slice pa pl pc,.int .i64 rg,.int .i64 f.words,.slice ca f.code.length cc] w { s with mrk:=s.mrk.set x false } (W.setCell ⟨b6,x,none⟩ (.bool false)) iv tg):=qd (hR.wr (by rw[HAB.out];exact hbM) hcM (fun _ _=>rfl) hsoM hmoM);have hobt:tg ob=6+2*x:=e3;have e2M:=e2.chg (jP W b6 x (.bool false)) (fun e=>by have e4:ob=b6:=e;rw[e4]at hobt;omega);have hcl1:=tL (some ⟨ob,0,none⟩) rg oc (s.inn.getD x []) _ hinn.1 (fun _=>⟨ob,0,rfl,e2M.lt,fun j u hu=>by rw[Nat.zero_add];exact e2M.src j u hu⟩) hrg64;have HCl:=qd hcl1;have hrc:∀ q,wT.heap.size<=q->q<wT.heap.size+2->(W.setCell ⟨b6,x,none⟩ (.bool false)).heap[q]? = W.heap[q]? := hR.recd hcM (fun x e=>.inl e) hsz;have HRC:=qd hrc;have HNx:Hid (∀ w',Below w.heap.size w w'->Calls Tryz.prog 46 #[.agg #[.string f.name,.slice pa pl pc,.int .i64 rg,.int .i64 f.words,.slice ca f.code.length cc],.int .i64 x] w' (aAx w' (aY f x))):=qd (fun w' hw=>by
        have h:=qO B ⟨pa,pl,pc,ca,f.code.length,cc⟩ f x w' (Nat.le_trans hB hw.size) (HFO.out.same (aQ.of hw hB)) hxn;unfold aI at h;dsimp only at h;rw[HRG.out]at h;exact h)
       have HINN:=qd hinn;have hz1:(W.setCell ⟨b6,x,none⟩ (.bool false)).heap.size=W.heap.size:=si
       have HFR:=qd hb.fr;clear hR hb hbo HR hbM hsoM hmoM hcM e2 e2M hcl1 hrc hinn m2 m4 z1 z3 hm HR0 e1 e3 hobt;generalize hinnq:s.inn.getD x []=inn at *;obtain⟨s1,hs1⟩:∃ s1:fF,s1={ s with mrk:=s.mrk.set x false }:=⟨_,rfl⟩
       rw[<-hs1]at HR1 HST;clear hs1 hinnq;gi_wp2_with (first|(refine⟨trivial,rfl,?_⟩;gi_at_call 21;refine(dF HCl.out).mono ?_;rintro e w2 ⟨v,rfl,va,vc,rfl,hvc1,hvc2,hvn,hvr,hb2⟩;have R2:=qd (HR1.out.below hb2);have f5:=aX R2.out.bo.cf;have hz2:=hb2.size;clear k4 p1 m3 z2 m1')|(refine⟨trivial,rfl,?_⟩;gi_at_call 46;refine(dF (HNx.out _ R2.out.be)).mono ?_;rintro e w3 ⟨nv,rfl,hb3,hr3,hf3,hn3⟩;obtain⟨na,nc,rfl⟩:∃ na nc,nv=.slice na (aY f x).length nc:=(by rcases bU hr3 with⟨rfl,h0,_⟩|⟨g,c,rfl,_,_,_⟩;exact⟨none,0,by rw[h0]⟩;exact⟨_,_,rfl⟩)))
       have hz3:=hb3.size;obtain⟨ib,hva,hib,hsi⟩:∃ ib,va=some ⟨ib,0,none⟩/\W.heap.size<=ib/\∀ c,bF w2 ib rg c inn:=by
        rcases hvr with⟨_,h0⟩|⟨b,h1,h2,h3⟩
        ·omega
        ·exact⟨b,h1,oz,h3⟩
       subst hva;have hnlen:=iS f x;have hin:=fun(t:Int) (ht:t∈aY f x)=>gQ f x t ht;have HWP:=qd (fun(t:Int) (out:List aB) (ht:t∈aY f x) hw=>HWK.out x inn t out hxn HINN.out ht hw);generalize aY f x=nl at *;have HIN:=qd hin;have htib:tg ib=0:=HFR.out ib hib;have htna:∀ q,na=some ⟨q,0,none⟩->W.heap.size<=q:=fun q hq=>by
        have:=hf3 q (by rw[hq];rfl);omega
       have HTNA:=qd htna;have hrc3:Hid (∀ q,wT.heap.size<=q->q<wT.heap.size+2->w3.heap[q]? = W.heap[q]?):=qd (fun q h1 h2=>((hb3.block q oz).trans (hb2.block q oz)).trans (HRC.out q h1 h2));have HR3:=qd (R2.out.below hb3);have HI3:=qd ((hsi vc).below hb3);have HN3:=qd hr3;have hib2:wT.heap.size+2<=ib:=oz
       have HTH:Hid (cI B w ta tl m.thr):=qd (by
        obtain⟨_,_,_,_,_,_,hv,h2,_⟩:=HM.out;cases hv;exact h2)
       have HIF:Hid (cY m f (f.code.getD x default)):=qd (by
        have h:=HFI.out.ins fn x hfn (by rw[HFE.out];exact hxn);rw[HFE.out]at h;exact h)
       have hz3w:W.heap.size<=w3.heap.size:=oz
       have HT0:Hid (tg ib=0/\∀ q,na=some ⟨q,0,none⟩->tg q=0):=qd ⟨htib,fun q hq=>HFR.out q (htna q hq)⟩;clear htna hr3 hf3 hn3 hsi hvr hvn hvc1 hvc2 R2 f5 HRC HCl HNx htib hb2 hb3 HR1 hin;gi_loopw [120] (fun i wx=>∃ (j:Nat) (iv:Nat->Option (Nat×Nat)) (tg:Nat->Nat),j<=nl.length/\i=.int .i64 j/\Hid (RI W5.heap.size A f.code.length rg wS.heap.size wT.heap.size w.heap.size (w.heap.size+1) W2.heap.size p [.slice ta tl tc,.slice (some ⟨fb,fo,none⟩) fl fc] [.string f.name,.slice pa pl pc,.int .i64 rg,.int .i64 f.words,.slice ca f.code.length cc] w ((nl.take j).foldl (iW m f x inn) s1) wx iv tg)/\Hid (bF wx ib rg vc inn)/\Hid (wx.ownsRow 0 3 1 (.slice na nl.length nc) nl.length (aR nl))/\Hid (tg ib=0/\∀ q,na=some ⟨q,0,none⟩->tg q=0)/\Hid (∀ q,wT.heap.size<=q->q<wT.heap.size+2->wx.heap[q]? = W.heap[q]?)/\W.heap.size<=wx.heap.size) (fun i _=>nl.length-(intOf i).toNat)
       case atStart=>exact⟨0,iv,tg,Nat.zero_le _,rfl,HR3,HI3,HN3,HT0,hrc3,hz3w⟩
       case round =>
        clear HR3 HI3 HN3 HT0 hrc3 hz3w htb6 htb1 htk HFR;clear iv tg;rename_i wq;obtain⟨j,iv,tg,hj,rfl,HR,HI,HN,HT,HQ,hzx⟩:=hrel;by_cases hjt:j<nl.length
        ·have d3:(j:Int)<(nl.length:Int):=oz
         have hwj:IntKind.i64.wrap ((j:Int)+1)=(j:Int)+1:=IntWalk.i64_in _ oz;obtain⟨nb,nc',hnv,-,-,hnbl⟩:=bB HN.out oz;cases hnv;have hnb2:=HTNA.out nb rfl;have hgj:nl[j]? = some (nl[j]'hjt):=List.getElem?_eq_getElem hjt;have n0:=aH HN.out (aV hgj);have hmem:nl[j]'hjt∈nl:=List.getElem_mem hjt;obtain⟨h0,h1⟩:=HIN.out _ hmem;have hTk:nl.take (j+1)=nl.take j++[nl[j]'hjt]:=by rw[List.take_add_one,hgj];rfl
         have HTK:=qd hTk;have HWP2:=qd (fun out hw=>HWP.out _ out hmem hw);clear hTk hgj hmem;generalize nl[j]'hjt=t at *;obtain⟨tt,rfl⟩:=Int.eq_ofNat_of_zero_le h0;have htt:tt<f.code.length:=oz
         have hcl2:=tL (some ⟨ib,0,none⟩) rg vc inn wr HINN.out.1 (fun _=>⟨ib,0,rfl,HI.out.lt,fun j u hu=>by rw[Nat.zero_add];exact HI.out.src j u hu⟩) hrg64;have HCl2:=qd hcl2;clear hcl2;obtain⟨res,hres⟩:∃ res,gP m f x (tt:Int) inn=res:=⟨_,rfl⟩
         have HAw:Hid (∀ w' ob2 oc2,Below w.heap.size w w'->bF w' ob2 rg oc2 inn->B<=ob2->Calls Tryz.prog 47 #[.agg #[.slice ta tl tc,.slice (some ⟨fb,fo,none⟩) fl fc],.agg #[.string f.name,.slice pa pl pc,.int .i64 rg,.int .i64 f.words,.slice ca f.code.length cc],.int .i64 x,.int .i64 tt,.slice (some ⟨ob2,0,none⟩) rg oc2] w' (dX ob2 rg oc2 w' res)):=qd (fun w' ob2 oc2 hw hs hob=>by
          have h:=aEt (f.code.getD x default) B m ⟨pa,pl,pc,ca,f.code.length,cc⟩ f ta (some ⟨fb,fo,none⟩) tl tc fl fc x (tt:Int) ob2 rg oc2 inn w' (Nat.le_trans hB hw.size) (HFO.out.same (aQ.of hw hB)) hxn hn1 rfl HIF.out hs HRG.out.symm hrg64 HINN.out (HM.out.same (aQ.of hw hB)) hob;rw[hres]at h;unfold aI at h;dsimp only at h;rw[HRG.out]at h;exact h)
         have HRES:=qd hres;clear hres;cases res with
         | none =>
          gi_wp2_with (first|(refine⟨trivial,rfl,?_⟩;gi_at_call 21;refine(dF HCl2.out).mono ?_;rintro e w4 ⟨v,rfl,ua,uc,rfl,huc1,huc2,hun,hur,hb4⟩;obtain⟨ob2,hua,hob2,hs4⟩:∃ ob2,ua=some ⟨ob2,0,none⟩/\wr.heap.size<=ob2/\∀ c,bF w4 ob2 rg c inn:=aQp;subst hua;have R4:=qd (HR.out.below hb4);have f5:=aX R4.out.bo.cf;have m2:=aD R4.out.bo.cm;have hz4:=hb4.size;clear n0)|(refine⟨trivial,rfl,?_⟩;gi_at_call 47;refine(dF (HAw.out w4 ob2 uc R4.out.be (hs4 uc) oz)).mono ?_;rintro e w5 ⟨rfl,hc5,hs5⟩;have htg2:tg ob2=0:=HR.out.b.fr ob2 hob2;have R5:=qd (R4.out.keep hc5 (fun q e=>by have e2:q=ob2:=e;rw[e2];exact⟨htg2,oz⟩));have hz5:=hc5.size;clear f5 m2;have m5:=aD R5.out.bo.cm;have p5:=dG R5.out.bo.cp)|fail)
          have hst:(nl.take (j+1)).foldl (iW m f x inn) s1=(nl.take j).foldl (iW m f x inn) s1:=by
           rw[HTK.out,List.foldl_append,List.foldl_cons,List.foldl_nil];unfold iW;rw[HRES.out]
          have hibl:=HI.out.lt;refine⟨⟨j+1,iv,tg,oz,si,qd (by rw[hst];exact R5.out),qd ((HI.out.below hb4).chg hc5 (fun e=>by have e2:ib=ob2:=e;omega)),qd (aT hc5 (aA hb4 HN.out) (fun e=>by have e2:nb=ob2:=e;omega)),HT,qd (fun q h1 h2=>((hc5.block q oz (fun e=>by have e2:q=ob2:=e;omega)).trans (hb4.block q oz)).trans (HQ.out q h1 h2)),oz⟩,?_⟩;go_light;exact ml
         | some out =>
          have hok:=HWP2.out out HRES.out;have HMg:Hid (∀ w' ob2 oc2,RI W5.heap.size A f.code.length rg wS.heap.size wT.heap.size w.heap.size (w.heap.size+1) W2.heap.size p [.slice ta tl tc,.slice (some ⟨fb,fo,none⟩) fl fc] [.string f.name,.slice pa pl pc,.int .i64 rg,.int .i64 f.words,.slice ca f.code.length cc] w ((nl.take j).foldl (iW m f x inn) s1) w' iv tg->bF w' ob2 rg oc2 out->tg ob2=0->W5.heap.size<=ob2->Calls Tryz.prog 48 #[.pointer (some ⟨A.k,0,none⟩),.int .i64 tt,.slice (some ⟨ob2,0,none⟩) rg oc2,.slice ta tl tc] w' (aBs W5.heap.size { A with iv:=iv,tg:=tg } f.code.length rg ob2 (cM m.thr ((nl.take j).foldl (iW m f x inn) s1) tt out) w')):=qd (fun w' ob2 oc2 hR hs ht hN=>by
           have h:=aKg W5.heap.size { A with iv:=iv,tg:=tg } f.code.length rg _ m.thr ta tl tc tt ob2 oc2 out w' hR.b hs htt ht hN hR.nz ((HTH.out.same (aQ.of hR.be hB)).monoB (by have:=hR.nw;omega)) hR.so hok hrg0 hrg64 hn1;exact h)
          have HOK:=qd hok;clear hok;gi_wp2_with (first|(refine⟨trivial,rfl,?_⟩;gi_at_call 21;refine(dF HCl2.out).mono ?_;rintro e w4 ⟨v,rfl,ua,uc,rfl,huc1,huc2,hun,hur,hb4⟩;obtain⟨ob2,hua,hob2,hs4⟩:∃ ob2,ua=some ⟨ob2,0,none⟩/\wr.heap.size<=ob2/\∀ c,bF w4 ob2 rg c inn:=aQp;subst hua;have R4:=qd (HR.out.below hb4);have f5:=aX R4.out.bo.cf;have m2:=aD R4.out.bo.cm;have hz4:=hb4.size;clear n0)|(refine⟨trivial,rfl,?_⟩;gi_at_call 47;refine(dF (HAw.out w4 ob2 uc R4.out.be (hs4 uc) oz)).mono ?_;rintro e w5 ⟨rfl,hc5,hs5⟩;have htg2:tg ob2=0:=HR.out.b.fr ob2 hob2;have R5:=qd (R4.out.keep hc5 (fun q e=>by have e2:q=ob2:=e;rw[e2];exact⟨htg2,oz⟩));have hz5:=hc5.size;clear f5 m2;have m5:=aD R5.out.bo.cm;have p5:=dG R5.out.bo.cp)|(refine⟨trivial,rfl,?_⟩;gi_at_call 48;refine(dF (HMg.out w5 ob2 uc R5.out (hs5 out rfl) htg2 oz)).mono ?_;rintro e w6 ⟨rfl,iv6,tg6,hb6,hc6,ht6⟩)|fail)
          have hst:(nl.take (j+1)).foldl (iW m f x inn) s1=cM m.thr ((nl.take j).foldl (iW m f x inn) s1) tt out:=by
           rw[HTK.out,List.foldl_append,List.foldl_cons,List.foldl_nil];generalize (nl.take j).foldl (iW m f x inn) s1=sj;unfold iW;rw[HRES.out];rfl
          have hibl:=HI.out.lt;have hz6:=hc6.size;have R6:=R5.out.wr hb6 hc6 (fun q hq=>ht6 q oz) (vE R5.out.so htt HOK.out) (zK R5.out.so R5.out.mo hrg0 HOK.out.1);have hrd:=R5.out.recd hc6 (fun x e=>.inl e) oz;refine⟨⟨j+1,iv6,tg6,oz,si,qd (by rw[hst];exact R6),qd (((HI.out.below hb4).chg hc5 (fun e=>by have e2:ib=ob2:=e;omega)).chg hc6 (fun e=>e HT.out.1)),qd (aT hc6 (aT hc5 (aA hb4 HN.out) (fun e=>by have e2:nb=ob2:=e;omega)) (fun e=>e (HT.out.2 nb rfl))),qd ⟨(ht6 ib oz).trans HT.out.1,fun q hq=>by cases hq;exact(ht6 nb oz).trans (HT.out.2 nb rfl)⟩,qd (fun q h1 h2=>((hrd q h1 h2).trans ((hc5.block q oz (fun e=>by have e2:q=ob2:=e;omega)).trans (hb4.block q oz))).trans (HQ.out q h1 h2)),oz⟩,?_⟩;go_light;exact ml
        ·obtain rfl:j=nl.length:=oz
         have d3:¬(nl.length:Int)<(nl.length:Int):=oz
         gi_wp2;exact⟨HQ.out,iv,tg,by rw[HSN.out,HST.out];have h9:=HR.out;rw[List.take_length]at h9;exact h9⟩
      ·have hm':s.mrk.getD x false=false:=by simpa using hm
       rw[hm']at m3;have hst:gF m f s x=s:=by unfold gF;rw[if_neg hm]
       have HST:=qd hst;clear hst hm hm' hR hb hbo;gi_wp2;exact⟨fun k _ _=>rfl,iv,tg,by rw[HSN.out,HST.out];exact HR.out⟩
    ·rintro xs W7 hruns ⟨iv,tg,hR⟩ hD;have hb:=hR.b;rw[HAB.out]at hb;have hbo:=hR.bo;rw[HAK.out]at hbo;have k4:=hU hb.st;dsimp only at k4;have p1:=dG hbo.cp;have a2:=aD hbo.ca;have HRu:=qd hruns;have HD:=qd hD;have HR:=qd hR;have HB7:=qd hb;have HO7:=qd hbo;have hcA:=aWe W7 (w.heap.size+1) (.slice (some ⟨b1,0,none⟩) f.code.length f.code.length) (.slice (some ⟨b3,0,none⟩) f.code.length f.code.length);have hDz:((W7.setCell ⟨w.heap.size+1,0,none⟩ (.slice (some ⟨b1,0,none⟩) f.code.length f.code.length)).setCell ⟨w.heap.size+1,1,none⟩ (.slice (some ⟨b3,0,none⟩) f.code.length f.code.length)).heap[wT.heap.size]? = some (.deferred (some [])):=by
      rw[<-hD];exact hcA.block _ (Array.getElem?_eq_some_iff.1 hD).1 (by show ¬(wT.heap.size=w.heap.size+1);have:=hR.lq;omega)
     have htz:=iF.put (b:=wT.heap.size) _ wT.heap.size _ (.deferred none) lr hDz rfl;have hbz:=(hb.keep hcA (fun x e=>by have e2:x=w.heap.size+1:=e;rw[e2];exact hbo.ta)).turn htz (by have:=hR.lq.2.2.2.2.2;rw[HAK.out]at this;exact this);have haz:=(((hbo.ca.set 0 (.slice (some ⟨b1,0,none⟩) f.code.length f.code.length) si).set 1 (.slice (some ⟨b3,0,none⟩) f.code.length f.code.length) si)).turn htz hR.lq.2.1;have hbez:Below w.heap.size w _:=((hR.be.setCell (p:=⟨w.heap.size+1,0,none⟩) xH (.slice (some ⟨b1,0,none⟩) f.code.length f.code.length)).setCell (p:=⟨w.heap.size+1,1,none⟩) xH (.slice (some ⟨b3,0,none⟩) f.code.length f.code.length)).trans (htz.below.mono (by have:=hR.lq;omega));have HBZ:=qd hbz;have HAZ:=qd haz;have HBE2:=qd hbez;have HDZ:=qd hDz;clear hruns hD hR hb hbo HR0 hbz haz hbez hDz htz hcA;go_wp2
     try rw[Exit.noGoto_ret]
     refine⟨si,.inl ⟨_,_,rfl,run_takeDeferred HDZ.out,?_⟩⟩;obtain⟨-,y0,y1,-,-⟩:=aD HAZ.out;refine⟨.tuple #[.agg #[.slice (some ⟨b1,0,none⟩) f.code.length f.code.length,.slice (some ⟨b3,0,none⟩) f.code.length f.code.length],.int .i64 0],by simp[results,Tryz.results16,go_sem,y0,y1],?_⟩;exact⟨_,rg,{ k:=k,ib:=b1,ic:=f.code.length,cb:=b3,cc:=f.code.length,mb:=b6,mc:=f.code.length,jb:=b8,jc:=f.code.length,iv:=iv,cv:=cv,tg:=tg },_,by rw[HFE.out];exact HRG.out,by rw[HFE.out];exact HRu.out,by rw[HFE.out],by rw[HFE.out];exact HBZ.out,by rw[HFE.out];exact HR.out.so,hb5w.size,HBE2.out⟩
end
section
attribute [local go_sem] Oper.semAt_some
theorem aT3 {p:Prop}(h:p:=by
 go_upto_region 5 with(first|(go_at_call 44;refine HC.out.mono ?_;rintro e w1 ⟨rfl,hb1⟩;have m2b:=aD (OM.below hb1);have a2b:=aD (OA.below hb1);clear m2)|fail)
 go_wp2;rw[Exit.noGoto_ret];have hbe:Below w.heap.size w w1:=hb0.trans (hb1.mono oz);have hz1:=hb1.size;refine⟨.tuple #[.agg #[.slice none 0 0,.slice none 0 0],.int .i64 1],by simp[results,Tryz.results16,go_sem,a2b.1,a2b.2.1,a2b.2.2.1],rfl,?_⟩;exact((hbe.setCell (p:=⟨w.heap.size+1,0,none⟩) (by show w.heap.size<=w.heap.size+1;omega) _).setCell (p:=⟨w.heap.size+1,1,none⟩) (by show w.heap.size<=w.heap.size+1;omega) _).alloc (by have:=hbe.size;simpa using this) _):p:=h
theorem aTi (B:Nat) (m:bA) (fn:Int) (ta fa:Option Addr) (tl tc fl fc:Nat) (w:World) (hB:B<=w.heap.size) (hB0:0<B) (hmo:cP B w (.agg #[.slice ta tl tc,.slice fa fl fc]) m) (hr:eO w) (he:(dS m).e=0) (hfn:fn<0\/(m.funcs.length:Int)<=fn) :
 Calls Tryz.prog 16 #[.agg #[.slice ta tl tc,.slice fa fl fc],.int .i64 fn] w fun e w'=>e=.returned (.tuple #[.agg #[.slice none 0 0,.slice none 0 0],.int .i64 1])/\Below w.heap.size w w':=by
 have HM:=qd hmo;have HRW:=qd hr;have HMay:=qd (fun w' hw hr'=>yE B (.agg #[.slice ta tl tc,.slice fa fl fc]) m w' hw hB0 hr');rw[he]at HMay;obtain⟨_,_,_,_,_,_,hv,⟨htl,htm,-⟩,hfs⟩:=hmo;cases hv;obtain⟨hfl1,hfl2,-⟩:=hfs;clear hr;refine(callsIn_wide (n:=3)).1 ?_;refine callsIn_of_wp_marks Tryz.func16 rfl trivial ?_ rfl;refine wpIn_wide.2 ?_;simp only[Tryz.ntmps16,List.size_toArray,List.length_cons,List.length_nil,Nat.reduceAdd,Nat.reduceSub,Array.replicate_succ,Array.replicate_zero,List.push_toArray,List.append_toArray,List.nil_append,List.cons_append];go_wp2;generalize hW0:World.alloc _ _=W0;have hb0:Below w.heap.size w W0:=by rw[<-hW0];exact bel
 have OM:aF W0 w.heap.size [.slice ta tl tc,.slice fa fl fc]:=mR
 have OA:aF W0 (w.heap.size+1) [.slice none 0 0,.slice none 0 0]:=lG
 have hz0:w.heap.size+2=W0.heap.size:=by rw[<-hW0];simp
 have hz0':w.heap.size+2<=W0.heap.size:=oz
 have m2:=aD OM;have HC:=qd (HMay.out W0 oz (HM.out.same (aQ.of hb0 hB)) (HRW.out.same (aQ.of hb0 lr) HRW.out.1 hb0.size));clear hW0 HMay hz0;go_step3;by_cases q1:fn<0
 ·have q3:decide (fn<0)=true:=by simpa using q1
  exact aT3
 ·have q2:decide ((fl:Int)<=fn)=true:=by simp;omega
  have q3:decide (fn<0)=false:=by simpa using q1
  have q4:(fl:Int)<=fn:=oz
  exact aT3
end
end Go.Proofs.YteebpnbdihcfmaaGreatDoor
