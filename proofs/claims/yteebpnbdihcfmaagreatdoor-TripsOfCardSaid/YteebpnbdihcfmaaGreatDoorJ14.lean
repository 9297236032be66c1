/- Package bounds; Package span -/
import Derived.Test.YteebpnbdihcfmaaGreatDoorJ10
import Derived.Deep.RegionLawGrows
import Derived.Test.YteebpnbdihcfmaaGreatDoorJ06
import Derived.Test.YteebpnbdihcfmaaGreatDoorJ16
set_option linter.unusedVariables false
set_option linter.unusedSimpArgs false
set_option maxRecDepth 100000
set_option maxHeartbeats 20000000
namespace Go.Proofs.YteebpnbdihcfmaaGreatDoor
open Go.RowKit
theorem aUg {p:Prop}(h:p:=by
 obtain⟨q,ok⟩:=q;dsimp only at HM;unfold aJ at HM;dsimp only at HM;go_wp2_with (first|(go_at_call 83;refine HM.out.mono ?_;rintro e w9 ⟨rfl,hr9,hc9⟩)|fail)
 go_ret;go_light;subst hres;refine⟨by cases ok<;>rfl,(aG.of hb0).trans hc9,fun out ho=>?_⟩;cases ok
 ·cases ho
 ·cases ho;exact hr9):p:=h
theorem aQl {p:Prop}(h:p:=by
 go_enter Tryz.func86,Tryz.ntmps86;go_upto_region 5 with(fail)
 go_region
 all_goals go_wp2
 all_goals refine bV (by rfl) (by rfl) (by rfl) aK si ?_
 all_goals exact⟨aAv rfl rfl (by simp[h3]),bel⟩):p:=h
theorem aQn {p:Prop}(h:p:=by
 go_enter Tryz.func86,Tryz.ntmps86;go_upto_region 5 with(fail)
 go_region
 all_goals go_wp2
 all_goals refine bV (by rfl) (by rfl) (by rfl) aK si ?_
 all_goals exact⟨aAv rfl si (by simp[h3]),bel⟩):p:=h
theorem aQ4 {p:Prop}(h:p:=by
 go_enter Tryz.func86,Tryz.ntmps86;go_upto_region 5 with(fail)
 go_region
 all_goals go_wp2
 all_goals refine bV (by rfl) (by rfl) (by rfl) aK si ?_
 all_goals exact⟨aAv si rfl (by simp[h3]),bel⟩):p:=h
theorem aF9 (a:aB) (w:World):Calls Tryz.prog 86 #[aJ a] w fun e w'=>e=.returned (.tuple #[aJ (cB a).1,.bool (cB a).2])/\Below w.heap.size w w':=by
 obtain⟨lo,hi⟩:=a;unfold aJ cB;dsimp only;by_cases h1:lo=0
 ·have q1:(lo==0)=true:=by simpa using h1
  by_cases h2:hi=0
  ·subst h1;subst h2;have q3:¬(1:Int) <= -1:=oz
   go_enter Tryz.func86,Tryz.ntmps86;go_upto_region 5 with(fail)
   go_region
   all_goals go_wp2
   all_goals refine bV (by rfl) (by rfl) (by rfl) aK si ?_
   all_goals exact⟨si,bel⟩
  ·have q2:(hi==0)=false:=by simpa using h2
   subst h1;rw[if_neg h2];by_cases h3:(1:Int)<=hi
   ·exact aQ4
   ·exact aQ4
 ·have q1:(lo==0)=false:=by simpa using h1
  rw[if_neg h1];by_cases h2:hi=0
  ·subst h2;by_cases h3:lo <= -1
   ·exact aQn
   ·exact aQn
  ·have q2:(hi==0)=false:=by simpa using h2
   rw[if_neg h2];by_cases h3:lo<=hi
   ·exact aQl
   ·exact aQl
theorem oG (n:Int):wrap64 n=IntKind.i64.wrap n:=by
 unfold IntKind.wrap wrap64 IntKind.signed IntKind.bits;simp;omega
theorem aF4 {p:Prop}(h:p:=by
 go_enter Tryz.func87,Tryz.ntmps87;go_upto_region 6 with(fail)
 go_region
 all_goals go_wp2
 all_goals refine bV (by rfl) (by rfl) (by rfl) aK si ?_
 all_goals exact⟨aAv rfl rfl (by simp[h9]),bel⟩):p:=h
theorem aCk (n many:Int) (w:World):Calls Tryz.prog 87 #[.int .i64 n,.int .i64 many] w fun e w'=>e=.returned (.tuple #[aJ (fJ n many).1,.bool (fJ n many).2])/\Below w.heap.size w w':=by
 unfold aJ fJ;by_cases h1:n = -9223372036854775808
 ·have q1:(n == -9223372036854775808)=true:=by simpa using h1
  rw[if_pos h1];dsimp only;go_enter Tryz.func87,Tryz.ntmps87;go_wp2
  all_goals refine bV (by rfl) (by rfl) (by rfl) aK si ?_
  all_goals exact⟨rfl,bel⟩
 ·have q1:(n == -9223372036854775808)=false:=by simpa using h1
  rw[if_neg h1];unfold kB;dsimp only;by_cases h2:n<0
  ·by_cases h3:wrap64 (wrap64 (many-1)-n)<wrap64 (-n)
   ·by_cases h4:0<many
    ·rw[if_pos ⟨h2,h3,h4⟩];have h9:wrap64 (-n)<=9223372036854775807:=(jW _).2;exact aF4
    ·rw[if_neg (fun h=>h4 h.2.2)];have h9:¬wrap64 (-n)<=wrap64 (wrap64 (many-1)-n):=oz
     exact aF4
   ·rw[if_neg (fun h=>h3 h.2.1)];have h9:wrap64 (-n)<=wrap64 (wrap64 (many-1)-n):=oz
    exact aF4
  ·rw[if_neg (fun h=>h2 h.1)];by_cases h9:wrap64 (-n)<=wrap64 (wrap64 (many-1)-n)
   ·exact aF4
   ·exact aF4
theorem dW {B:Nat}{hh:HF}{f:aC}{frm:Nat}{x:dJ}{w:World}(hB:B<=w.heap.size) (hf:aZ B w hh f) (hfl:frm<f.code.length) (hn1:f.code.length<=1024) (hx:f.code.getD frm default=x):∃ pa pl pc cb co cc,hh=⟨pa,pl,pc,some ⟨cb,co,none⟩,f.code.length,cc⟩/\f.code.length<=maxLen/\cb<B /\
 (w.cell? ⟨cb,co+frm*5,none⟩=some (.int .i64 x.op)/\w.cell? ⟨cb,co+frm*5+1,none⟩=some (.int .i64 x.a)/\w.cell? ⟨cb,co+frm*5+2,none⟩=some (.int .i64 x.b)/\w.cell? ⟨cb,co+frm*5+3,none⟩=some (.int .i64 x.c)/\w.cell? ⟨cb,co+frm*5+4,none⟩=some (.int .i64 x.n)) /\
 cb<w.heap.size/\cb<w.heap.size+1/\cb<w.heap.size+1+1/\cb<w.heap.size+1+1+1/\(frm:Int)<(f.code.length:Int)/\IntKind.i64.wrap ((frm:Int)+1)=(frm:Int)+1:=by
 obtain⟨pa,pl,pc,ca,cl,cc⟩:=hh;obtain⟨h1,h2,⟨hcl,hcm,cb,co,hcb,hcells⟩,h4,h5⟩:=hf;dsimp only at *;subst hcl;obtain⟨rfl,hcB⟩:=hcb oz;obtain⟨g,-⟩:=hcells frm hfl;rw[hx]at g;exact⟨pa,pl,pc,cb,co,cc,rfl,hcm,hcB,g,oz,oz,oz,oz,oz,IntWalk.i64_in _ oz⟩
section
theorem aUk {α:Type}(f:α->List Value) (hf:∀ a,(f a).length=2):∀ (l:List α) (i c:Nat),c<2->(l.flatMap f)[i*2+c]? = (l[i]?).bind fun a=>(f a)[c]?
 | [],i,c,hc=>by simp
 | a::l,0,c,hc=>by
  rw[List.flatMap_cons,List.getElem?_append_left (by rw[hf];omega)];simp
 | a::l,i+1,c,hc=>by
  rw[List.flatMap_cons,List.getElem?_append_right (by rw[hf];omega),hf,show(i+1)*2+c-2=i*2+c by omega,aUk f hf l i c hc];simp
def sD (p:aB):List Value:=[.int .i64 p.lo,.int .i64 p.hi]
def bL (r:List aB):List Value:=r.flatMap sD
theorem fT (r:List aB):(bL r).length=r.length*2:=by
 unfold bL
 induction r with
 | nil=>rfl
 | cons a l ih=>rw[List.flatMap_cons,List.length_append,ih];simp[sD];omega
theorem fZ (r:List aB) (i c:Nat) (hc:c<2):(bL r)[i*2+c]? = (r[i]?).bind fun t=>(sD t)[c]? := aUk sD (fun _=>rfl) r i c hc
theorem pU (r s:List aB):bL (r++s)=bL r++bL s:=by simp[bL]
theorem mV (r:List aB) (i:Nat) (p:aB) (hi:i<r.length):((bL r).set (i*2) (.int .i64 p.lo)).set (i*2+1) (.int .i64 p.hi)=bL (r.set i p):=by
 apply List.ext_getElem?;intro n;have hn:n=n / 2*2+n%2:=oz
 have hl:=fT r;by_cases e:n=i*2+1
 ·subst e;rw[List.getElem?_set_self (by rw[List.length_set];omega),fZ _ _ _ (by omega),List.getElem?_set_self hi];rfl
 ·rw[List.getElem?_set_ne (by omega)];by_cases e2:n=i*2
  ·subst e2;have h0:=fZ (r.set i p) i 0 oz;rw[Nat.add_zero]at h0;rw[List.getElem?_set_self (by omega),h0,List.getElem?_set_self hi];rfl
  ·rw[List.getElem?_set_ne (by omega),hn,fZ _ _ _ (by omega),fZ _ _ _ (by omega),List.getElem?_set_ne (by omega)]
theorem gL (r:List aB):∀ v∈bL r,v.oneCell'=true:=by
 intro v hv;obtain⟨p,_,hp⟩:=List.mem_flatMap.1 hv;simp[sD]at hp;rcases hp with rfl|rfl<;>rfl
/-- a row of spans of one's own; of its capacity nothing is asked -/
def bF (W:World) (b n c:Nat) (r:List aB):Prop:=∃ c',W.ownsRow 0 47 2 (.slice (some ⟨b,0,none⟩) n c') n (bL r)
section
variable {W W' : World} {b n c : Nat} {r : List aB}
theorem bF.of {c':Nat}(h:W.ownsRow 0 47 2 (.slice (some ⟨b,0,none⟩) n c') n (bL r)):bF W b n c r:=⟨c',h⟩
theorem bF.len (h:bF W b n c r):r.length=n:=by obtain⟨c',h⟩:=h;have:=h.1;rw[fT]at this;omega
theorem bF.lt (h:bF W b n c r):b<W.heap.size:=by obtain⟨c',h⟩:=h;exact cA h rfl
theorem bF.chg {S:Nat->Prop}(h:bF W b n c r) (hc:aG S W W') (hs:¬S b):bF W' b n c r:=by
 obtain⟨c',h⟩:=h;exact⟨c',aN hc h (fun k hk e=>hs (by have:b=k:=eL hk;subst this;exact e))⟩
theorem bF.below (h:bF W b n c r) (hc:Below W.heap.size W W'):bF W' b n c r:=by obtain⟨c',h⟩:=h;exact⟨c',aA hc h⟩
theorem bF.cells (h:bF W b n c r) {i:Nat}(hi:i<n):W.cell? ⟨b,i*2,none⟩=some (.int .i64 (r.getD i default).lo)/\W.cell? ⟨b,i*2+1,none⟩=some (.int .i64 (r.getD i default).hi)/\W.frozen? ⟨b,i*2,none⟩=false/\W.frozen? ⟨b,i*2+1,none⟩=false:=by
 have hl:=h.len;obtain⟨c',h⟩:=h;have e:r[i]? = some (r.getD i default):=by rw[List.getD_eq_getElem?_getD,List.getElem?_eq_getElem (by omega)];rfl
 have h0:=fZ r i 0 oz;rw[Nat.add_zero]at h0;exact⟨aH h (by rw[h0,e];rfl),aH h (by rw[fZ r i 1 (by omega),e];rfl),h.frozenAt _,h.frozenAt _⟩
theorem bF.set (h:bF W b n c r) {i:Nat}(hi:i<n) (p:aB):bF ((W.setCell ⟨b,i*2,none⟩ (.int .i64 p.lo)).setCell ⟨b,i*2+1,none⟩ (.int .i64 p.hi)) b n c (r.set i p):=by
 have hl:=h.len;obtain⟨c',h⟩:=h;have h1:=cH (cH h (i*2) (.int .i64 p.lo)) (i*2+1) (.int .i64 p.hi);rw[mV r i p (by omega)]at h1;exact⟨c',h1⟩
end
theorem jX (W:World) (b x y:Nat) (u v:Value):aG (· = b) W ((W.setCell ⟨b,x,none⟩ u).setCell ⟨b,y,none⟩ v) :=
 aG.setCell (S:=(· = b)) (aG.setCell (S:=(· = b)) (aG.refl _ _) (p:=⟨b,x,none⟩) (Or.inl rfl) _) (p:=⟨b,y,none⟩) (Or.inl rfl) _
theorem wP {p:Prop}(h:p:=by
 rintro e w' ⟨rfl,h⟩;exact⟨_,rfl,rfl,h⟩):p:=h
theorem aR8 (a b:aB) (w:World):Calls Tryz.prog 84 #[.agg #[.int .i64 a.lo,.int .i64 a.hi],.agg #[.int .i64 b.lo,.int .i64 b.hi]] w fun e w'=>∃ v,e=.returned v/\v=.tuple #[.agg #[.int .i64 (cZ a b).1.lo,.int .i64 (cZ a b).1.hi],.bool (cZ a b).2]/\Below w.heap.size w w' :=
 (aBe a b w).mono wP
theorem nW (i:Nat) (a:aB) (rb b n c:Nat) (r:List aB) (w:World) (ho:aF w rb [.slice (some ⟨b,0,none⟩) n c]) (hr:bF w b n c r) (hi:i<n) (hne:b≠rb) (hn:n<=64) :
 Calls Tryz.prog 83 #[.int .i64 i,aJ a,.pointer (some ⟨rb,0,none⟩)] w fun e w'=>e=.returned (.bool (fQ r i a).2)/\bF w' b n c (fQ r i a).1/\aG (· = b) w w':=by
 obtain⟨lo,hi'⟩:=a;have hcf:∀ (args:Array Value) (w:World),(callFunc 84 args).run Tryz.prog w=.ok (.enter 84 args) w:=fun _ _=>rfl;unfold fQ aJ;dsimp only;have HM:=qd (fun w=>aR8 (r.getD i default) ⟨lo,hi'⟩ w);have HO:=qd ho;have HR:=qd hr;obtain⟨r0,r1,r2,r3⟩:=hr.cells hi;obtain⟨o0,o1,o2⟩:=dG ho;have hbl:=hr.lt;generalize cZ (r.getD i default) ⟨lo,hi'⟩=mq at *;obtain⟨⟨mlo,mhi⟩,mb⟩:=mq;obtain⟨p,hp⟩:∃ p,r.getD i default=p:=⟨_,rfl⟩
 rw[hp]at HM r0 r1;obtain⟨plo,phi⟩:=p;dsimp only at HM r0 r1 ⊢;have hii:(i:Int)<(n:Int):=oz
 clear ho hr;go_enter Tryz.func83,Tryz.ntmps83;go_upto_region 1 with(fail)
 generalize hW0:World.alloc _ _=W0;have hb0:Below w.heap.size w W0:=by rw[<-hW0];exact bel
 have OA:aF W0 w.heap.size [.int .i64 lo,.int .i64 hi']:=by rw[<-hW0];exact aF.new _ _ _
 have hz0:w.heap.size<W0.heap.size:=OA.1;clear hW0 r0 r1 r2 r3 o0 o1 o2;have hrb:rb<w.heap.size:=HO.out.1;have HSS:Hid (∀ w',Below W0.heap.size W0 w'->w'.cell? ⟨rb,0,none⟩=some (.slice (some ⟨b,0,none⟩) n c)/\w'.cell? ⟨b,i*2,none⟩=some (.int .i64 plo)/\w'.cell? ⟨b,i*2+1,none⟩=some (.int .i64 phi)/\w'.cell? ⟨w.heap.size,0,none⟩=some (.int .i64 lo)/\w'.cell? ⟨w.heap.size,1,none⟩=some (.int .i64 hi')):=qd (fun w' hw=>by
  obtain⟨o0,o1,o2⟩:=dG ((HO.out.below hb0).below hw);obtain⟨r0,r1,r2,r3⟩:=((HR.out.below hb0).below hw).cells hi;obtain⟨a0,a1,a2,a3,a4⟩:=aD (OA.below hw);rw[hp]at r0 r1;exact⟨o1,r0,r1,a1,a2⟩)
 have HOA:=qd OA;clear OA;go_cut [6,7] (fun v6 v7 wc=>∃ k:Nat,v6=.pointer (some ⟨k,0,none⟩)/\v7=.bool mb/\Hid (aF wc k [.int .i64 mlo,.int .i64 mhi])/\Below W0.heap.size W0 wc/\W0.heap.size<=k)
 case first =>
  go_region_held3 (fun w'=>w'.cell? ⟨rb,0,none⟩=some (.slice (some ⟨b,0,none⟩) n c)/\w'.cell? ⟨b,i*2,none⟩=some (.int .i64 plo)/\w'.cell? ⟨b,i*2+1,none⟩=some (.int .i64 phi)/\w'.cell? ⟨w.heap.size,0,none⟩=some (.int .i64 lo)/\w'.cell? ⟨w.heap.size,1,none⟩=some (.int .i64 hi')) (exact HSS.out _ bel)
   (first
   | (refine aP rfl 84 [.tmp 12,.tmp 13] #[47,47] rfl hcf [.agg #[.int .i64 plo,.int .i64 phi],.agg #[.int .i64 lo,.int .i64 hi']] rfl _ (HM.out _) ?_;rintro v wM ⟨rfl,hbM⟩;have hwM:Below W0.heap.size W0 wM:=bel;have hzM:=hwM.size;(try(have pM:=aF.below (aF.drew (aF.new' W0 [.int .i64 0,.int .i64 0] 47 W0.heap.size rfl)) (by with_reducible exact hbM);have oM:=aD pM))))
  all_goals go_wp2
  all_goals go_meet
  all_goals first
   | exact⟨wM.heap.size,rfl,rfl,qd (aF.new _ _ _),bel,hzM⟩
   | exact⟨W0.heap.size,rfl,rfl,qd ((pM.set 0 _ si).set 1 _ si),bel,Nat.le_refl _⟩
 case rest =>
  obtain⟨k,rfl,rfl,OK,hbc,hkl⟩:=hcut;obtain⟨k0,k1,k2,k3,k4⟩:=aD OK.out;obtain⟨o0,o1,o2⟩:=dG ((HO.out.below hb0).below hbc);have HR2:=qd ((HR.out.below hb0).below hbc);obtain⟨r0,r1,r2,r3⟩:=HR2.out.cells hi;have hzc:=hbc.size;go_wp2;go_ret;go_light;refine⟨rfl,HR2.out.set hi ⟨mlo,mhi⟩,?_⟩;exact((aG.of (hb0.trans (hbc.mono oz))).trans (jX _ _ _ _ _ _))
end
/-- what going a way leaves: the flag; where it is gone the spans behind it -/
def dX (b n c:Nat) (w:World) (res:Option (List aB)) (e:Ending) (w':World):Prop:=e=.returned (.bool res.isSome)/\aG (· = b) w w'/\∀ out,res=some out->bF w' b n c out
theorem tM {p:Prop}(h:p:=by
 by_cases e1:to_=xn
 ·have q1:(to_==xn)=true:=by simpa using e1
  by_cases e2:xn=(frm:Int)+1
  ·have q2:(xn != (frm:Int)+1)=false:=by simpa using e2
   go_wp2;go_meet
   all_goals exact⟨by simp[e1,e2],rfl⟩
  ·have q2:(xn != (frm:Int)+1)=true:=by simpa using e2
   go_wp2;go_meet
   all_goals exact⟨by simp[e1,e2],rfl⟩
 ·have q1:(to_==xn)=false:=by simpa using e1
  go_wp2;go_meet
  all_goals exact⟨by simp[e1],rfl⟩):p:=h
theorem aPn (x:dJ) (B:Nat) (m:bA) (hh:HF) (f:aC) (ta fa:Option Addr) (tl tc fl fc:Nat) (frm:Nat) (to_:Int) (b n c:Nat) (r:List aB) (w:World) (hB:B<=w.heap.size) (hf:aZ B w hh f) (hfl:frm<f.code.length) (hn1:f.code.length<=1024) (hx:f.code.getD frm default=x) (hi:cY m f x) (hr:bF w b n c r) (hrg:(n:Int)=f.regs) (hn:n<=64) (hop:x.op=1):Calls Tryz.prog 47 #[.agg #[.slice ta tl tc,.slice fa fl fc],aI hh f,.int .i64 frm,.int .i64 to_,.slice (some ⟨b,0,none⟩) n c] w (dX b n c w (some (eC r x.a ⟨x.n,x.n⟩))):=by
 obtain⟨pa,pl,pc,cb,co,cc,rfl,hcm,hcB,⟨g0,g1,g2,g3,g4⟩,hcbl,hcb1,hcb2,hcb3,hfr,hwf⟩:=dW hB hf hfl hn1 hx;clear hf;unfold aI;dsimp only;have hbl:=hr.lt;obtain⟨op,xa,xb,xc,xn⟩:=x;obtain⟨v1,v2,v3,v4,v5,v6,v7,v8,v9,v10⟩:=hi;dsimp only at *;subst hop;have hmf:=@mkF Tryz.prog;go_enter Tryz.func47,Tryz.ntmps47;go_upto_region 2 with(fail)
 generalize hW0:World.alloc _ _=W0;obtain⟨hb0,OM,OF,OR,OX,hz0⟩:=eS hW0;clear hW0 g0 g1 g2 g3 g4;have hr0:=hr.below hb0;have x5:=aX OX;have o1:=dG OR;go_cut [12] (fun v wx=>v=.bool (decide (to_=xn)&&decide (xn≠(frm:Int)+1))/\wx=W0)
 case first =>
  exact tM
 case rest =>
  obtain⟨rfl,rfl⟩:=hcut;obtain⟨wb,hwb⟩:∃ wb:World,wb=wc:=⟨_,rfl⟩
  subst hwb;generalize hfar:(decide (to_=xn)&&decide (xn≠(frm:Int)+1))=far;have HFAR:=qd hfar;clear hfar;obtain⟨ka,rfl⟩:=Int.eq_ofNat_of_zero_le v3;have hka:ka<n:=oz
  have hka2:(ka:Int)<(n:Int):=oz
  obtain⟨r0,r1,r2,r3⟩:=hr0.cells hka;go_wp2;go_ret;go_light;refine⟨rfl,(aG.of hb0).trans (jX _ _ _ _ _ _),fun out ho=>?_⟩;cases ho;unfold eC;rw[Int.toNat_natCast];exact hr0.set hka ⟨xn,xn⟩
theorem aEy (op:Int) (a b:aB) (w:World) (hop:3<=op/\op<=10) (ha:dL a) (hb:dL b) :
 Calls Tryz.prog 85 #[.int .i64 op,.agg #[.int .i64 a.lo,.int .i64 a.hi],.agg #[.int .i64 b.lo,.int .i64 b.hi]] w fun e w'=>∃ v,e=.returned v/\v=.tuple #[.agg #[.int .i64 (aS op a b).1.lo,.int .i64 (aS op a b).1.hi],.bool (aS op a b).2]/\Below w.heap.size w w':=by
 have key:Calls Tryz.prog 85 #[.int .i64 op,aJ a,aJ b] w fun e w'=>e=.returned (.tuple #[aJ (aS op a b).1,.bool (aS op a b).2])/\Below w.heap.size w w':=by
  obtain⟨a1,a2,a3⟩:=ha;obtain⟨b1,b2,b3⟩:=hb;obtain rfl|rfl|rfl|rfl|rfl|rfl|rfl|rfl:op=3\/op=4\/op=5\/op=6\/op=7\/op=8\/op=9\/op=10:=oz
  ·exact aTb a b w a3 b3
  ·exact aTn a b w a3 b3
  ·exact aSq a b w a3 b3 a1 a2 b1 b2
  ·exact aSp a b w a3 b3
  ·exact aTa a b w a3 b3 b1 b2
  ·exact aNz a b w a3 b3
  ·exact aL4 a b w a3 b3
  ·exact aS6 a b w a3 b3
 exact key.mono wP
theorem aOw {p:Prop}(h:p:=by
 go_ret;go_light;have e:=HRES.out;simp only[if_true,reduceIte]at e;rw[e];exact⟨rfl,(aG.of (hb0.trans (hbd.mono oz))).trans (jX _ _ _ _ _ _),fun out ho=>by cases ho;exact HRd.out.set hka ⟨rlo,rhi⟩⟩):p:=h
theorem aTr {p:Prop}(h:p:=by
 go_ret;go_light;have e:=HRES.out;simp only[Bool.false_eq_true,if_false,reduceIte]at e;rw[e];exact⟨rfl,aG.of (hb0.trans (hbd.mono oz)),fun out ho=>by cases ho⟩):p:=h
theorem aJi {p:Prop}(h:p:=by
 try clear Ee
 simp only[GE,Act.put,SU];go_wp2;go_meet;exact⟨wb.heap.size,rfl,rfl,qd ((pM.set 0 _ si).set 1 _ si),bel,Nat.le_refl _⟩):p:=h
theorem iD {p:Prop}(h:p:=by
 simp only[GE,MX,EX,Ee,reduceIte,Nat.reduceEqDiff,Nat.reduceLT,Nat.reduceBEq]):p:=h
theorem aJc {p:Prop}(h:p:=by
 rintro v wM ⟨rfl,hbM⟩;have hwM:Below wb.heap.size wb wM:=hHeld.trans (hbM.mono hHeld.size);have hzM:=hwM.size;refine hK.out _ _ (hwM) fun hHeld=>?_;clear hK K;refine aL 13 rfl ?_;refine aL 14 rfl ?_;refine aL 15 rfl ?_;generalize hA2:(Act.put _ _ _:Act)=a2;replace Ee:a2.eval (.tmp 88)=.agg #[.int .i64 rlo,.int .i64 rhi]/\a2.eval (.tmp 89)=.bool rok/\a2.tmps.size=290:=mQ;refine fD 16 rfl fun K hK=>?_;refine sX ?_;refine hK.out _ _ (bel) fun hHeld=>?_;clear hK K;generalize hA3:(Act.put _ _ _:Act)=a3;replace Ee:a3.eval (.tmp 88)=.agg #[.int .i64 rlo,.int .i64 rhi]/\a3.eval (.tmp 89)=.bool rok/\a3.eval (.tmp 14)=.pointer (some ⟨wM.heap.size,0,none⟩)/\a3.tmps.size=290:=rV;refine fD 17 rfl fun K hK=>?_;refine pA ?_;refine hK.out _ _ (bel) fun hHeld=>?_;clear hK K;generalize hA4:(Act.put _ _ _:Act)=a4;replace Ee:a4.eval (.tmp 89)=.bool rok/\a4.tmps.size=290:=xE;refine aL 18 rfl ?_;refine aO kr ?_;refine hK0.out _ _ ?_;subst hA4;subst hA3;subst hA2;subst hA1;subst hA0
 try clear Ee
 simp only[GE,Act.put,SU];go_wp2;go_meet;exact⟨wM.heap.size,rfl,rfl,qd (aF.new _ _ _),bel,hzM⟩):p:=h
theorem qB {p:Prop}(h:p:=by
 rw[<-hA0];exact⟨rfl,rfl,rfl⟩):p:=h
theorem aPb (x:dJ) (B:Nat) (m:bA) (hh:HF) (f:aC) (ta fa:Option Addr) (tl tc fl fc:Nat) (frm:Nat) (to_:Int) (b n c:Nat) (r:List aB) (w:World) (hB:B<=w.heap.size) (hf:aZ B w hh f) (hfl:frm<f.code.length) (hn1:f.code.length<=1024) (hx:f.code.getD frm default=x) (hi:cY m f x) (hr:bF w b n c r) (hrg:(n:Int)=f.regs) (hn:n<=64) (hop:x.op=3\/x.op=4\/x.op=5\/x.op=8\/x.op=9) (hrok:gU n r):Calls Tryz.prog 47 #[.agg #[.slice ta tl tc,.slice fa fl fc],aI hh f,.int .i64 frm,.int .i64 to_,.slice (some ⟨b,0,none⟩) n c] w (dX b n c w (lL x r)):=by
 obtain⟨pa,pl,pc,cb,co,cc,rfl,hcm,hcB,⟨g0,g1,g2,g3,g4⟩,hcbl,hcb1,hcb2,hcb3,hfr,hwf⟩:=dW hB hf hfl hn1 hx;clear hf;unfold aI;dsimp only;have hbl:=hr.lt;obtain⟨op,xa,xb,xc,xn⟩:=x;obtain⟨v1,v2,v3,v4,v5,v6,v7,v8,v9,v10⟩:=hi;dsimp only at *;have hmf:=@mkF Tryz.prog;go_enter Tryz.func47,Tryz.ntmps47;go_upto_region 2 with(fail)
 generalize hW0:World.alloc _ _=W0;obtain⟨hb0,OM,OF,OR,OX,hz0⟩:=eS hW0;clear hW0 g0 g1 g2 g3 g4;have hr0:=hr.below hb0;have x5:=aX OX;have o1:=dG OR;go_cut [12] (fun v wx=>v=.bool (decide (to_=xn)&&decide (xn≠(frm:Int)+1))/\wx=W0)
 case first =>
  exact tM
 case rest =>
  obtain⟨rfl,rfl⟩:=hcut;obtain⟨wb,hwb⟩:∃ wb:World,wb=wc:=⟨_,rfl⟩
  subst hwb;generalize hfar:(decide (to_=xn)&&decide (xn≠(frm:Int)+1))=far;have HFAR:=qd hfar;clear hfar;obtain⟨ka,rfl⟩:=Int.eq_ofNat_of_zero_le v3;have hka:ka<n:=oz
  have hka2:(ka:Int)<(n:Int):=oz
  obtain⟨r0,r1,r2,r3⟩:=hr0.cells hka;obtain⟨kb,rfl⟩:=Int.eq_ofNat_of_zero_le v5;have hkb:kb<n:=oz
  have hkb2:(kb:Int)<(n:Int):=oz
  obtain⟨t0,t1,t2,t3⟩:=hr0.cells hkb;obtain⟨kc,rfl⟩:=Int.eq_ofNat_of_zero_le v7;have hkc:kc<n:=oz
  have hkc2:(kc:Int)<(n:Int):=oz
  have q1:(op==1)=false:=by simp;omega
  have q2:(op==2)=false:=by simp;omega
  have q6:(op==6)=false:=by simp;omega
  have q7:(op==7)=false:=by simp;omega
  go_upto_if 65 with(fail)
  go_cut [65,67,68,69,70,71,72,73] (fun v y1 y2 y3 y4 y5 y6 y7 wx=>v=.bool true/\wx=wb)
  case first =>
   clear q6 q7
   as_aux_lemma=>(rcases hop with rfl|rfl|rfl|rfl|rfl<;>(go_wp2;go_meet;exact⟨rfl,rfl⟩))
  case rest =>
   obtain⟨rfl,h⟩:=hcut;have h':=h.symm;subst h';clear h q1 q2;go_upto_region 17 with(fail)
   have hL:=hrok;have hpb:dL (r.getD kb default):=hL.2 kb oz;have hpc:dL (r.getD kc default):=hL.2 kc oz;have HD:=qd (fun w=>aEy op (r.getD kb default) (r.getD kc default) w oz hpb hpc);have hres:lL ⟨op,ka,kb,kc,xn⟩ r=if(aS op (r.getD kb default) (r.getD kc default)).2 then some (r.set ka (aS op (r.getD kb default) (r.getD kc default)).1)else none:=by
    rcases hop with rfl|rfl|rfl|rfl|rfl<;>simp[lL,fI,eC]
   have hcf:∀ (args:Array Value) (w:World),(callFunc 85 args).run Tryz.prog w=.ok (.enter 85 args) w:=fun _ _=>rfl;have HRES:=qd hres;clear hres hpb hpc hL hrok x5 o1 r0 r1 r2 r3 t0 t1 t2 t3;have HSS:Hid (∀ w',Below wb.heap.size wb w'->w'.cell? ⟨w.heap.size+1+1,0,none⟩=some (.slice (some ⟨b,0,none⟩) n c)/\w'.cell? ⟨w.heap.size+1+1+1,0,none⟩=some (.int .i64 op)/\w'.cell? ⟨w.heap.size+1+1+1,2,none⟩=some (.int .i64 kb)/\w'.cell? ⟨w.heap.size+1+1+1,3,none⟩=some (.int .i64 kc) /\
    w'.cell? ⟨b,kb*2,none⟩=some (.int .i64 (r.getD kb default).lo)/\w'.cell? ⟨b,kb*2+1,none⟩=some (.int .i64 (r.getD kb default).hi)/\w'.cell? ⟨b,kc*2,none⟩=some (.int .i64 (r.getD kc default).lo)/\w'.cell? ⟨b,kc*2+1,none⟩=some (.int .i64 (r.getD kc default).hi)):=qd (fun w' hw=>by
    obtain⟨_,s0,_⟩:=dG (OR.below hw);have x5:=aX (OX.below hw);obtain⟨b0,b1,_,_⟩:=(hr0.below hw).cells hkb;obtain⟨c0,c1,_,_⟩:=(hr0.below hw).cells hkc;exact⟨s0,x5.2.1,x5.2.2.2.1,x5.2.2.2.2.1,b0,b1,c0,c1⟩)
   generalize aS op (r.getD kb default) (r.getD kc default)=res at *;obtain⟨⟨rlo,rhi⟩,rok⟩:=res;generalize r.getD kb default=pb at *;generalize r.getD kc default=pc at *;obtain⟨blo,bhi⟩:=pb;obtain⟨clo,chi⟩:=pc;dsimp only at HD HSS HRES;have HOX:=qd OX;have HOR:=qd OR;have HR0:=qd hr0;clear OX OR hr0 OM OF hr hmf hx hrg hfr hwf v1 v2 v4 v6 v8 v9 v10 hcm hcB hcbl hcb1 hcb2 hcb3 hfl hn1;have hzw:w.heap.size+4<=wb.heap.size:=hz0;go_cut [14,15] (fun v14 v15 wc=>∃ k:Nat,v14=.pointer (some ⟨k,0,none⟩)/\v15=.bool rok/\Hid (aF wc k [.int .i64 rlo,.int .i64 rhi])/\Below wb.heap.size wb wc/\wb.heap.size<=k)
   case first =>
    as_aux_lemma =>
     generalize hA0:(Act.mk _ _:Act)=a0;have Ee:a0.eval (.tmp 9)=.pointer (some ⟨w.heap.size+1+1,0,none⟩)/\a0.eval (.tmp 11)=.pointer (some ⟨w.heap.size+1+1+1,0,none⟩)/\a0.tmps.size=290:=qB
     refine aE (fun w'=>Below wb.heap.size wb w') kr ((Below.refl _ wb).drew) ?_;intro K0 hK0 hHeld
     try dsimp only at hHeld
     refine aL 0 rfl ?_;refine aL 1 rfl ?_;refine aL 2 rfl ?_;refine aL 3 rfl ?_;refine aL 4 rfl ?_;refine aL 5 rfl ?_;refine aL 6 rfl ?_;refine aL 7 rfl ?_;refine aL 8 rfl ?_;refine aL 9 rfl ?_;refine aL 10 rfl ?_;refine aL 11 rfl ?_;generalize hA1:(Act.put _ _ _:Act)=a1;replace Ee:a1.eval (.tmp 76)=.int .i64 op/\a1.eval (.tmp 81)=.agg #[.int .i64 blo,.int .i64 bhi]/\a1.eval (.tmp 86)=.agg #[.int .i64 clo,.int .i64 chi]/\a1.tmps.size=290:=oZ;refine wpAnyH_ready (rs:=[12,16]) kr si ?_;refine iB rfl (fun K hK=>?_) (iB rfl (fun K hK=>?_) AllReadyH.nil)
     ·refine aP rfl 85 [.tmp 76,.tmp 81,.tmp 86] #[3,47,47] rfl hcf [.int .i64 op,.agg #[.int .i64 blo,.int .i64 bhi],.agg #[.int .i64 clo,.int .i64 chi]] (by simp only[GE,MX,EX,Ee,reduceIte,Nat.reduceEqDiff,Nat.reduceLT,Nat.reduceBEq]) _ (HD.out _) ?_;exact aJc
     ·refine sX ?_;refine hK.out _ _ (bel) fun hHeld=>?_;clear hK K;generalize hA2:(Act.put _ _ _:Act)=a2;replace Ee:a2.eval (.tmp 76)=.int .i64 op/\a2.eval (.tmp 81)=.agg #[.int .i64 blo,.int .i64 bhi]/\a2.eval (.tmp 86)=.agg #[.int .i64 clo,.int .i64 chi]/\a2.eval (.tmp 14)=.pointer (some ⟨wb.heap.size,0,none⟩)/\a2.tmps.size=290:=mQ;refine fD 12 rfl fun K hK=>?_;refine aP rfl 85 [.tmp 76,.tmp 81,.tmp 86] #[3,47,47] rfl hcf [.int .i64 op,.agg #[.int .i64 blo,.int .i64 bhi],.agg #[.int .i64 clo,.int .i64 chi]] iD _ (HD.out _) ?_;rintro v wM ⟨rfl,hbM⟩;have hwM:Below wb.heap.size wb wM:=hHeld.trans (hbM.mono hHeld.size);have hzM:=hwM.size;have pM:=aF.below (aF.drew (aF.new' wb [.int .i64 0,.int .i64 0] 47 wb.heap.size rfl)) hbM;have oM:=aD pM;refine hK.out _ _ (hwM) fun hHeld=>?_;clear hK K;refine aL 13 rfl ?_;refine aL 14 rfl ?_;refine aL 15 rfl ?_;generalize hA3:(Act.put _ _ _:Act)=a3;replace Ee:a3.eval (.tmp 88)=.agg #[.int .i64 rlo,.int .i64 rhi]/\a3.eval (.tmp 89)=.bool rok/\a3.eval (.tmp 14)=.pointer (some ⟨wb.heap.size,0,none⟩)/\a3.tmps.size=290:=rV;refine fD 17 rfl fun K hK=>?_;refine pA ?_;refine hK.out _ _ (bel) fun hHeld=>?_;clear hK K;generalize hA4:(Act.put _ _ _:Act)=a4;replace Ee:a4.eval (.tmp 89)=.bool rok/\a4.tmps.size=290:=xE;refine aL 18 rfl ?_;refine aO kr ?_;refine hK0.out _ _ ?_;subst hA4;subst hA3;subst hA2;subst hA1;subst hA0
      exact aJi
   case rest =>
    obtain⟨k,rfl,rfl,OK,hbd,hkl⟩:=hcut;have hzd:=hbd.size;obtain⟨k0,k1,k2,k3,k4⟩:=aD OK.out;have x5:=aX (HOX.out.below hbd);have o1:=dG (HOR.out.below hbd);have HRd:=qd (HR0.out.below hbd);obtain⟨r0,r1,r2,r3⟩:=HRd.out.cells hka;have hbl2:b<wc.heap.size:=HRd.out.lt;cases rok
    ·go_wp2
     try rw[Exit.noGoto_ret]
     exact aTr
    ·go_wp2
     try rw[Exit.noGoto_ret]
     exact aOw
theorem sA (a:aB) (w:World):Calls Tryz.prog 86 #[.agg #[.int .i64 a.lo,.int .i64 a.hi]] w fun e w'=>∃ v,e=.returned v/\v=.tuple #[.agg #[.int .i64 (cB a).1.lo,.int .i64 (cB a).1.hi],.bool (cB a).2]/\Below w.heap.size w w' :=
 (aF9 a w).mono wP
theorem aPf {p:Prop}(h:p:=by
 have q9:(xn==(frm:Int)+1)=true:=by simpa using h1
 rw[if_pos (by simpa using h1)]at hres;have HR2:=qd hres;clear hres;go_wp2;go_ret;go_light;rw[HR2.out];exact⟨rfl,aG.of hb0,fun out ho=>by cases ho;exact hr0⟩):p:=h
theorem aTs {p:Prop}(h:p:=by
 rw[if_neg (by simp)]at hres;unfold fI eC at hres;rw[Int.toNat_natCast]at hres;have hcf:∀ (args:Array Value) (w:World),(callFunc 86 args).run Tryz.prog w=.ok (.enter 86 args) w:=fun _ _=>rfl;have HW0:=qd (fun w=>sA (r.getD ka default) w);have HRES:=qd hres;clear hres;generalize cB (r.getD ka default)=q at *;obtain⟨⟨qlo,qhi⟩,qok⟩:=q;obtain⟨pa,hpa⟩:∃ p,r.getD ka default=p:=⟨_,rfl⟩
 rw[hpa]at HW0 r0 r1;clear hpa;obtain⟨alo,ahi⟩:=pa;dsimp only at HW0 HRES r0 r1;have HSS:Hid (∀ w',aG (· = b) wb w'->w'.cell? ⟨w.heap.size+1+1,0,none⟩=some (.slice (some ⟨b,0,none⟩) n c)/\w'.cell? ⟨w.heap.size+1+1+1,1,none⟩=some (.int .i64 ka)):=qd (fun w' hw=>by
  obtain⟨_,s0,_⟩:=dG (hw.own OR (by show ¬(_=b);omega));have x5:=aX (hw.own OX (by show ¬(_=b);omega));exact⟨s0,x5.2.2.1⟩)
 go_upto_region 45 with(fail)
 clear x5 o1 OM OF OR OX hr hmf hx hrg hfr hwf h1 q9 v1 v2 v4 v5 v6 v7 v8 v9 v10 hcm hcB hcbl hcb1 hcb2 hcb3 hfl hn1;generalize hA0:(Act.mk _ _:Act)=a0;have Ee:a0.eval (.tmp 9)=.pointer (some ⟨w.heap.size+1+1,0,none⟩)/\a0.eval (.tmp 11)=.pointer (some ⟨w.heap.size+1+1+1,0,none⟩)/\a0.tmps.size=290:=by rw[<-hA0];exact⟨rfl,rfl,rfl⟩
 refine aE (fun w'=>aG (· = b) wb w') kr ((aG.refl _ wb).drew) ?_;intro K0 hK0 hHeld
 try dsimp only at hHeld
 refine aL 0 rfl ?_;refine aL 1 rfl ?_;refine aL 2 rfl ?_;refine aL 3 rfl ?_;refine aL 4 rfl ?_;refine aL 5 rfl ?_;refine aL 6 rfl ?_;generalize hA1:(Act.put _ _ _:Act)=a1;replace Ee:a1.eval (.tmp 212)=.pointer (some ⟨b,ka*2,none⟩)/\a1.eval (.tmp 206)=.slice (some ⟨b,0,none⟩) n c/\a1.eval (.tmp 208)=.int .i64 ka/\a1.tmps.size=290:=oZ;refine fD 7 rfl fun K hK=>?_;refine sX ?_;refine hK.out _ _ (chq) fun hHeld=>?_;clear hK K;generalize hA2:(Act.put _ _ _:Act)=a2;replace Ee:a2.eval (.tmp 213)=.agg #[.int .i64 alo,.int .i64 ahi]/\a2.eval (.tmp 206)=.slice (some ⟨b,0,none⟩) n c/\a2.eval (.tmp 208)=.int .i64 ka/\a2.tmps.size=290:=mQ;refine fD 8 rfl fun K hK=>?_;refine aP rfl 86 [.tmp 213] #[47] rfl hcf [.agg #[.int .i64 alo,.int .i64 ahi]] (by simp only[GE,MX,EX,Ee,reduceIte,Nat.reduceEqDiff,Nat.reduceLT,Nat.reduceBEq]) _ (HW0.out _) ?_;rintro v wM ⟨rfl,hbM⟩;have hwM:aG (· = b) wb wM:=hHeld.trans (aG.of hbM);have hzM:=hwM.size;have hrM:bF wM b n c r:=(hr0.below ((Below.refl _ _).drew)).below hbM;obtain⟨q0,q1,q2,q3⟩:=hrM.cells hka;refine hK.out _ _ (hwM) fun hHeld=>?_;clear hK K;refine aL 9 rfl ?_;refine aL 10 rfl ?_;refine aL 11 rfl ?_;refine aL 12 rfl ?_;generalize hA3:(Act.put _ _ _:Act)=a3;replace Ee:a3.eval (.tmp 215)=.agg #[.int .i64 qlo,.int .i64 qhi]/\a3.eval (.tmp 216)=.bool qok/\a3.eval (.tmp 217)=.pointer (some ⟨b,ka*2,none⟩)/\a3.tmps.size=290:=rV;refine fD 13 rfl fun K hK=>?_;refine pA ?_;refine hK.out _ _ (chq) fun hHeld=>?_;clear hK K;refine aL 14 rfl ?_;refine aO kr ?_;refine hK0.out _ _ ?_;subst hA3;subst hA2;subst hA1;subst hA0
 try clear Ee
 simp only[GE,Act.put,SU];go_wp2;go_ret;go_light;rw[HRES.out];refine⟨by cases qok<;>rfl,((aG.of hb0).trans hwM).trans (jX _ _ _ _ _ _),fun out ho=>?_⟩;cases qok
 ·cases ho
 ·cases ho;exact hrM.set hka ⟨qlo,qhi⟩):p:=h
theorem aN8 {p:Prop}(h:p:=by
 rw[if_pos (by simp),Int.toNat_natCast]at hres;have hne:b≠w.heap.size+1+1:=oz
 have HM:=qd (nW ka ⟨0,0⟩ (w.heap.size+1+1) b n c r wb OR hr0 hka hne hn);generalize fQ r ka ⟨0,0⟩=q at *;exact aUg):p:=h
theorem aSs (x:dJ) (B:Nat) (m:bA) (hh:HF) (f:aC) (ta fa:Option Addr) (tl tc fl fc:Nat) (frm:Nat) (to_:Int) (b n c:Nat) (r:List aB) (w:World) (hB:B<=w.heap.size) (hf:aZ B w hh f) (hfl:frm<f.code.length) (hn1:f.code.length<=1024) (hx:f.code.getD frm default=x) (hi:cY m f x) (hr:bF w b n c r) (hrg:(n:Int)=f.regs) (hn:n<=64) (hop:x.op=15):Calls Tryz.prog 47 #[.agg #[.slice ta tl tc,.slice fa fl fc],aI hh f,.int .i64 frm,.int .i64 to_,.slice (some ⟨b,0,none⟩) n c] w (dX b n c w (rT x (decide (to_=x.n)&&decide (x.n≠(frm:Int)+1)) (decide (x.n=(frm:Int)+1)) r)):=by
 obtain⟨RES,hRES⟩:∃ q,q=(rT x (decide (to_=x.n)&&decide (x.n≠(frm:Int)+1)) (decide (x.n=(frm:Int)+1)) r):=⟨_,rfl⟩
 rw[<-hRES];have HRES:=qd hRES;clear hRES;obtain⟨pa,pl,pc,cb,co,cc,rfl,hcm,hcB,⟨g0,g1,g2,g3,g4⟩,hcbl,hcb1,hcb2,hcb3,hfr,hwf⟩:=dW hB hf hfl hn1 hx;clear hf;unfold aI;dsimp only;have hbl:=hr.lt;obtain⟨op,xa,xb,xc,xn⟩:=x;obtain⟨v1,v2,v3,v4,v5,v6,v7,v8,v9,v10⟩:=hi;dsimp only at *;subst hop;have hmf:=@mkF Tryz.prog;go_enter Tryz.func47,Tryz.ntmps47;go_upto_region 2 with(fail)
 generalize hW0:World.alloc _ _=W0;obtain⟨hb0,OM,OF,OR,OX,hz0⟩:=eS hW0;clear hW0 g0 g1 g2 g3 g4;have hr0:=hr.below hb0;have x5:=aX OX;have o1:=dG OR;go_cut [12] (fun v wx=>v=.bool (decide (to_=xn)&&decide (xn≠(frm:Int)+1))/\wx=W0)
 case first =>
  exact tM
 case rest =>
  obtain⟨rfl,rfl⟩:=hcut;obtain⟨wb,hwb⟩:∃ wb:World,wb=wc:=⟨_,rfl⟩
  subst hwb;generalize hfar:(decide (to_=xn)&&decide (xn≠(frm:Int)+1))=far;have HFAR:=qd hfar;clear hfar;obtain⟨ka,rfl⟩:=Int.eq_ofNat_of_zero_le v3;have hka:ka<n:=oz
  have hka2:(ka:Int)<(n:Int):=oz
  obtain⟨r0,r1,r2,r3⟩:=hr0.cells hka;have hres:=HRES.out;rw[HFAR.out]at hres;clear HRES HFAR;unfold rT at hres;dsimp only at hres;by_cases h1:xn=(frm:Int)+1
  ·exact aPf
  ·have q9:(xn==(frm:Int)+1)=false:=by simpa using h1
   rw[if_neg (by simpa using h1)]at hres;cases far
   case false =>
    exact aN8
   case true =>
    exact aTs
end Go.Proofs.YteebpnbdihcfmaaGreatDoor
