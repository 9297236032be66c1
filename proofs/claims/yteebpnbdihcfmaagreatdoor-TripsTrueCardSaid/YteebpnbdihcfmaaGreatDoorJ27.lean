/- Package bounds; Package bounds; Slices of spans; ;  -/
import Derived.Test.YteebpnbdihcfmaaGreatDoorJ16
import Derived.Test.YteebpnbdihcfmaaGreatDoorJ13
import Derived.Test.YteebpnbdihcfmaaGreatDoorJ14
import Derived.Test.YteebpnbdihcfmaaGreatDoorJ17
import Derived.Test.YteebpnbdihcfmaaGreatDoorJ18
import Derived.Test.YteebpnbdihcfmaaGreatDoorJ19
import Derived.Test.YteebpnbdihcfmaaGreatDoorJ20
import Derived.Test.YteebpnbdihcfmaaGreatDoorJ21
import Derived.Test.YteebpnbdihcfmaaGreatDoorJ22
import Derived.Test.YteebpnbdihcfmaaGreatDoorJ23
import Derived.Test.YteebpnbdihcfmaaGreatDoorJ24
import Derived.Test.YteebpnbdihcfmaaGreatDoorJ25
import Derived.Test.YteebpnbdihcfmaaGreatDoorJ26
import Derived.Test.YteebpnbdihcfmaaGreatDoorJ10
import Derived.Test.YteebpnbdihcfmaaGreatDoorJ04
import Derived.IntWalk
import Derived.Test.YteebpnbdihcfmaaGreatDoorJ01
set_option linter.unusedVariables false
set_option linter.unusedSimpArgs false
set_option maxRecDepth 100000
set_option maxHeartbeats 20000000
namespace Go.Proofs.YteebpnbdihcfmaaGreatDoor
open Go.RowKit
theorem meetsTo_succ {r:List PSpan}{b:Nat}{ps:List PSpan}{k:Nat}{q:List PSpan}(h:meetsTo r b ps k=some q):meetsTo r b ps (k+1)=if(meetR q (b+k) (ps.getD k default)).2 then some (meetR q (b+k) (ps.getD k default)).1 else none:=by
 show(meetsTo r b ps k).bind _=_;rw[h];rfl
theorem meetsTo_none {r:List PSpan}{b:Nat}{ps:List PSpan}{k:Nat}(h:meetsTo r b ps k=none):∀ j,k<=j->meetsTo r b ps j=none
 | 0, hj => by have : k = 0 := oz
               subst this;exact h
 | j+1,hj=>by
  by_cases e:k=j+1
  ·subst e;exact h
  ·show(meetsTo r b ps j).bind _=_;rw[meetsTo_none h j (by omega)];rfl
theorem away_call (x:PIns) (B:Nat) (m:PMod) (hh:HF) (f:PFunc) (ta fa:Option Addr) (tl tc fl fc:Nat) (frm:Nat) (to_:Int) (b n c:Nat) (r:List PSpan) (w:World) (hB:B<=w.heap.size) (hf:FuncOk B w hh f) (hfl:frm<f.code.length) (hn1:f.code.length<=1024) (hx:f.code.getD frm default=x) (hi:InsFine m f x) (hr:SpRow w b n c r) (hrg:(n:Int)=f.regs) (hn:n<=64) (hmo:ModAt B w (.agg #[.slice ta tl tc,.slice fa fl fc]) m) (hBb:B<=b) (hop:x.op=19):Calls Tryz.prog 47 #[.agg #[.slice ta tl tc,.slice fa fl fc],FuncVal hh f,.int .i64 frm,.int .i64 to_,.slice (some ⟨b,0,none⟩) n c] w (AwayPost b n c w ((meetsTo r x.b.toNat (paramsAt m x.n) (paramsAt m x.n).length).map fun q=>spSet q x.a allP)):=by
 have HMo:=qd hmo;clear hmo;obtain⟨RES,hRES⟩:∃ q,q=((meetsTo r x.b.toNat (paramsAt m x.n) (paramsAt m x.n).length).map fun q=>spSet q x.a allP):=⟨_,rfl⟩
 rw[<-hRES];have HRES:=qd hRES;clear hRES;obtain⟨pa,pl,pc,cb,co,cc,rfl,hcm,hcB,⟨g0,g1,g2,g3,g4⟩,hcbl,hcb1,hcb2,hcb3,hfr,hwf⟩:=away_pre hB hf hfl hn1 hx;clear hf;unfold FuncVal;dsimp only;have hbl:=hr.lt;obtain⟨op,xa,xb,xc,xn⟩:=x;obtain⟨v1,v2,v3,v4,v5,v6,v7,v8,v9,v10⟩:=hi;dsimp only at *;subst hop;have hmf:=@mkF Tryz.prog;go_enter Tryz.func47,Tryz.ntmps47;go_upto_region 2 with(fail)
 generalize hW0:World.alloc _ _=W0;obtain⟨hb0,OM,OF,OR,OX,hz0⟩:=own_four hW0;clear hW0 g0 g1 g2 g3 g4;have hr0:=hr.below hb0;have x5:=own5 OX;have o1:=own1 OR;go_cut [12] (fun v wx=>v=.bool (decide (to_=xn)&&decide (xn≠(frm:Int)+1))/\wx=W0)
 case first =>
  by_cases e1:to_=xn
  ·have q1:(to_==xn)=true:=by simpa using e1
   by_cases e2:xn=(frm:Int)+1
   ·have q2:(xn != (frm:Int)+1)=false:=by simpa using e2
    have E1:=qd e1;have E2:=qd e2;clear e1 e2;go_wp2;go_meet
    all_goals exact⟨by simp[E1.out,E2.out],rfl⟩
   ·have q2:(xn != (frm:Int)+1)=true:=by simpa using e2
    have E1:=qd e1;have E2:=qd e2;clear e1 e2;go_wp2;go_meet
    all_goals exact⟨by simp[E1.out,E2.out],rfl⟩
  ·have q1:(to_==xn)=false:=by simpa using e1
   go_wp2;go_meet
   all_goals exact⟨by simp[e1],rfl⟩
 case rest =>
  obtain⟨rfl,rfl⟩:=hcut;obtain⟨wb,hwb⟩:∃ wb:World,wb=wc:=⟨_,rfl⟩
  subst hwb;generalize hfar:(decide (to_=xn)&&decide (xn≠(frm:Int)+1))=far;have HFAR:=qd hfar;clear hfar;obtain⟨ka,rfl⟩:=Int.eq_ofNat_of_zero_le v3;have hka:ka<n:=oz
  have hka2:(ka:Int)<(n:Int):=oz
  obtain⟨r0,r1,r2,r3⟩:=hr0.cells hka;obtain⟨kb,rfl⟩:=Int.eq_ofNat_of_zero_le v5;obtain⟨c1,c2,c3⟩:=v10 rfl;obtain⟨kn,rfl⟩:=Int.eq_ofNat_of_zero_le c1;obtain⟨_,_,_,_,_,_,hv,-,hfs⟩:=HMo.out;cases hv;obtain⟨hfl1,hfl2,fb,fo,hfb,H,hH⟩:=hfs;have hkn:kn<fl:=oz
  have hkn2:(kn:Int)<(fl:Int):=oz
  obtain⟨rfl,hfbB⟩:=hfb oz;obtain⟨⟨-,i1,-,-,-⟩,-,⟨hpl,hpm,pb,po,hpb,hpc⟩,-,-,-⟩:=hH kn hkn;have hP:paramsAt m kn=(m.funcs.getD kn default).params:=by unfold paramsAt;rw[Int.toNat_natCast]
  have hP2:(fnAt m (kn:Int).toNat).params=(m.funcs.getD kn default).params:=by unfold fnAt;rw[Int.toNat_natCast]
  rw[hP2]at c3;have hres:=HRES.out;rw[hP,Int.toNat_natCast]at hres;have HR9:=qd hres;clear hP hres HRES hP2 hH hfb;generalize (m.funcs.getD kn default).params=ps at *;generalize H kn=hk at *;obtain⟨qa,ql,qc,_,_,_⟩:=hk;dsimp only at i1 hpl hpm hpb hpc;subst hpl;have j1:=(hb0.cell (p:=⟨fb,fo+kn*5+1,none⟩) (by show fb<_;omega)).trans i1;have m5:=own2 OM;have hpsl:kb+ps.length<=n:=oz
  have hpm':ps.length<=9223372036854775807:=hpm;have HPB:=qd hpb;have HPC:=qd hpc;have HOX:=qd OX;have HOR:=qd OR;have HR0:=qd hr0;have hne:b≠w.heap.size+1+1:=oz
  clear OX OR hr0 hr hmf hx hrg hwf v1 v2 v4 v6 v7 v8 v9 v10 hcm hcB hcbl hcb1 hcb2 hcb3 hn1 r0 r1 r2 r3 hpb hpc i1 c1 c2 c3 hpm;go_wp2;go_loopw [183] (fun i wx=>∃ (k:Nat) (q:List PSpan),k<=ps.length/\i=.int .i64 k/\meetsTo r kb ps k=some q/\Hid (SpRow wx b n c q)/\Hid (Own wx (w.heap.size+1+1) [.slice (some ⟨b,0,none⟩) n c])/\Hid (Own wx (w.heap.size+1+1+1) [.int .i64 19,.int .i64 ka,.int .i64 kb,.int .i64 xc,.int .i64 kn])/\Chg (· = b) wb wx) (fun i _=>ps.length-(intOf i).toNat)
  case atStart=>exact⟨0,r,Nat.zero_le _,rfl,rfl,HR0,HOR,HOX,Chg.refl _ _⟩
  case round =>
   clear HOX HOR x5 o1 m5 OM OF j1;obtain⟨k,q,hk,rfl,hmq,HR,HOR,HOX,hC⟩:=hrel;have hzr:=hC.size;have x5:=own5 HOX.out;have o1:=own1 HOR.out;obtain⟨r0,r1,r2,r3⟩:=HR.out.cells hka;by_cases hkt:k<ps.length
   ·have d3:(k:Int)<(ps.length:Int):=oz
    have hwk:IntKind.i64.wrap ((k:Int)+1)=(k:Int)+1:=IntWalk.i64_in _ oz;have hwb:IntKind.i64.wrap ((kb:Int)+(k:Int))=(kb:Int)+(k:Int):=IntWalk.i64_in _ oz;obtain⟨rfl,hpbB⟩:=HPB.out oz;obtain⟨p0,p1,-,-⟩:=HPC.out k hkt;have y0:=(hC.cellAt (po+k*2) (b:=pb) oz (by show ¬(_=b);omega)).trans ((hb0.cell (p:=⟨pb,po+k*2,none⟩) (by show pb<_;omega)).trans p0);have y1:=(hC.cellAt (po+k*2+1) (b:=pb) oz (by show ¬(_=b);omega)).trans ((hb0.cell (p:=⟨pb,po+k*2+1,none⟩) (by show pb<_;omega)).trans p1);have hms:=meetsTo_succ hmq;have HMe:=qd (fun w' h1 h2=>meets_any (kb+k) (ps.getD k default) (w.heap.size+1+1) b n c q w' h1 h2 oz hne hn);rw[show((kb+k:Nat):Int)=(kb:Int)+(k:Int) by omega]at HMe;clear p0 p1;generalize meetR q (kb+k) (ps.getD k default)=mq at *;obtain⟨mq,mok⟩:=mq;generalize ps.getD k default=pp at *;obtain⟨plo,phi⟩:=pp;unfold spanV at HMe;dsimp only at HMe y0 y1 hms;clear r0 r1 r2 r3;go_upto_region 38 with(fail)
    generalize hW3:World.alloc _ _=W3;have hb3:Below wr.heap.size wr W3:=by rw[<-hW3];exact bel
    have OS:Own W3 wr.heap.size [.int .i64 plo,.int .i64 phi]:=by rw[<-hW3];exact Own.new _ _ _
    have HM2:=qd (HMe.out W3 (HOR.out.below hb3) (HR.out.below hb3));have g3:=own2 OS;have x3:=own5 (HOX.out.below hb3);clear x5 o1 hW3;cases mok
    ·go_wp2_with (first|(go_at_call 83;refine HM2.out.mono ?_;rintro e w9 ⟨rfl,hr9,hc9⟩)|fail)
     try rw[Exit.noGoto_ret]
     go_ret;go_light;rw[HR9.out,meetsTo_none (k:=k+1) (by rw[hms];rfl) _ (by omega)];exact⟨rfl,((Chg.of hb0).trans (hC.trans (Chg.of hb3))).trans hc9,fun out ho=>by cases ho⟩
    ·go_wp2_with (first|(go_at_call 83;refine HM2.out.mono ?_;rintro e w9 ⟨rfl,hr9,hc9⟩;have hz9:=hc9.size)|fail)
     refine⟨⟨k+1,mq,oz,si,by rw[hms];rfl,qd hr9,qd (hc9.own (HOR.out.below hb3) (by show ¬(_=b);omega)),qd (hc9.own (HOX.out.below hb3) (by show ¬(_=b);omega)),(hC.trans (Chg.of hb3)).trans hc9⟩,?_⟩;go_light;exact ml
   ·have hkk:k=ps.length:=oz
    subst hkk;have d3:¬(ps.length:Int)<(ps.length:Int):=oz
    have HMQ:=qd hmq;have HAl:=qd sall_any;unfold spanV at HAl;have hbL:=HR.out.lt;go_upto_region 41 with(fail)
    refine wp_below_tail 4 kr kr (fun T F hF hall=>?_);simp only[TD];have hFc:=fun t=>(bcell (hF t)).1;have hFf:=fun t=>(bcell (hF t)).2;have hFs:=fun t=>(hF t).size;have hNE:Nonempty T:=(hall _ (Below.refl _ _)).elim fun t _=>⟨t⟩;repeat(refine WQ_step (fun K hK=>?_);go_simp;refine hK _ ?_;clear hK K)
    (refine WQ_step (fun K hK=>?_);go_simp;refine⟨_,fun t=>calls_family (hF t) hall (HAl.out (F t)),hK _ ?_⟩;clear hK K)
    repeat(refine WQ_step (fun K hK=>?_);go_simp;refine hK _ ?_;clear hK K)
    refine WQ_nil (fun t=>?_);have hft:=hF t;go_wp2
    try rw[Exit.noGoto_ret]
    go_ret;go_light;rw[HR9.out,HMQ.out];refine⟨rfl,((Chg.of hb0).trans (hC.trans (Chg.of hft))).trans (chg2 _ _ _ _ _ _),fun out ho=>?_⟩;cases ho;unfold spSet;rw[Int.toNat_natCast];exact(HR.out.below hft).set hka allP
theorem away_any (x:PIns) (B:Nat) (m:PMod) (hh:HF) (f:PFunc) (ta fa:Option Addr) (tl tc fl fc:Nat) (frm:Nat) (to_:Int) (b n c:Nat) (r:List PSpan) (w:World) (hB:B<=w.heap.size) (hf:FuncOk B w hh f) (hfl:frm<f.code.length) (hn1:f.code.length<=1024) (hx:f.code.getD frm default=x) (hi:InsFine m f x) (hr:SpRow w b n c r) (hrg:(n:Int)=f.regs) (hn:n<=64) (hrok:LOk n r) (hmo:ModAt B w (.agg #[.slice ta tl tc,.slice fa fl fc]) m) (hBb:B<=b) :
 Calls Tryz.prog 47 #[.agg #[.slice ta tl tc,.slice fa fl fc],FuncVal hh f,.int .i64 frm,.int .i64 to_,.slice (some ⟨b,0,none⟩) n c] w (AwayPost b n c w (wayP m f frm to_ r)):=by
 unfold wayP;rw[hx];have h0:=hi.op0;have h1:=hi.op1;obtain h|h|h|h|h|h|h|h|h|h|h|h|h|h|h|h|h|h|h|h:x.op=0\/x.op=1\/x.op=2\/x.op=3\/x.op=4\/x.op=5\/x.op=6\/x.op=7\/x.op=8\/x.op=9\/x.op=10\/x.op=11\/x.op=12\/x.op=13\/x.op=14\/x.op=15\/x.op=16\/x.op=17\/x.op=18\/x.op=19:=oz
 all_goals unfold insWay
 all_goals simp only[h,reduceIte,Int.reduceEq,Int.reduceLE,and_self,and_true,true_and,and_false,false_and,or_self,or_true,true_or,or_false,false_or]
 ·exact away_ret x B m hh f ta fa tl tc fl fc frm to_ b n c r w hB hf hfl hn1 hx hi hr hrg hn h
 ·exact away_set x B m hh f ta fa tl tc fl fc frm to_ b n c r w hB hf hfl hn1 hx hi hr hrg hn h
 ·exact away_move x B m hh f ta fa tl tc fl fc frm to_ b n c r w hB hf hfl hn1 hx hi hr hrg hn h
 ·exact away_add x B m hh f ta fa tl tc fl fc frm to_ b n c r w hB hf hfl hn1 hx hi hr hrg hn h hrok
 ·exact away_sub x B m hh f ta fa tl tc fl fc frm to_ b n c r w hB hf hfl hn1 hx hi hr hrg hn h hrok
 ·exact away_mul x B m hh f ta fa tl tc fl fc frm to_ b n c r w hB hf hfl hn1 hx hi hr hrg hn h hrok
 ·exact away_div x B m hh f ta fa tl tc fl fc frm to_ b n c r w hB hf hfl hn1 hx hi hr hrg hn h hrok
 ·exact away_rem x B m hh f ta fa tl tc fl fc frm to_ b n c r w hB hf hfl hn1 hx hi hr hrg hn h hrok
 ·exact away_less x B m hh f ta fa tl tc fl fc frm to_ b n c r w hB hf hfl hn1 hx hi hr hrg hn h hrok
 ·exact away_equal x B m hh f ta fa tl tc fl fc frm to_ b n c r w hB hf hfl hn1 hx hi hr hrg hn h hrok
 ·exact away_not x B m hh f ta fa tl tc fl fc frm to_ b n c r w hB hf hfl hn1 hx hi hr hrg hn h hrok
 ·exact away_load x B m hh f ta fa tl tc fl fc frm to_ b n c r w hB hf hfl hn1 hx hi hr hrg hn h
 ·exact away_store x B m hh f ta fa tl tc fl fc frm to_ b n c r w hB hf hfl hn1 hx hi hr hrg hn h
 ·exact away_check x B m hh f ta fa tl tc fl fc frm to_ b n c r w hB hf hfl hn1 hx hi hr hrg hn h
 ·exact away_jump x B m hh f ta fa tl tc fl fc frm to_ b n c r w hB hf hfl hn1 hx hi hr hrg hn h
 ·exact away_if x B m hh f ta fa tl tc fl fc frm to_ b n c r w hB hf hfl hn1 hx hi hr hrg hn h
 ·exact away_unless x B m hh f ta fa tl tc fl fc frm to_ b n c r w hB hf hfl hn1 hx hi hr hrg hn h
 ·exact away_count x B m hh f ta fa tl tc fl fc frm to_ b n c r w hB hf hfl hn1 hx hi hr hrg hn h hrok
 ·exact away_step x B m hh f ta fa tl tc fl fc frm to_ b n c r w hB hf hfl hn1 hx hi hr hrg hn h hrok
 ·exact away_call x B m hh f ta fa tl tc fl fc frm to_ b n c r w hB hf hfl hn1 hx hi hr hrg hn hmo hBb h
theorem spans_src {B:Nat}{w:World}{a:Option Addr}{n:Nat}{zs:List PSpan}(h:SpansAt B w a n zs) (h0:0<n):∃ b o,a=some ⟨b,o,none⟩/\b<B/\∀ j u,(spCells zs)[j]? = some u->w.cell? ⟨b,o+j,none⟩=some u:=by
 obtain⟨hl,_,b,o,hb,hc⟩:=h;obtain⟨rfl,hbB⟩:=hb h0;refine⟨b,o,rfl,hbB,fun j u hu=>?_⟩;have hj:j<(spCells zs).length:=(List.getElem?_eq_some_iff.1 hu).1;rw[spCells_len]at hj;have e:zs[j / 2]? = some (zs.getD (j / 2) default):=by rw[List.getD_eq_getElem?_getD,List.getElem?_eq_getElem (by omega)];rfl
 obtain⟨c0,c1,_⟩:=hc (j / 2) oz;have h2:j%2=0\/j%2=1:=oz
 rcases h2 with h2|h2
 ·have ej:j=j / 2*2+0:=oz
  rw[ej,spCells_at zs (j / 2) 0 (by omega),e]at hu;have hu':some (Value.int .i64 (zs.getD (j / 2) default).lo)=some u:=hu;rw[ej,<-hu'];exact c0
 ·have ej:j=j / 2*2+1:=oz
  rw[ej,spCells_at zs (j / 2) 1 (by omega),e]at hu;have hu':some (Value.int .i64 (zs.getD (j / 2) default).hi)=some u:=hu;rw[ej,<-hu'];exact c1
theorem SpRow.src {W:World}{b n c:Nat}{r:List PSpan}(h:SpRow W b n c r):∀ j u,(spCells r)[j]? = some u->W.cell? ⟨b,j,none⟩=some u:=fun j u hu=>by
 obtain⟨c',h⟩:=h;exact row_cell h hu
/-- Clone of spans: what it hands back, as a value of whatever form -/
def CloneR (n:Nat) (r:List PSpan) (w:World) (v:Value) (w':World):Prop:=∃ va vc,v=.slice va n vc/\n<=vc/\(vc:Int)<=9223372036854775807/\(va=none->n=0/\vc=0)/\((va=none/\n=0)\/∃ b,va=some ⟨b,0,none⟩/\w.heap.size<=b/\∀ c,SpRow w' b n c r)/\Below w.heap.size w w'
theorem clone_is (a:Option Addr) (n c:Nat) (r:List PSpan) (w:World) (hl:r.length=n) (hs:0<n->∃ b o,a=some ⟨b,o,none⟩/\b<w.heap.size/\∀ j u,(spCells r)[j]? = some u->w.cell? ⟨b,o+j,none⟩=some u) (hn:n<=64) :
 Calls Tryz.prog 21 #[.slice a n c] w fun e w'=>∃ v,e=.returned v/\CloneR n r w v w' :=
 (clone_any a n c r w hl hs hn).mono (by
  rintro e w' ⟨v,rfl,h1,h2,h3⟩;refine⟨v,rfl,?_⟩;rcases row_form h1 with⟨rfl,rfl,_⟩|⟨g,cap,rfl,h4,h5,_⟩
  ·exact⟨none,0,rfl,Nat.le_refl _,oz,fun _=>⟨rfl,rfl⟩,.inl ⟨rfl,rfl⟩,h2⟩
  ·exact⟨_,cap,rfl,h4,(by unfold maxLen at h5;omega),fun h=>(by cases h),.inr ⟨g,rfl,h3 g rfl,fun c=>⟨_,h1⟩⟩,h2⟩)
theorem clip_is (a:Option Addr) (n c:Nat) (w:World) (hnc:n<=c) (hc:(c:Int)<=9223372036854775807) (ha:a=none->n=0/\c=0):Calls Tryz.prog 20 #[.slice a n c] w fun e w'=>∃ v,e=.returned v/\v=.slice a n n/\w'=w :=
 (clip_any a n c w hnc hc ha).mono (by rintro e w' ⟨rfl,rfl⟩;exact⟨_,rfl,rfl,rfl⟩)
theorem append_zeros2 (w:World) (ty:TypeId) (a:Option Addr) (n k:Nat) (r:List PSpan) (hl:r.length=n) (hr:(a=none/\n=0)\/∃ b,a=some ⟨b,0,none⟩/\∀ c,SpRow w b n c r) (h0:0<n+k) (hn:n+k<=64) :
 ∃ g cap w',(Builtin.append_ #[39,3] ty #[.slice a n n,.int .i64 k]).run Tryz.prog w=.ok (.slice (some ⟨g,0,none⟩) (n+k) cap) w'/\SpRow w' g (n+k) cap (r++List.replicate k ⟨0,0⟩)/\Below w.heap.size w w'/\(g=w.heap.size\/a=some ⟨g,0,none⟩):=by
 by_cases hk:0<k
 ·obtain⟨cap,w',h1,h2,h3⟩:=append_zeros w ty a n k r hl (fun hn0=>by
   rcases hr with⟨_,h⟩|⟨b,h,h2⟩
   ·omega
   ·exact⟨b,h,(h2 0).src⟩) hk hn
  exact⟨_,cap,w',h1,h2,h3,.inl rfl⟩
 ·have hk0:k=0:=oz
  subst hk0;rcases hr with⟨_,h⟩|⟨b,rfl,h2⟩
  ·omega
  ·obtain⟨i0,hi,hz0,hz1,hz2⟩:=info_parts Tryz.infoSp;have htn:Tryz.prog.underlying 3=some (.int .i64):=kr
   refine⟨b,n,w,?_,by simpa using h2 n,Below.refl _ _,.inr rfl⟩;have hw0:IntKind.i64.wrap 0=0:=by rw[IntKind.wrap_i64];omega
   simp[hw0,storeCells,Builtin.append_,run_underlying Tryz.underlying39,run_underlying htn,sizeOf,typeInfo,zeroValue,hi,hz0,asInt,asIntOf]
theorem step_apprun {P:Program}{ops:Array Oper}{o:Oper}{a:Act}{w:World}{K:Act->World->Prop}{Q:Exit->Act->World->Prop}{E:Prop}(hg:o.guard=none) (s x:Operand) (t tn:TypeId)
 (ho:o.op=.call { callee:=.builtin .append,args:=#[s,x],argTypes:=#[t,tn] }) (vs vx:Value) (hs:a.eval s=vs) (hx:a.eval x=vx)
 (v':Value) (w':World) (hr:(Builtin.append_ #[t,tn] o.type #[vs,vx]).run P w=.ok v' w') (h:K (a.put o.dst v') w'):if Region.wanted o (yielded ops a.tmps)=true then o.wp P a w K Q else E:=by
 have hw:Region.wanted o (yielded ops a.tmps)=true:=by simp[Region.wanted,hg]
 rw[if_pos hw];exact Lib.wp_append_run w s x t tn ho vs vx hs hx v' w' hr h
theorem instruction_any (B:Nat) (v:Value) (m:PMod) (nm:ByteArray) (pa ca:Option Addr) (pl pc cl cc:Nat) (regs wd:Int) (x:PIns) (w:World) (hB:B<=w.heap.size) (hB0:0<B) (hm:ModAt B w v m) (hr:RowsAt w) (hx:InsOk x) (h1:1<=regs) (h64:regs<=64) (hcl:cl<=maxLen) (hp8:∀ i,i<m.funcs.length->(m.funcs.getD i default).params.length<=8) :
 Calls Tryz.prog 79 #[v,.agg #[.string nm,.slice pa pl pc,.int .i64 regs,.int .i64 wd,.slice ca cl cc],InsVal x] w fun e w'=>e=.returned (.int .i64 (instrP m regs cl x))/\Below w.heap.size w w':=by
 obtain⟨ta,tl,tc,fa,fl,fc,rfl,ht,hf⟩:=hm;obtain⟨hfl',hlen,fb,fo,hfa,H,hcs⟩:=hf;subst hfl';have Hcs:=qd hcs;clear hcs;have Hp8:=qd hp8;clear hp8;obtain⟨op,a,b,c,n⟩:=x;obtain⟨o1,o2,o3,o4,o5⟩:=hx;unfold In64 at o1 o2 o3 o4 o5;unfold maxLen at hlen hcl;dsimp only at *;unfold InsVal instrP;dsimp only;by_cases hk:knownB op=true
 ·rw[if_neg (by simp[hk])];have hk':=hk;unfold knownB at hk';obtain⟨k,rfl⟩:=Int.eq_ofNat_of_zero_le (show 0<=op by grind);have hlt:k<20:=by grind
  have h0s:=hr.1;obtain⟨q0,q1,q2,q3,q4,q5,q6⟩:=hr.2 k hlt;clear hk' hr;have hRn:=rowN k;rw[Int.toNat_natCast];generalize rowAt k=R at *;obtain⟨Rw,Rwt,Ra,Rb,Rc,Rn,Rwr⟩:=R;dsimp only at *;go_enter Tryz.func79,Tryz.ntmps79;go_wp2_with (go_at_call 82;refine(known_any _ _).mono ?_;rintro e w1 ⟨rfl,rfl⟩)
  generalize hW0:World.alloc _ _=W0;have hb0:Below w.heap.size w W0:=by rw[<-hW0];exact bel
  have z0:w.heap.size+1+1+1+1=W0.heap.size:=by rw[<-hW0];simp
  have c0:W0.cell? ⟨w.heap.size,1,none⟩=some (.slice fa m.funcs.length fc):=by rw[<-hW0];simp[go_sem]
  have c1:W0.cell? ⟨w.heap.size+1,2,none⟩=some (.int .i64 regs):=by rw[<-hW0];simp[go_sem]
  have c2:W0.cell? ⟨w.heap.size+1,4,none⟩=some (.slice ca cl cc):=by rw[<-hW0];simp[go_sem]
  have c3:W0.cell? ⟨w.heap.size+1+1,2,none⟩=some (.int .i64 b):=by rw[<-hW0];simp[go_sem]
  have c4:W0.cell? ⟨w.heap.size+1+1,4,none⟩=some (.int .i64 n):=by rw[<-hW0];simp[go_sem]
  have c5:W0.cell? ⟨w.heap.size+1+1+1,5,none⟩=some (.int .i64 Rn):=by rw[<-hW0];simp[go_sem]
  have z1:w.heap.size+1+1+1+1<=W0.heap.size:=oz
  clear hW0 z0;go_loopw [34] (fun i wr=>∃ j:Nat,j<=3/\i=.int .i64 j/\Below W0.heap.size W0 wr/\Hid (∀ i,i<j->fieldAt ⟨Rw,Rwt,Ra,Rb,Rc,Rn,Rwr⟩ ⟨k,a,b,c,n⟩ regs i=0)) (fun i _=>3-(intOf i).toNat)
  case atStart=>exact⟨0,Nat.zero_le _,rfl,Below.refl _ _,by intro j h;omega⟩
  case round =>
   obtain⟨j,hj,rfl,hbel,hn⟩:=hrel;have hd1:=(bcell hbel).1;have hz2:W0.heap.size<=wr.heap.size:=hbel.size;have e1:w.heap.size+1<W0.heap.size:=oz
   have e2:w.heap.size+1+1<W0.heap.size:=oz
   have e3:w.heap.size+1+1+1<W0.heap.size:=oz
   have e0:w.heap.size<W0.heap.size:=oz
   have e4:w.heap.size+1<wr.heap.size:=oz
   have i0:∀ (A:Bool) (w:World),(Instr.index 157 (.agg #[.bool A,.int .i64 a,.bool Rb,.int .i64 b,.bool Rc,.int .i64 c]) (.int .i64 0)).run Tryz.prog w=.ok (.agg #[.bool A,.int .i64 a]) w:=fun _ _=>by kernel_rfl
   have i1:∀ (A:Bool) (w:World),(Instr.index 157 (.agg #[.bool Ra,.int .i64 a,.bool A,.int .i64 b,.bool Rc,.int .i64 c]) (.int .i64 1)).run Tryz.prog w=.ok (.agg #[.bool A,.int .i64 b]) w:=fun _ _=>by kernel_rfl
   have i2:∀ (A:Bool) (w:World),(Instr.index 157 (.agg #[.bool Ra,.int .i64 a,.bool Rb,.int .i64 b,.bool A,.int .i64 c]) (.int .i64 2)).run Tryz.prog w=.ok (.agg #[.bool A,.int .i64 c]) w:=fun _ _=>by kernel_rfl
   by_cases hlt:j<3
   ·rcases(show j=0\/j=1\/j=2 by omega)with rfl|rfl|rfl
    ·cases Ra
     all_goals
      go_wp2
      all_goals first
       | (have HX:=rowP_field m regs cl _ _ 0 oz hn.out (by go_light;simp[fieldAt,fieldP]<;>grind)
          go_ret;go_light;exact⟨ret_int (by rw[HX];simp[fieldAt,fieldP]<;>grind),bel⟩)
       | (go_roundw
          case rel =>
           go_light;refine⟨0+1,oz,rfl,bel,?_⟩;intro i hi;by_cases e:i=0
           ·subst e;simp[fieldAt,fieldP]<;>grind
           ·exact hn.out i oz
          case measure=>simp[intOf])
    ·cases Rb
     all_goals
      go_wp2
      all_goals first
       | (have HX:=rowP_field m regs cl _ _ 1 oz hn.out (by go_light;simp[fieldAt,fieldP]<;>grind)
          go_ret;go_light;exact⟨ret_int (by rw[HX];simp[fieldAt,fieldP]<;>grind),bel⟩)
       | (go_roundw
          case rel =>
           go_light;refine⟨1+1,oz,rfl,bel,?_⟩;intro i hi;by_cases e:i=1
           ·subst e;simp[fieldAt,fieldP]<;>grind
           ·exact hn.out i oz
          case measure=>simp[intOf])
    ·cases Rc
     all_goals
      go_wp2
      all_goals first
       | (have HX:=rowP_field m regs cl _ _ 2 oz hn.out (by go_light;simp[fieldAt,fieldP]<;>grind)
          go_ret;go_light;exact⟨ret_int (by rw[HX];simp[fieldAt,fieldP]<;>grind),bel⟩)
       | (go_roundw
          case rel =>
           go_light;refine⟨2+1,oz,rfl,bel,?_⟩;intro i hi;by_cases e:i=2
           ·subst e;simp[fieldAt,fieldP]<;>grind
           ·exact hn.out i oz
          case measure=>simp[intOf])
   ·obtain rfl:j=3:=oz
    have HX:=rowP_kind m regs cl _ _ hn.out;have HY:=qd HX;clear HX;have hd0:=(bcell hb0).1;rcases(show Rn=0\/Rn=1\/Rn=2\/Rn=3\/Rn=4 by omega)with rfl|rfl|rfl|rfl|rfl
    ·go_wp2
     all_goals(go_ret;go_light;refine⟨ret_int ?_,bel⟩;rw[HY.out];simp[kindP]<;>grind)
    ·go_wp2
     all_goals(go_ret;go_light;refine⟨ret_int ?_,bel⟩;rw[HY.out];simp[kindP])
    ·go_wp2
     all_goals(go_ret;go_light;refine⟨ret_int ?_,bel⟩;rw[HY.out];simp[kindP]<;>grind)
    ·go_wp2
     all_goals(go_ret;go_light;refine⟨ret_int ?_,bel⟩;rw[HY.out];simp[kindP]<;>grind)
    ·by_cases hn0:n<0
     ·go_wp2
      go_quiet (fail)
      go_wp2
      all_goals(go_ret;go_light;refine⟨ret_int ?_,bel⟩;rw[HY.out];simp[kindP]<;>grind)
     ·obtain⟨N,rfl⟩:=Int.eq_ofNat_of_zero_le (show 0<=n by omega);by_cases hN:N<m.funcs.length
      ·obtain⟨rfl,hfb⟩:=hfa oz;obtain⟨⟨_,q,_⟩,_,⟨hpl,hpm,_⟩,_⟩:=Hcs.out N hN;generalize H N=hh at *;obtain⟨pa',pl',pc',_,_,_⟩:=hh;dsimp only at q hpl hpm;have hP:paramsOf m N=pl':=by unfold paramsOf;rw[Int.toNat_natCast,hpl]
       have h8:=Hp8.out N hN;rw[hpl]at h8;have hb9:0<=b/\b<=64:=by
        have:=hn.out 1 oz;simp[fieldAt,fieldP]at this;cases Rb<;>grind
       have HP:=qd hP;clear hP hpl;unfold maxLen at hpm;have hfb2:fb<w.heap.size/\fb<W0.heap.size:=oz
       have d1:decide ((N:Int)<0)=false:=by simp<;>omega
       have d2:decide ((m.funcs.length:Int)<=N)=false:=by simp<;>omega
       have hwr:IntKind.i64.wrap (b+(pl':Int))=b+(pl':Int):=IntWalk.i64_in _ oz;go_wp2
       go_quiet (fail)
       clear hwr;go_wp2
       all_goals(go_ret;go_light;refine⟨ret_int ?_,bel⟩;rw[HY.out,kindP_call _ _ _ _ _ _ (by omega) (by omega),HP.out];first|rw[if_pos (by omega)]|rw[if_neg (by omega)])
      ·have d1:decide ((N:Int)<0)=false:=by simp<;>omega
       have d2:decide ((m.funcs.length:Int)<=N)=true:=by simp<;>omega
       go_wp2
       go_quiet (fail)
       go_wp2
       all_goals(go_ret;go_light;refine⟨ret_int ?_,bel⟩;rw[HY.out];simp[kindP]<;>grind)
 ·have hk0:knownB op=false:=by simpa using hk
  clear hk;go_enter Tryz.func79,Tryz.ntmps79;go_wp2_with (go_at_call 82;refine(known_any _ _).mono ?_;rintro e w1 ⟨rfl,rfl⟩)
  go_ret;go_light;exact⟨ret_int (by simp[hk0]),bel⟩
theorem RowsAt.below {w w':World}(h:RowsAt w) (hb:Below w.heap.size w w'):RowsAt w':=h.same (Same.of hb lr) h.1 hb.size
theorem may_any (B:Nat) (v:Value) (m:PMod) (w:World) (hB:B<=w.heap.size) (hB0:0<B) (hm:ModAt B w v m) (hr:RowsAt w) :
 Calls Tryz.prog 44 #[v] w fun e w'=>e=.returned (.agg #[.int .i64 (mayP m).e,.int .i64 (mayP m).f,.int .i64 (mayP m).at_])/\Below w.heap.size w w':=by
 have hm0:=hm;obtain⟨ta,tl,tc,fa,fl,fc,rfl,⟨htl,htm,tb,tO,hta,hts⟩,hf⟩:=hm;have hf0:=hf;obtain⟨hfl',hlen,fb,fo,hfa,H,hcs⟩:=hf;subst hfl' htl;have Hcs:=qd hcs;clear hcs;have Hts:=qd hts;clear hts;unfold maxLen at hlen htm;by_cases h16:16<m.thr.length
 ·have HX:mayP m=⟨3,0,16⟩:=by simp[mayP,h16]
  have HY:=qd HX;clear HX;go_enter Tryz.func44,Tryz.ntmps44;go_wp2;refine bodyPost_ret (v:=.agg #[.int .i64 3,.int .i64 0,.int .i64 16]) (by simp[results,Tryz.results44,go_sem]) rfl ⟨?_,?_⟩
  ·rw[HY.out]
  ·exact bel
 ·have d16:decide ((16:Int)<(m.thr.length:Int))=false:=by simp<;>omega
  go_enter Tryz.func44,Tryz.ntmps44;go_wp2;generalize hW0:World.alloc _ _=W0;have hb0:Below w.heap.size w W0:=by rw[<-hW0];exact bel
  have om:Own W0 w.heap.size [.slice ta m.thr.length tc,.slice fa m.funcs.length fc]:=by rw[<-hW0];exact(Own.new _ _ _).alloc _
  have ore:Own W0 (w.heap.size+1) [.int .i64 0,.int .i64 0,.int .i64 0]:=by rw[<-hW0];exact Own.new' _ _ _ _ si
  clear hW0;go_loopw [3] (fun i wr=>∃ p:Nat,i=.int .i64 ((p:Int)+1)/\(p+1<=m.thr.length\/p=0)/\Below W0.heap.size W0 wr/\Hid (∀ i,i<p+1->thrBad m.thr i=false)) (fun i _=>m.thr.length-(intOf i).toNat)
  case atStart =>
   refine⟨0,rfl,.inr rfl,Below.refl _ _,?_⟩;intro i h;obtain rfl:i=0:=oz
   simp[thrBad]
  case round =>
   obtain⟨p,rfl,hp,hbel,hn⟩:=hrel;have om1:=own2 (om.below hbel);have or1:=own3 (ore.below hbel);have ht16:m.thr.length<=16:=oz
   have hz0:W0.heap.size<=wr.heap.size:=hbel.size;have hzw:w.heap.size<=W0.heap.size:=hb0.size;by_cases hlt:p+1<m.thr.length
   ·obtain⟨rfl,htb⟩:=hta oz;have sm:Same B w wr:=(Same.of hb0 hB).trans (Same.of hbel oz);have t0:=(sm tb (tO+p) htb).trans (Hts.out p oz).1;have t1:=(sm tb (tO+(p+1)) htb).trans (Hts.out (p+1) hlt).1;have hwr:IntKind.i64.wrap ((p:Int)+1-1)=(p:Int):=by rw[IntWalk.i64_in _ (by omega)];omega
    have hi1:0<=(p:Int)+1:=oz
    have hi2:((p:Int)+1).toNat=p+1:=oz
    have hi3:(p:Int)+1<(m.thr.length:Int):=oz
    have hi4:(p:Int)<(m.thr.length:Int):=oz
    go_wp2
    go_quiet (fail)
    go_wp2
    ·have HX:mayP m=⟨66,0,(p:Int)+1⟩:=by
      have HT:=firstI_some m.thr.length (thrBad m.thr) (p+1) hlt (by go_light;simp only[thrBad];grind) hn.out;unfold mayP;rw[if_neg (by omega),HT];rfl
     have HY:=qd HX;clear HX;refine bodyPost_ret (v:=.agg #[.int .i64 66,.int .i64 0,.int .i64 ((p:Int)+1)]) ?_ rfl ⟨?_,?_⟩
     ·have r:=set3 ((ore.below hbel).drewN nq) (.int .i64 66) (.int .i64 0) (.int .i64 ((p:Int)+1));simp[results,Tryz.results44,go_sem,r]
     ·rw[HY.out]
     ·exact bel
    ·go_roundw
     case rel =>
      go_light;refine⟨p+1,by go_num,oz,bel,?_⟩;intro i hi;by_cases e:i=p+1
      ·subst e;simp only[thrBad];grind
      ·exact hn.out i oz
     case measure=>go_light;simp[intOf];omega
   ·have HT:=firstI_none m.thr.length (thrBad m.thr) (fun i hi=>hn.out i oz);by_cases h32:32<m.funcs.length
    ·have HX:mayP m=⟨3,32,0⟩:=by unfold mayP;rw[if_neg (by omega),HT,if_pos h32]
     have HY:=qd HX;clear HX HT;go_wp2;refine bodyPost_ret (v:=.agg #[.int .i64 3,.int .i64 32,.int .i64 0]) ?_ rfl ⟨?_,?_⟩
     ·have r:=set3 (ore.below hbel) (.int .i64 3) (.int .i64 32) (.int .i64 0);simp[results,Tryz.results44,go_sem,r]
     ·rw[HY.out]
     ·exact bel
    ·have HX:mayP m=mayWholes m:=by unfold mayP;rw[if_neg (by omega),HT];simp only[];rw[if_neg h32]
     have HY:=qd HX;clear HX HT;have d32:decide ((32:Int)<(m.funcs.length:Int))=false:=by simp<;>omega
     go_wp2;obtain⟨wA,rfl⟩:∃ wo:World,wo=wr:=⟨_,rfl⟩
     go_loopw [47] (fun i wx=>∃ f:Nat,i=.int .i64 (f:Int)/\f<=m.funcs.length/\Below wA.heap.size wA wx/\Hid (∀ i,i<f->decide ((wholeP m i).1≠0)=false)) (fun i _=>m.funcs.length-(intOf i).toNat)
     case atStart=>exact⟨0,rfl,Nat.zero_le _,Below.refl _ _,by intro i h;omega⟩
     case round =>
      obtain⟨f,rfl,hf1,hbel2,hn2⟩:=hrel;have om2:=own2 ((om.below hbel).below hbel2);have or2:=own3 ((ore.below hbel).below hbel2);have hz2:wA.heap.size<=wr.heap.size:=hbel2.size;have sm:Same B w wr:=((Same.of hb0 hB).trans (Same.of hbel oz)).trans (Same.of hbel2 oz);clear om1 or1;by_cases hlt:f<m.funcs.length
      ·go_wp2_with (go_at_call 78;refine(whole_any B _ m f _ ?_ (hm0.same sm) hlt).mono ?_)
       ·exact(by first|omega|(simp<;>omega)|(simp at * <;> omega))
       rintro e w1 ⟨rfl,hb1⟩;have om3:=own2 (((om.below hbel).below hbel2).below hb1);have or3:=own3 (((ore.below hbel).below hbel2).below hb1);clear om2 or2;go_wp2
       ·have HX:mayWholes m=⟨(wholeP m f).1,f,(wholeP m f).2⟩:=by
         have HT:=firstI_some m.funcs.length (fun f=>decide ((wholeP m f).1≠0)) f hlt (by go_light;grind) hn2.out;unfold mayWholes;rw[HT]
        have HZ:=qd HX;clear HX;refine bodyPost_ret (v:=.agg #[.int .i64 (wholeP m f).1,.int .i64 f,.int .i64 (wholeP m f).2]) ?_ rfl ⟨?_,?_⟩
        ·have r:=set3 (((ore.below hbel).below hbel2).below hb1) (.int .i64 (wholeP m f).1) (.int .i64 f) (.int .i64 (wholeP m f).2);simp[results,Tryz.results44,go_sem,r]
        ·rw[HY.out,HZ.out]
        ·exact bel
       ·go_roundw
        case rel =>
         go_light;refine⟨f+1,by go_num,oz,bel,?_⟩;intro i hi;by_cases e:i=f
         ·subst e;grind
         ·exact hn2.out i oz
        case measure=>go_light;simp[intOf];omega
      ·have HT:=firstI_none m.funcs.length (fun f=>decide ((wholeP m f).1≠0)) (fun i hi=>hn2.out i oz);have HX:mayWholes m=mayFuncs m:=by unfold mayWholes;rw[HT]
       have HZ:=qd HX;clear HX HT;have hok:Hid (∀ i,i<m.funcs.length->(wholeP m i).1=0):=by intro i hi;have:=hn2.out i oz;simpa using this
       go_wp2;obtain⟨wB,rfl⟩:∃ wo:World,wo=wr:=⟨_,rfl⟩
       go_loopw [66] (fun i wx=>∃ f:Nat,i=.int .i64 (f:Int)/\f<=m.funcs.length/\Below wB.heap.size wB wx/\Hid (∀ i,i<f->decide ((bodyP m (m.funcs.getD i default)).1≠0)=false)) (fun i _=>m.funcs.length-(intOf i).toNat)
       case atStart=>exact⟨0,rfl,Nat.zero_le _,Below.refl _ _,by intro i h;omega⟩
       case round =>
        obtain⟨f,rfl,hf1,hbel3,hn3⟩:=hrel;have om3:=own2 (((om.below hbel).below hbel2).below hbel3);have or3:=own3 (((ore.below hbel).below hbel2).below hbel3);have hz3:wB.heap.size<=wr.heap.size:=hbel3.size;have sm3:Same B w wr:=sm.trans (Same.of hbel3 oz);clear om2 or2;by_cases hlt2:f<m.funcs.length
        ·obtain⟨rfl,hfb⟩:=hfa oz;obtain⟨hfcells,hfok⟩:=Hcs.out f hlt2;obtain⟨q0,q1,q2,q3,q4⟩:=hfcells.same sm3 hfb;have hwok:=wholeP_ok (hok.out f hlt2);obtain⟨_,_,_,hr1,hr2,_,_,_,hc1,hc2,_⟩:=hwok;generalize hxf:m.funcs.getD f default=x at *;have Hxf:=qd hxf;clear hxf;generalize H f=hh at *;obtain⟨pa,pl,pc,ca,cl,cc⟩:=hh;obtain⟨_,_,⟨hcl,hcm,cb,co,hca,hins⟩,_,_⟩:=hfok;dsimp only at *;subst hcl;obtain⟨rfl,hcb⟩:=hca oz;have Hins:=qd hins;clear hins;unfold maxLen at hcm;go_wp2;generalize hW3:World.alloc wr _=W3;have hb3:Below wr.heap.size wr W3:=by rw[<-hW3];exact bel
         have oF:Own W3 wr.heap.size [.string x.name,.slice pa pl pc,.int .i64 x.regs,.int .i64 x.words,.slice (some ⟨cb,co,none⟩) x.code.length cc]:=by rw[<-hW3];exact Own.new _ _ _
         clear hW3;obtain⟨wC,rfl⟩:∃ wo:World,wo=wr:=⟨_,rfl⟩
         have omC:=((om.below hbel).below hbel2).below hbel3 |>.below hb3;have orC:=((ore.below hbel).below hbel2).below hbel3 |>.below hb3;have hzC:wC.heap.size<=W3.heap.size:=hb3.size;have smC:Same B w W3:=sm3.trans (Same.of hb3 oz);clear om3 or3;go_loopw [74] (fun i wx=>∃ j:Nat,i=.int .i64 (j:Int)/\j<=x.code.length/\Below W3.heap.size W3 wx/\Hid (∀ i,i<j->decide (bodyI m x i≠0)=false)) (fun i _=>x.code.length-(intOf i).toNat)
         case atStart=>exact⟨0,rfl,Nat.zero_le _,Below.refl _ _,by intro i h;omega⟩
         case round =>
          obtain⟨j,rfl,hj1,hbel4,hn4⟩:=hrel;have om4:=own2 (omC.below hbel4);have or4:=own3 (orC.below hbel4);have oF4:=own5 (oF.below hbel4);have hz4:W3.heap.size<=wr.heap.size:=hbel4.size;have sm4:Same B w wr:=smC.trans (Same.of hbel4 oz);by_cases hlt3:j<x.code.length
          ·obtain⟨hi0,hiok⟩:=Hins.out j hlt3;obtain⟨i0,i1,i2,i3,i4⟩:=hi0.same sm4 hcb;generalize hyj:x.code.getD j default=y at *;have Hyj:=qd hyj;clear hyj;go_wp2_with (go_at_call 79;refine(instruction_any B _ m _ _ _ _ _ _ _ _ _ y _ ?_ hB0 (hm0.same (sm4.trans ?_)) (hr.same (sm4.trans ?_) hB0 ?_) hiok hr1 hr2 ?_ ?_).mono ?_)
           ·exact(by first|omega|(simp<;>omega)|(simp at * <;> omega))
           ·exact(Same.refl _ _).alloc (by first|omega|(simp<;>omega)|(simp at * <;> omega)) _
           ·exact(Same.refl _ _).alloc (by first|omega|(simp<;>omega)|(simp at * <;> omega)) _
           ·exact(by first|omega|(simp<;>omega)|(simp at * <;> omega))
           ·unfold maxLen;omega
           ·intro i hi;exact(wholeP_ok (hok.out i hi)).2.2.1
           rintro e w2 ⟨rfl,hb2⟩;have e0:Below wr.heap.size wr (wr.alloc (.cells #[.int .i64 y.op,.int .i64 y.a,.int .i64 y.b,.int .i64 y.c,.int .i64 y.n] 55)):=bel;have om5:=own2 (((omC.below hbel4).below e0).below hb2);have or5:=own3 (((orC.below hbel4).below e0).below hb2);have hB2:=hb2.size;simp only[World.size_alloc]at hB2;clear om4 or4;have hI:instrP m x.regs x.code.length y=bodyI m x j:=by unfold bodyI;rw[Hyj.out]
           rw[hI];have HI:=qd hI;clear hI;go_wp2
           ·have HX:bodyP m x=(bodyI m x j,(j:Int)):=by
             have HT:=firstI_some x.code.length (fun i=>decide (bodyI m x i≠0)) j hlt3 (by go_light;grind) hn4.out;unfold bodyP;rw[HT]
            have HX2:mayFuncs m=⟨bodyI m x j,f,j⟩:=by
             have HT:=firstI_some m.funcs.length (fun f=>decide ((bodyP m (m.funcs.getD f default)).1≠0)) f hlt2 (by go_light;simp only[Hxf.out,HX];grind) hn3.out;unfold mayFuncs;rw[HT];simp only[Hxf.out,HX]
            have HZ2:=qd HX2;clear HX HX2;refine bodyPost_ret (v:=.agg #[.int .i64 (bodyI m x j),.int .i64 f,.int .i64 j]) ?_ rfl ⟨?_,?_⟩
            ·have r:=set3 (((orC.below hbel4).below e0).below hb2) (.int .i64 (bodyI m x j)) (.int .i64 f) (.int .i64 j);simp[results,Tryz.results44,go_sem,r]
            ·rw[HY.out,HZ.out,HZ2.out]
            ·exact bel
           ·go_roundw
            case rel =>
             go_light;refine⟨j+1,by go_num,oz,bel,?_⟩;intro i hi;by_cases e:i=j
             ·subst e;grind
             ·exact hn4.out i oz
            case measure=>go_light;simp[intOf];omega
          ·have HT:=firstI_none x.code.length (fun i=>decide (bodyI m x i≠0)) (fun i hi=>hn4.out i oz);have HX:bodyP m x=if lastOp x=0\/lastOp x=14\/lastOp x=18 then(0,0)else(64,(x.code.length:Int)-1):=by unfold bodyP;rw[HT]
           have HB:=qd HX;clear HX HT;have hl1:x.code.length-1<x.code.length:=oz
           obtain⟨hi0,hiok⟩:=Hins.out (x.code.length-1) hl1;obtain⟨i0,_,_,_,_⟩:=hi0.same sm4 hcb;have hlo:(x.code.getD (x.code.length-1) default).op=lastOp x:=rfl;rw[hlo]at i0;go_wp2
           all_goals first
            | (go_roundw
               case rel =>
                go_light;refine⟨f+1,by go_num,oz,bel,?_⟩;intro i hi;by_cases e:i=f
                ·subst e;simp only[Hxf.out,HB.out];rw[if_pos (by grind)];decide
                ·exact hn3.out i oz
               case measure=>go_light;simp[intOf];omega)
            | (have HX:bodyP m x=(64,(x.code.length:Int)-1):=by rw[HB.out,if_neg (by go_light;grind)]
               have HX2:mayFuncs m=⟨64,f,(x.code.length:Int)-1⟩:=by
                have HT:=firstI_some m.funcs.length (fun f=>decide ((bodyP m (m.funcs.getD f default)).1≠0)) f hlt2 (by simp only[Hxf.out,HX];decide) hn3.out;unfold mayFuncs;rw[HT];simp only[Hxf.out,HX]
               have HZ2:=qd HX2;clear HX HX2;refine bodyPost_ret (v:=.agg #[.int .i64 64,.int .i64 f,.int .i64 ((x.code.length:Int)-1)]) ?_ rfl ⟨?_,?_⟩
               ·have r:=set3 (orC.below hbel4) (.int .i64 64) (.int .i64 f) (.int .i64 ((x.code.length:Int)-1));simp[results,Tryz.results44,go_sem,r]
               ·rw[HY.out,HZ.out,HZ2.out]
               ·exact bel)
        ·have HT:=firstI_none m.funcs.length (fun f=>decide ((bodyP m (m.funcs.getD f default)).1≠0)) (fun i hi=>hn3.out i oz);have HX:mayFuncs m=⟨0,0,0⟩:=by unfold mayFuncs;rw[HT]
         have HZ2:=qd HX;clear HX HT;go_wp2;refine bodyPost_ret (v:=.agg #[.int .i64 0,.int .i64 0,.int .i64 0]) ?_ rfl ⟨?_,?_⟩
         ·have r:=set3 (((ore.below hbel).below hbel2).below hbel3) (.int .i64 0) (.int .i64 0) (.int .i64 0);simp[results,Tryz.results44,go_sem,r]
         ·rw[HY.out,HZ.out,HZ2.out]
         ·exact bel
end Go.Proofs.YteebpnbdihcfmaaGreatDoor
