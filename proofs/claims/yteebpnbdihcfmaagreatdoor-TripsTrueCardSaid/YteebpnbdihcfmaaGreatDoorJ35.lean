/- R16 -/
import Derived.Test.YteebpnbdihcfmaaGreatDoorJ34
import Derived.Test.YteebpnbdihcfmaaGreatDoorJ05
import Derived.Test.YteebpnbdihcfmaaGreatDoorJ08
import Derived.Test.YteebpnbdihcfmaaGreatDoorJ30
import Derived.Test.YteebpnbdihcfmaaGreatDoorJ01
set_option linter.unusedVariables false
set_option linter.unusedSimpArgs false
set_option maxRecDepth 100000
set_option maxHeartbeats 20000000
namespace Go.Proofs.YteebpnbdihcfmaaGreatDoor
open Go.RowKit
section
def StepPost (w:World) (r:Option (Int×List Int)) (e:Ending) (w':World):Prop:=Below w.heap.size w w'/\match r with
 | none=>e=.returned (.tuple #[.int .i64 0,.slice none 0 0,.bool false])
 | some (nx,v)=>∃ ob oc,e=.returned (.tuple #[.int .i64 nx,.slice (some ⟨ob,0,none⟩) v.length oc,.bool true])/\w.heap.size<=ob/\w'.ownsRow 0 2 1 (.slice (some ⟨ob,0,none⟩) v.length oc) v.length (Nums v)
section
variable {w w1 w2 : World} {ob oc : Nat} {v : List Int} {nx : Int}
theorem step_fin (hb:Below w.heap.size w w1) (h2:Below w1.heap.size w1 w2) (hob:w.heap.size<=ob) (hr:w1.ownsRow 0 2 1 (.slice (some ⟨ob,0,none⟩) v.length oc) v.length (Nums v)) (k:Nat) (n:Int) :
 StepPost w (some (nx,v.set k n)) (.returned (.tuple #[.int .i64 nx,.slice (some ⟨ob,0,none⟩) v.length oc,.bool true])) (w2.setCell ⟨ob,k,none⟩ (.int .i64 n)):=by
 have hr2:=row_set (row_below h2 hr) k (.int .i64 n);rw[Nums_set]at hr2;have hst:Chg (fun q=>q=ob) w2 (w2.setCell ⟨ob,k,none⟩ (.int .i64 n)):=Chg.setCell (S:=fun q=>q=ob) (Chg.refl _ _) (p:=⟨ob,k,none⟩) (.inl rfl) _;have hbw:=hb.trans (h2.mono hb.size);refine⟨hbw.trans (hst.below _ hbw.size (fun q hq e=>by omega)),ob,oc,by rw[List.length_set],hob,by rw[List.length_set];exact hr2⟩
theorem step_fin0 (hb:Below w.heap.size w w1) (h2:Below w1.heap.size w1 w2) (hob:w.heap.size<=ob) (hr:w1.ownsRow 0 2 1 (.slice (some ⟨ob,0,none⟩) v.length oc) v.length (Nums v)) :
 StepPost w (some (nx,v)) (.returned (.tuple #[.int .i64 nx,.slice (some ⟨ob,0,none⟩) v.length oc,.bool true])) w2:=⟨hb.trans (h2.mono hb.size),ob,oc,rfl,hob,row_below h2 hr⟩
theorem step_not (hb:Below w.heap.size w w1) (h2:Below w1.heap.size w1 w2):StepPost w none (.returned (.tuple #[.int .i64 0,.slice none 0 0,.bool false])) w2:=⟨hb.trans (h2.mono hb.size),rfl⟩
end
theorem rg_nat (v:List Int) (k:Nat):rgAt v (k:Int)=v.getD k 0:=by unfold rgAt;rw[Int.toNat_natCast]
theorem rstep_any (B:Nat) (m:PMod) (hh:HF) (f:PFunc) (at_:Nat) (v:List Int) (g cap:Nat) (ans:Int) (ta fa:Option Addr) (tl tc fl fc:Nat) (w:World) (hB:B<=w.heap.size) (hmo:ModAt B w (.agg #[.slice ta tl tc,.slice fa fl fc]) m) (hf:FuncOk B w hh f) (hat:at_<f.code.length) (hn:f.code.length<=1024)
 (hx:InsFine m f (f.code.getD at_ default)) (hvl:v.length=f.regs.toNat) (hvm:v.length<=64) (hv:∀ i,i<v.length->In64 (v.getD i 0)) (hw1:f.words<=4096) (hrow:w.ownsRow 0 2 1 (.slice (some ⟨g,0,none⟩) v.length cap) v.length (Nums v)) :
 Calls Tryz.prog 13 #[.agg #[.slice ta tl tc,.slice fa fl fc],FuncVal hh f,.int .i64 at_,.slice (some ⟨g,0,none⟩) v.length cap,.int .i64 ans] w (StepPost w (insR m f.words (f.code.getD at_ default) ((at_:Int)+1) v ans)):=by
 have HMO:=qd hmo;have HRW:=qd hrow;clear hmo;obtain⟨pa,pl,pc,ca,cl,cc⟩:=hh;obtain⟨h1,h2,⟨hcl,hcm,cb,co,hcb,hcells⟩,h4,h5⟩:=hf;dsimp only at *;subst hcl;obtain⟨rfl,hcB⟩:=hcb oz;obtain⟨⟨x0,x1,x2,x3,x4⟩,⟨i0,i1,i2,i3,i4⟩⟩:=hcells at_ hat;clear h1 h2 h4 h5 hcells hcb hcm;obtain⟨R,hR⟩:∃ R,insR m f.words (f.code.getD at_ default) ((at_:Int)+1) v ans=R:=⟨_,rfl⟩
 rw[hR];generalize f.code.getD at_ default=x at *;obtain⟨op,a,b,c,n⟩:=x;obtain⟨o0,o1,a0,a1,b0,b1,c0,c1,htg,hcall⟩:=hx;dsimp only at *;obtain⟨ra,rfl⟩:∃ k:Nat,a=k:=⟨a.toNat,oz⟩
 obtain⟨rb,rfl⟩:∃ k:Nat,b=k:=⟨b.toNat,oz⟩
 obtain⟨rc,rfl⟩:∃ k:Nat,c=k:=⟨c.toNat,oz⟩
 have ha:ra<v.length:=oz
 have hb:rb<v.length:=oz
 have hc:rc<v.length:=oz
 have HRE:=qd hR;have HCA:=qd hcall;have HVL:=qd hvl;have HV:=qd hv;clear hR htg hcall a0 a1 b0 b1 c0 c1 hvl i0 i1 i2 i3 hv;unfold FuncVal;dsimp only;have hgl:=row_ltB hrow;have d1:(at_:Int)<(f.code.length:Int):=oz
 have hwat:IntKind.i64.wrap ((at_:Int)+1)=(at_:Int)+1:=IntWalk.i64_in _ oz;have hcbl:cb<w.heap.size:=oz
 clear hrow;go_enter Tryz.func13,Tryz.ntmps13;go_upto_region 2 with(fail)
 generalize hW0:World.alloc _ _=W0;have hb0:Below w.heap.size w W0:=by rw[<-hW0];exact bel
 have hz0:w.heap.size+3<=W0.heap.size:=by rw[<-hW0];simp
 have OM0:Own W0 w.heap.size [.slice ta tl tc,.slice fa fl fc]:=by rw[<-hW0];exact((Own.new _ _ _).alloc _).alloc _
 have OF0:Own W0 (w.heap.size+1) [.string f.name,.slice pa pl pc,.int .i64 f.regs,.int .i64 f.words,.slice (some ⟨cb,co,none⟩) f.code.length cc]:=by rw[<-hW0];exact(Own.new' _ _ _ _ si).alloc _
 have OX0:Own W0 (w.heap.size+1+1) [.int .i64 op,.int .i64 ra,.int .i64 rb,.int .i64 rc,.int .i64 n]:=by rw[<-hW0];exact Own.new' _ _ _ _ si
 clear hW0;have T0:(W0.alloc (.cells #[] 2)).ownsRow 0 2 1 (.slice (some ⟨W0.heap.size,0,none⟩) 0 0) 0 []:=row_none W0 _ 1 rfl;have hbA:Below W0.heap.size W0 (W0.alloc (.cells #[] 2)):=bal;have HR0:=qd (row_below hb0 HRW.out);go_upto_region 3 with(first|(at_builtin;refine wpList_appS rfl (.tmp 26) (.tmp 27) 22 2 1 8 (.int .i64 0) rfl Tryz.underlying22 Tryz.info64 rfl dc (.slice (some ⟨W0.heap.size,0,none⟩) 0 0) 0 [] rfl T0 (.slice (some ⟨g,0,none⟩) v.length cap) v.length (Nums v) rfl (row_below hbA HR0.out) (fun h=>absurd h oz) (Nums_one _) (by unfold maxLen;omega) oz ?_;intro vo w1 hr1 hc9 hg1)|fail)
 rw[Nat.zero_add,List.nil_append]at hr1;have hcT:Chg (fun k=>k=W0.heap.size) W0 w1:=(Chg.of hbA).trans (hc9.mono fun k _ hk=>by have e:W0.heap.size=k:=ob1 hk;exact e.symm);have hb1:Below w.heap.size w w1:=hb0.trans (hcT.below _ hb0.size (fun k _ e=>by omega));have OM1:=qd (hcT.own OM0 oz);have OF1:=qd (hcT.own OF0 oz);have OX1:=qd (hcT.own OX0 oz);have HR1:=qd (row_below hb1 HRW.out);have hov:∀ j,vo.ownBlock=some j->w.heap.size+2<j:=fun j hj=>by
  rcases hg1 j hj with e|e
  ·have e2:W0.heap.size=j:=ob1 e
   omega
  ·have:=hbA.size;omega
 obtain⟨ob,oc,rfl,hoc1,hoc2,hol⟩:=row_pos hr1 oz;have hob:w.heap.size+2<ob:=hov ob rfl;have hob':w.heap.size<=ob:=oz
 have HO1:=qd hr1;have x5:=own5 OX1.out;have ga:v[ra]? = some (v.getD ra 0):=by rw[List.getD_eq_getElem?_getD,List.getElem?_eq_getElem ha];rfl
 have gb:v[rb]? = some (v.getD rb 0):=by rw[List.getD_eq_getElem?_getD,List.getElem?_eq_getElem hb];rfl
 have gc:v[rc]? = some (v.getD rc 0):=by rw[List.getD_eq_getElem?_getD,List.getElem?_eq_getElem hc];rfl
 have q0:=row_cell HO1.out (Nums_some ga);have r0:=row_cell HR1.out (Nums_some ga);have r1:=row_cell HR1.out (Nums_some gb);have r2:=row_cell HR1.out (Nums_some gc);have va:=HV.out ra ha;have vb:=HV.out rb hb;have vc:=HV.out rc hc;have ea:=rg_nat v ra;have eb:=rg_nat v rb;have ec:=rg_nat v rc;generalize v.getD ra 0=ya at *;generalize v.getD rb 0=yb at *;generalize v.getD rc 0=yc at *;have za:=hr1.frozenAt ra;have ia:(ra:Int)<(v.length:Int):=oz
 have ib:(rb:Int)<(v.length:Int):=oz
 have ic:(rc:Int)<(v.length:Int):=oz
 have hgw:g<w1.heap.size:=by have:=hb1.size;omega
 clear hc9 hg1 hcT T0 hbA hb0 HR0 hov OM0 OF0 OX0 hr1 ga gb gc hz0 x0 x1 x2 x3 x4;go_upto_region 5 with(fail)
 rcases(show op=0\/op=1\/op=2\/(3<=op/\op<=10)\/op=11\/op=12\/op=13\/op=14\/op=15\/op=16\/op=17\/op=18\/op=19 by omega)with rfl|rfl|rfl|hop|rfl|rfl|rfl|rfl|rfl|rfl|rfl|rfl|rfl
 ·-- ret
  obtain rfl:none=R:=by rw[<-HRE.out];rfl
  go_wp2
  try rw[Exit.noGoto_ret]
  refine bodyPost_ret (v:=.tuple #[.int .i64 0,.slice none 0 0,.bool false]) (by simp[results,Tryz.results13,go_sem]) rfl ?_;exact step_not hb1 (Below.refl _ _)
 ·-- set
  obtain rfl:some ((at_:Int)+1,v.set ra n)=R:=by rw[<-HRE.out];simp[insR]
  go_wp2;refine bodyPost_ret (v:=.tuple #[.int .i64 ((at_:Int)+1),.slice (some ⟨ob,0,none⟩) v.length oc,.bool true]) (by simp[results,Tryz.results13,go_sem]) rfl ?_;exact step_fin hb1 (Below.refl _ _) hob' HO1.out ra n
 ·-- move
  obtain rfl:some ((at_:Int)+1,v.set ra yb)=R:=by rw[<-HRE.out];simp[insR,eb]
  go_upto_region 10 with(fail)
  refine wp_still 9 kr kr ?_;simp only[TD];repeat(refine WS_step (fun K hK=>?_);go_simp;refine hK _ ?_;clear hK K)
  refine WS_nil ?_;go_wp2;refine bodyPost_ret (v:=.tuple #[.int .i64 ((at_:Int)+1),.slice (some ⟨ob,0,none⟩) v.length oc,.bool true]) (by simp[results,Tryz.results13,go_sem]) rfl ?_;exact step_fin hb1 (Below.refl _ _).drew hob' HO1.out ra yb
 ·-- reckoning
  obtain⟨p1,p2⟩:=hop;have HOp:=qd (fun w=>(rop_any op yb yc w p1 p2 vb vc).mono (R':=fun e w'=>e=.returned (.tuple #[.int .i64 ((opR op yb yc).getD 0),.bool (opR op yb yc).isSome])/\Below w.heap.size w w') (by rintro e w' ⟨h,rfl⟩;exact⟨h,Below.refl _ _⟩));have hRe:R=(opR op yb yc).map fun z=>((at_:Int)+1,v.set ra z):=by
   rw[<-HRE.out];simp only[insR];rw[if_neg (show ¬op=0 by omega),if_neg (show ¬op=1 by omega),if_neg (show ¬op=2 by omega),if_pos ⟨p1,p2⟩,eb,ec,Int.toNat_natCast]
  generalize opR op yb yc=Z at *;clear HRE ea eb ec va vb vc r0;rcases(show op=3\/op=4\/op=5\/op=6\/op=7\/op=8\/op=9\/op=10 by omega)with rfl|rfl|rfl|rfl|rfl|rfl|rfl|rfl
  all_goals
   clear p1 p2 o0 o1 HCA;cases Z with
   | none =>
    subst hRe;dsimp only[Option.getD,Option.isSome]at HOp;go_upto_region 19 with(fail)
    refine wp_below_tail 17 kr kr (fun T F hF hall=>?_);simp only[TD];have hFc:=fun t=>(bcell (hF t)).1;have hFf:=fun t=>(bcell (hF t)).2;have hFs:=fun t=>(hF t).size;have hNE:Nonempty T:=(hall _ (Below.refl _ _)).elim fun t _=>⟨t⟩;repeat(refine WQ_step (fun K hK=>?_);go_simp;refine hK _ ?_;clear hK K)
    (refine WQ_step (fun K hK=>?_);go_simp;refine⟨_,fun t=>calls_family (hF t) hall (HOp.out (F t)),hK _ ?_⟩;clear hK K)
    repeat(refine WQ_step (fun K hK=>?_);go_simp;refine hK _ ?_;clear hK K)
    refine WQ_nil (fun t=>?_);have hft:=hF t;go_wp2
    try rw[Exit.noGoto_ret]
    refine bodyPost_ret (v:=.tuple #[.int .i64 0,.slice none 0 0,.bool false]) (by simp[results,Tryz.results13,go_sem]) rfl ?_;exact step_not hb1 hft
   | some z =>
    subst hRe;dsimp only[Option.getD,Option.isSome]at HOp;go_upto_region 19 with(fail)
    refine wp_below_tail 17 kr kr (fun T F hF hall=>?_);simp only[TD];have hFc:=fun t=>(bcell (hF t)).1;have hFf:=fun t=>(bcell (hF t)).2;have hFs:=fun t=>(hF t).size;have hNE:Nonempty T:=(hall _ (Below.refl _ _)).elim fun t _=>⟨t⟩;repeat(refine WQ_step (fun K hK=>?_);go_simp;refine hK _ ?_;clear hK K)
    (refine WQ_step (fun K hK=>?_);go_simp;refine⟨_,fun t=>calls_family (hF t) hall (HOp.out (F t)),hK _ ?_⟩;clear hK K)
    repeat(refine WQ_step (fun K hK=>?_);go_simp;refine hK _ ?_;clear hK K)
    refine WQ_nil (fun t=>?_);have hft:=hF t;go_wp2;refine bodyPost_ret (v:=.tuple #[.int .i64 ((at_:Int)+1),.slice (some ⟨ob,0,none⟩) v.length oc,.bool true]) (by simp[results,Tryz.results13,go_sem]) rfl ?_;exact step_fin hb1 hft hob' HO1.out ra z
 ·-- load
  have HHi:=qd (fun w=>rhits_any yb n f.words w vb i4 hw1);have hRe:R=if hitsP yb n f.words then some ((at_:Int)+1,v.set ra ans)else none:=by rw[<-HRE.out];simp[insR,eb]
  have f5:=own5 OF1.out;generalize hitsP yb n f.words=Z at *;cases Z
  all_goals
   subst hRe;go_upto_region 25 with(fail)
   refine wp_still 9 kr kr ?_;simp only[TD];repeat(refine WS_step (fun K hK=>?_);go_simp;refine hK _ ?_;clear hK K)
   refine WS_nil ?_;go_wp2_with (first|(go_at_call 43;refine(HHi.out _).mono ?_;rintro e w2 ⟨rfl,rfl⟩)|fail)
  ·try rw[Exit.noGoto_ret]
   refine bodyPost_ret (v:=.tuple #[.int .i64 0,.slice none 0 0,.bool false]) (by simp[results,Tryz.results13,go_sem]) rfl ?_;exact step_not hb1 (Below.refl _ _).drew
  ·refine bodyPost_ret (v:=.tuple #[.int .i64 ((at_:Int)+1),.slice (some ⟨ob,0,none⟩) v.length oc,.bool true]) (by simp[results,Tryz.results13,go_sem]) rfl ?_;exact step_fin hb1 (Below.refl _ _).drew hob' HO1.out ra ans
 ·-- store
  have HHi:=qd (fun w=>rhits_any yb n f.words w vb i4 hw1);have hRe:R=if hitsP yb n f.words then some ((at_:Int)+1,v)else none:=by rw[<-HRE.out];simp[insR,eb]
  have f5:=own5 OF1.out;generalize hitsP yb n f.words=Z at *;cases Z
  all_goals
   subst hRe;go_upto_region 25 with(fail)
   refine wp_still 9 kr kr ?_;simp only[TD];repeat(refine WS_step (fun K hK=>?_);go_simp;refine hK _ ?_;clear hK K)
   refine WS_nil ?_;go_wp2_with (first|(go_at_call 43;refine(HHi.out _).mono ?_;rintro e w2 ⟨rfl,rfl⟩)|fail)
  ·try rw[Exit.noGoto_ret]
   refine bodyPost_ret (v:=.tuple #[.int .i64 0,.slice none 0 0,.bool false]) (by simp[results,Tryz.results13,go_sem]) rfl ?_;exact step_not hb1 (Below.refl _ _).drew
  ·refine bodyPost_ret (v:=.tuple #[.int .i64 ((at_:Int)+1),.slice (some ⟨ob,0,none⟩) v.length oc,.bool true]) (by simp[results,Tryz.results13,go_sem]) rfl ?_;exact step_fin0 hb1 (Below.refl _ _).drew hob' HO1.out
 ·-- check
  have hRe:R=if ya<0\/n<=ya then none else some ((at_:Int)+1,v):=by rw[<-HRE.out];simp[insR,ea]
  by_cases h1:ya<0
  ·rw[if_pos (.inl h1)]at hRe;subst hRe;go_upto_region 31 with(fail)
   refine wp_still 15 kr kr ?_;simp only[TD];repeat(refine WS_step (fun K hK=>?_);go_simp;refine hK _ ?_;clear hK K)
   refine WS_nil ?_;go_wp2
   try rw[Exit.noGoto_ret]
   refine bodyPost_ret (v:=.tuple #[.int .i64 0,.slice none 0 0,.bool false]) (by simp[results,Tryz.results13,go_sem]) rfl ?_;exact step_not hb1 (Below.refl _ _).drew
  ·by_cases h2:n<=ya
   ·rw[if_pos (.inr h2)]at hRe;subst hRe;go_upto_region 31 with(fail)
    refine wp_still 15 kr kr ?_;simp only[TD];repeat(refine WS_step (fun K hK=>?_);go_simp;refine hK _ ?_;clear hK K)
    refine WS_nil ?_;go_wp2
    try rw[Exit.noGoto_ret]
    refine bodyPost_ret (v:=.tuple #[.int .i64 0,.slice none 0 0,.bool false]) (by simp[results,Tryz.results13,go_sem]) rfl ?_;exact step_not hb1 (Below.refl _ _).drew
   ·rw[if_neg (by omega)]at hRe;subst hRe;go_upto_region 31 with(fail)
    refine wp_still 15 kr kr ?_;simp only[TD];repeat(refine WS_step (fun K hK=>?_);go_simp;refine hK _ ?_;clear hK K)
    refine WS_nil ?_;go_wp2;refine bodyPost_ret (v:=.tuple #[.int .i64 ((at_:Int)+1),.slice (some ⟨ob,0,none⟩) v.length oc,.bool true]) (by simp[results,Tryz.results13,go_sem]) rfl ?_;exact step_fin0 hb1 (Below.refl _ _).drew hob' HO1.out
 ·-- jump
  obtain rfl:some (n,v)=R:=by rw[<-HRE.out];simp[insR]
  go_wp2;refine bodyPost_ret (v:=.tuple #[.int .i64 n,.slice (some ⟨ob,0,none⟩) v.length oc,.bool true]) (by simp[results,Tryz.results13,go_sem]) rfl ?_;exact step_fin0 hb1 (Below.refl _ _) hob' HO1.out
 ·-- if
  by_cases h1:ya=0
  ·have h2:(ya==0)=true:=by simpa using h1
   obtain rfl:some (((at_:Int)+1),v)=R:=by rw[<-HRE.out];simp[insR,ea,h1]
   go_upto_region 37 with(fail)
   refine wp_still 9 kr kr ?_;simp only[TD];repeat(refine WS_step (fun K hK=>?_);go_simp;refine hK _ ?_;clear hK K)
   refine WS_nil ?_;go_wp2;refine bodyPost_ret (v:=.tuple #[.int .i64 ((at_:Int)+1),.slice (some ⟨ob,0,none⟩) v.length oc,.bool true]) (by simp[results,Tryz.results13,go_sem]) rfl ?_;exact step_fin0 hb1 (Below.refl _ _).drew hob' HO1.out
  ·have h2:(ya==0)=false:=by simpa using h1
   obtain rfl:some (n,v)=R:=by rw[<-HRE.out];simp[insR,ea,h1]
   go_upto_region 37 with(fail)
   refine wp_still 9 kr kr ?_;simp only[TD];repeat(refine WS_step (fun K hK=>?_);go_simp;refine hK _ ?_;clear hK K)
   refine WS_nil ?_;go_wp2;refine bodyPost_ret (v:=.tuple #[.int .i64 n,.slice (some ⟨ob,0,none⟩) v.length oc,.bool true]) (by simp[results,Tryz.results13,go_sem]) rfl ?_;exact step_fin0 hb1 (Below.refl _ _).drew hob' HO1.out
 ·-- unless
  by_cases h1:ya=0
  ·have h2:(ya==0)=true:=by simpa using h1
   obtain rfl:some (n,v)=R:=by rw[<-HRE.out];simp[insR,ea,h1]
   go_upto_region 37 with(fail)
   refine wp_still 9 kr kr ?_;simp only[TD];repeat(refine WS_step (fun K hK=>?_);go_simp;refine hK _ ?_;clear hK K)
   refine WS_nil ?_;go_wp2;refine bodyPost_ret (v:=.tuple #[.int .i64 n,.slice (some ⟨ob,0,none⟩) v.length oc,.bool true]) (by simp[results,Tryz.results13,go_sem]) rfl ?_;exact step_fin0 hb1 (Below.refl _ _).drew hob' HO1.out
  ·have h2:(ya==0)=false:=by simpa using h1
   obtain rfl:some (((at_:Int)+1),v)=R:=by rw[<-HRE.out];simp[insR,ea,h1]
   go_upto_region 37 with(fail)
   refine wp_still 9 kr kr ?_;simp only[TD];repeat(refine WS_step (fun K hK=>?_);go_simp;refine hK _ ?_;clear hK K)
   refine WS_nil ?_;go_wp2;refine bodyPost_ret (v:=.tuple #[.int .i64 ((at_:Int)+1),.slice (some ⟨ob,0,none⟩) v.length oc,.bool true]) (by simp[results,Tryz.results13,go_sem]) rfl ?_;exact step_fin0 hb1 (Below.refl _ _).drew hob' HO1.out
 ·-- count
  by_cases h1:yb<=ya
  ·obtain rfl:some (n,v)=R:=by rw[<-HRE.out];simp[insR,ea,eb,h1]
   go_upto_region 40 with(fail)
   refine wp_still 10 kr kr ?_;simp only[TD];repeat(refine WS_step (fun K hK=>?_);go_simp;refine hK _ ?_;clear hK K)
   refine WS_nil ?_;go_wp2;refine bodyPost_ret (v:=.tuple #[.int .i64 n,.slice (some ⟨ob,0,none⟩) v.length oc,.bool true]) (by simp[results,Tryz.results13,go_sem]) rfl ?_;exact step_fin0 hb1 (Below.refl _ _).drew hob' HO1.out
  ·obtain rfl:some ((at_:Int)+1,v)=R:=by rw[<-HRE.out];simp[insR,ea,eb,h1]
   go_upto_region 40 with(fail)
   refine wp_still 10 kr kr ?_;simp only[TD];repeat(refine WS_step (fun K hK=>?_);go_simp;refine hK _ ?_;clear hK K)
   refine WS_nil ?_;go_wp2;refine bodyPost_ret (v:=.tuple #[.int .i64 ((at_:Int)+1),.slice (some ⟨ob,0,none⟩) v.length oc,.bool true]) (by simp[results,Tryz.results13,go_sem]) rfl ?_;exact step_fin0 hb1 (Below.refl _ _).drew hob' HO1.out
 ·-- step
  obtain rfl:some (n,v.set ra (wrap64 (ya+1)))=R:=by rw[<-HRE.out];simp[insR,ea]
  go_upto_region 43 with(fail)
  refine wp_still 10 kr kr ?_;simp only[TD];repeat(refine WS_step (fun K hK=>?_);go_simp;refine hK _ ?_;clear hK K)
  refine WS_nil ?_;go_wp2;refine bodyPost_ret (v:=.tuple #[.int .i64 n,.slice (some ⟨ob,0,none⟩) v.length oc,.bool true]) (by simp[results,Tryz.results13,go_sem]) rfl ?_;exact step_fin hb1 (Below.refl _ _).drew hob' HO1.out ra (wrap64 (ya+1))
 ·-- call
  obtain⟨k1,k2,k3⟩:=HCA.out rfl;obtain⟨kn,rfl⟩:=Int.eq_ofNat_of_zero_le k1;obtain⟨_,_,_,_,_,_,hv,-,hfs⟩:=HMO.out;cases hv;obtain⟨hfl1,hfl2,fb,fo,hfb,H,hH⟩:=hfs;have hkn:kn<fl:=oz
  have hkn2:(kn:Int)<(fl:Int):=oz
  obtain⟨rfl,hfbB⟩:=hfb oz;obtain⟨⟨-,y1,-,-,-⟩,-,⟨hpl,hpm,pb,po,hpb,hpc⟩,-,-,-⟩:=hH kn hkn;have hP:paramsAt m (kn:Int)=(m.funcs.getD kn default).params:=by unfold paramsAt;rw[Int.toNat_natCast]
  have hP2:(fnAt m (kn:Int).toNat).params=(m.funcs.getD kn default).params:=by unfold fnAt;rw[Int.toNat_natCast]
  rw[hP2]at k3;have hRe:R=if fitsR v rb (m.funcs.getD kn default).params then some ((at_:Int)+1,v.set ra ans)else none:=by rw[<-HRE.out,<-hP];simp[insR]
  have hrg:=HVL.out;clear hP hP2 HRE hH hfb HCA;generalize (m.funcs.getD kn default).params=ps at *;generalize H kn=hk at *;obtain⟨qa,ql,qc,_,_,_⟩:=hk;dsimp only at y1 hpl hpm hpb hpc;subst hpl;have hRE:=qd hRe;clear hRe;have j1:=(hb1.cell (p:=⟨fb,fo+kn*5+1,none⟩) (by show fb<_;omega)).trans y1;have m2:=own2 OM1.out;have hpsl:rb+ps.length<=v.length:=oz
  have hpm':ps.length<=9223372036854775807:=hpm;have HPB:=qd hpb;have HPC:=qd hpc;have hFIT:Hid (fitsR v rb ps=(List.range ps.length).all fun i=>decide ((ps.getD i default).lo<=v.getD (rb+i) 0)&&decide (v.getD (rb+i) 0<=(ps.getD i default).hi)):=qd rfl;clear hpb hpc y1 r0 r1 r2 va vb vc ea eb ec ib ic hrg k1 k2 k3 hpm;go_wp2;go_loopw [20] (fun i wx=>∃ k:Nat,k<=ps.length/\i=.int .i64 k/\Hid (∀ j,j<k->(decide ((ps.getD j default).lo<=v.getD (rb+j) 0)&&decide (v.getD (rb+j) 0<=(ps.getD j default).hi))=true)/\Hid (Below w1.heap.size w1 wx)) (fun i _=>ps.length-(intOf i).toNat)
  case atStart=>exact⟨0,Nat.zero_le _,rfl,qd (fun j hj=>by omega),qd (Below.refl _ _)⟩
  case round =>
   clear x5 j1 m2 q0 za;obtain⟨k,hk,rfl,hno,hbx⟩:=hrel;have hzx:=hbx.out.size;have x5:=own5 (OX1.out.below hbx.out);by_cases hkt:k<ps.length
   ·have d3:(k:Int)<(ps.length:Int):=oz
    have hwk:IntKind.i64.wrap ((k:Int)+1)=(k:Int)+1:=IntWalk.i64_in _ oz;have hwb:IntKind.i64.wrap ((rb:Int)+(k:Int))=(rb:Int)+(k:Int):=IntWalk.i64_in _ oz;have d4:(rb:Int)+(k:Int)<(v.length:Int):=oz
    have d5:(0:Int)<=(rb:Int)+(k:Int):=oz
    have d6:((rb:Int)+(k:Int)).toNat=rb+k:=oz
    obtain⟨rfl,hpbB⟩:=HPB.out oz;obtain⟨p0,p1,-,-⟩:=HPC.out k hkt;have hbw:=hb1.trans (hbx.out.mono hb1.size);have y0:=(hbw.cell (p:=⟨pb,po+k*2,none⟩) (by show pb<_;omega)).trans p0;have y1:=(hbw.cell (p:=⟨pb,po+k*2+1,none⟩) (by show pb<_;omega)).trans p1;have gk:v[rb+k]? = some (v.getD (rb+k) 0):=by rw[List.getD_eq_getElem?_getD,List.getElem?_eq_getElem (show rb+k<v.length by omega)];rfl
    have rk:=row_cell (row_below hbx.out HR1.out) (Nums_some gk);clear p0 p1 gk;have HN:Hid ((decide ((ps.getD k default).lo<=v.getD (rb+k) 0)&&decide (v.getD (rb+k) 0<=(ps.getD k default).hi))=true->∀ j,j<k+1->(decide ((ps.getD j default).lo<=v.getD (rb+j) 0)&&decide (v.getD (rb+j) 0<=(ps.getD j default).hi))=true):=qd (fun h j hj=>by
     by_cases e:j=k
     ·subst e;exact h
     ·exact hno.out j oz)
    have HB:Hid ((decide ((ps.getD k default).lo<=v.getD (rb+k) 0)&&decide (v.getD (rb+k) 0<=(ps.getD k default).hi))=false->R=none):=qd (fun h=>by
     rw[hRE.out,if_neg];rw[hFIT.out,List.all_eq_true];intro hall;have:=hall k (List.mem_range.2 hkt);rw[h]at this;cases this)
    generalize v.getD (rb+k) 0=yk at *;generalize ps.getD k default=pp at *;obtain⟨plo,phi⟩:=pp;dsimp only at y0 y1 HN HB;by_cases h1:yk<plo
    ·have hRn:=HB.out (by rw[decide_eq_false (show ¬plo<=yk by omega)];rfl);subst hRn;clear HN HB hRE hFIT;go_upto_region 50 with(fail)
     refine wp_still 27 kr kr ?_;simp only[TD];repeat(refine WS_step (fun K hK=>?_);go_simp;refine hK _ ?_;clear hK K)
     refine WS_nil ?_;go_wp2
     try rw[Exit.noGoto_ret]
     refine bodyPost_ret (v:=.tuple #[.int .i64 0,.slice none 0 0,.bool false]) (by simp[results,Tryz.results13,go_sem]) rfl ?_;exact step_not hb1 (by first|exact hbx.out|exact hbx.out.drew)
    ·by_cases h2:phi<yk
     ·have hRn:=HB.out (by rw[decide_eq_false (show ¬yk<=phi by omega)];exact Bool.and_false _);subst hRn;clear HN HB hRE hFIT;go_upto_region 50 with(fail)
      refine wp_still 27 kr kr ?_;simp only[TD];repeat(refine WS_step (fun K hK=>?_);go_simp;refine hK _ ?_;clear hK K)
      refine WS_nil ?_;go_wp2
      try rw[Exit.noGoto_ret]
      refine bodyPost_ret (v:=.tuple #[.int .i64 0,.slice none 0 0,.bool false]) (by simp[results,Tryz.results13,go_sem]) rfl ?_;exact step_not hb1 (by first|exact hbx.out|exact hbx.out.drew)
     ·have HNN:=qd (HN.out (by rw[decide_eq_true (show plo<=yk by omega),decide_eq_true (show yk<=phi by omega)];rfl));clear HN HB;go_upto_region 50 with(fail)
      refine wp_still 27 kr kr ?_;simp only[TD];repeat(refine WS_step (fun K hK=>?_);go_simp;refine hK _ ?_;clear hK K)
      refine WS_nil ?_;go_wp2;refine⟨⟨k+1,oz,si,HNN,qd (by first|exact hbx.out|exact hbx.out.drew)⟩,?_⟩;go_light;exact ml
   ·obtain rfl:k=ps.length:=oz
    have d3:¬(ps.length:Int)<(ps.length:Int):=oz
    have hRs:R=some ((at_:Int)+1,v.set ra ans):=by
     rw[hRE.out,if_pos];rw[hFIT.out,List.all_eq_true];exact fun j hj=>hno.out j (List.mem_range.1 hj)
    subst hRs;clear hno hFIT hRE;have HO2:=row_below hbx.out HO1.out;have za:=HO2.frozenAt ra;have ga:v[ra]? = some (v.getD ra 0):=by rw[List.getD_eq_getElem?_getD,List.getElem?_eq_getElem ha];rfl
    have q0:=row_cell HO2 (Nums_some ga);clear HO2 ga;go_wp2;refine bodyPost_ret (v:=.tuple #[.int .i64 ((at_:Int)+1),.slice (some ⟨ob,0,none⟩) v.length oc,.bool true]) (by simp[results,Tryz.results13,go_sem]) rfl ?_;exact step_fin hb1 hbx.out hob' HO1.out ra ans
end
end Go.Proofs.YteebpnbdihcfmaaGreatDoor
