/- TripsTrue -/
import Derived.Test.YteebpnbdihcfmaaGreatDoorJ13
import Derived.Test.YteebpnbdihcfmaaGreatDoorJ29
import Derived.Test.YteebpnbdihcfmaaGreatDoorJ33
import Derived.Test.YteebpnbdihcfmaaGreatDoorJ35
import Derived.Test.YteebpnbdihcfmaaGreatDoorJ37
import Derived.Test.YteebpnbdihcfmaaGreatDoorJ01
set_option linter.unusedVariables false
set_option linter.unusedSimpArgs false
set_option maxRecDepth 100000
set_option maxHeartbeats 20000000
namespace Go.Proofs.YteebpnbdihcfmaaGreatDoor
open Go.RowKit
theorem U64s_some {l:List Int}{i:Nat}{v:Int}(h:l[i]? = some v):(U64s l)[i]? = some (.int .u64 v):=by simp[U64s,h]
theorem U64s_set (l:List Int) (i:Nat) (v:Int):(U64s l).set i (.int .u64 v)=U64s (l.set i v):=by simp[U64s]
theorem Tryz.infoW:(Tryz.prog.info? 34).map (fun i=>(i.zero,i.size,i.bytes))=some (some (.int .u64 0),1,8):=kr
/-- what a step answers, in one form -/
theorem step_split {w w':World}{r:Option (Int×List Int)}{e:Ending}(f:PFunc) (k:Nat) (h:StepPost w r e w'):∃ (nx:Int) (nv:Value) (gs:Bool),e=.returned (.tuple #[.int .i64 nx,nv,.bool gs])/\Below w.heap.size w w'/\incB f k r=(gs&&(decide (nx=(k:Int)+1)&&decide ((f.code.getD k default).n≠nx))) /\
 ((gs=false/\r=none)\/∃ v' ob oc,gs=true/\r=some (nx,v')/\nv=.slice (some ⟨ob,0,none⟩) v'.length oc/\w.heap.size<=ob/\w'.ownsRow 0 2 1 (.slice (some ⟨ob,0,none⟩) v'.length oc) v'.length (Nums v')):=by
 obtain⟨hb,h⟩:=h;cases r with
 | none=>exact⟨0,_,false,h,hb,rfl,.inl ⟨rfl,rfl⟩⟩
 | some p =>
  obtain⟨nx,v'⟩:=p;obtain⟨ob,oc,h1,h2,h3⟩:=h;exact⟨nx,_,true,h1,hb,by unfold incB;rw[Bool.true_and],.inr ⟨v',ob,oc,rfl,rfl,rfl,h2,h3⟩⟩
theorem set_same {l:List Int}{j:Nat}{x:Int}(h:l[j]? = some x):l.set j x=l:=by
 apply List.ext_getElem?;intro i;by_cases e:i=j
 ·subst e;rw[List.getElem?_set_self (List.getElem?_eq_some_iff.1 h).1,h]
 ·rw[List.getElem?_set_ne (by omega)]
theorem startTo_keep {f:PFunc}{args:List Int}{i:Nat}(h:clampV f args i=0):startTo f args (i+1)=startTo f args i:=by
 apply List.ext_getElem?;intro j;by_cases hj:j<f.regs.toNat
 ·rw[startTo_at hj,startTo_at hj];by_cases e:j=i
  ·subst e;rw[if_pos (by omega),if_neg (by omega),h]
  ·by_cases h2:j<i
   ·rw[if_pos h2,if_pos (by omega)]
   ·rw[if_neg h2,if_neg (by omega)]
 ·rw[List.getElem?_eq_none (by rw[startTo_len];omega),List.getElem?_eq_none (by rw[startTo_len];omega)]
/-- the law -/
theorem true_any (m:PMod) (fn:Int) (args answers:List Int) (ta fa aa xa:Option Addr) (tl tc fl fc ac xc:Nat) (w:World) (hmo:ModAt w.heap.size w (.agg #[.slice ta tl tc,.slice fa fl fc]) m) (hr:RowsAt w)
 (haa:NumsAt w.heap.size w aa args.length args) (hxa:NumsAt w.heap.size w xa answers.length answers) :
 Calls Tryz.prog 4 #[.agg #[.slice ta tl tc,.slice fa fl fc],.int .i64 fn,.slice aa args.length ac,.slice xa answers.length xc] w fun e w'=>e=.returned (.bool true)/\Below w.heap.size w w':=by
 have HR:=qd (fun w' (h:Below w.heap.size w w')=>hr.same (Same.of h lr) hr.1 h.size);have HMO:=qd (fun w' (h:Below w.heap.size w w')=>hmo.same (Same.of h lr));have HF:=qd (fun w' (h:Below w.heap.size w w')=>fixed17_any w' (HR.out w' h));have HMy:=qd (fun w' (h:Below w.heap.size w w')=>rmay_any w.heap.size _ m w' h.size hr.1 (HMO.out w' h));have hr1:=hr.1;have HM0:=qd hmo;have HAA:=qd haa;have HXA:=qd hxa;obtain⟨_,_,_,_,_,_,hv,-,hfs⟩:=hmo;cases hv;obtain⟨hfl1,hfl2,-⟩:=hfs;clear hr haa hxa;by_cases he:(mayP m).e=0
 ·by_cases hfn:0<=fn/\fn<(m.funcs.length:Int)
  ·obtain⟨k,rfl⟩:=Int.eq_ofNat_of_zero_le hfn.1;have hk:k<m.funcs.length:=oz
   clear hfn;have hfine:=fine_of he;have hff:=hfine.fn k hk;have HT:=qd (fun w' (h:Below w.heap.size w w')=>trips_ok w.heap.size m k ta fa tl tc fl fc w' h.size hr1 (HMO.out w' h) (HR.out w' h) he hk);obtain⟨hpar,h64n⟩:=params_ok HM0.out he hk;have HIO:=qd (fun s hs=>inn_ok HM0.out he hk (s:=s) hs);have HFI:=qd hfine;obtain⟨_,_,_,_,_,_,hv,-,hfs⟩:=HM0.out;cases hv;obtain⟨-,-,fb,fo,hfb,H,hH⟩:=hfs;obtain⟨rfl,hfbB⟩:=hfb oz;obtain⟨hcells,hfo⟩:=hH k oz;have e9:m.funcs.getD k default=fnAt m k:=rfl;rw[e9]at hcells hfo;clear e9 hH hfb;rw[he]at HMy;generalize (mayP m).f=mf at *;generalize (mayP m).at_=ma at *;have hn0:0<(fnAt m k).code.length:=hff.c1;have hn:=hff.c2;have HFo:=qd hfo;have HFd:=qd (fun w' (h:Below w.heap.size w w')=>rfind_any w.heap.size (H k) (fnAt m k) w' h.size (HFo.out.same (Same.of h lr)) hn0 hn);have hk2:(k:Int)<(fl:Int):=oz
   have hfl3:fl<=9223372036854775807:=hfl2;obtain⟨c0,c1,c2,c3,c4⟩:=hcells;have hreg1:=hff.r1;have hreg2:=hff.r2;have hnp:=hff.np;have hw1:=hff.w1;obtain⟨rg,hrg⟩:∃ rg:Nat,(fnAt m k).regs=rg:=⟨(fnAt m k).regs.toNat,oz⟩
   obtain⟨-,hspn,-,-,-⟩:=hfo;have HSPN:=qd hspn;have HPAR:=qd hpar;have HTR:Hid (∀ inn,tripsP m (fnAt m k) inn=if(findP (fnAt m k)).2.1=0 then((findP (fnAt m k)).1.map (tripN m (fnAt m k) inn),0)else([],(findP (fnAt m k)).2.1)):=qd (fun inn=>rfl);have HFK:=qd (fun h=>find_ok (f:=fnAt m k) h hn);have HFN:=qd (fun h=>find_nats (f:=fnAt m k) h);unfold TripPost at HT;unfold FindPost at HFd;unfold FuncVal at HFd;generalize hf:fnAt m k=f at *;generalize H k=hh at *;obtain⟨pa,pl,pc,ca,cl,cc⟩:=hh;dsimp only at c0 c1 c2 c3 c4 HFd hspn;rw[hrg]at c2;have HRG:=qd hrg;have HE:=qd he;have HK:=qd hk;have HFE:=qd hf;have hpl:=hspn.1;have hplr:pl<=rg:=oz
   clear hspn hfine hff hpar he hk hf;go_enter Tryz.func4,Tryz.ntmps4;go_upto_region 5 with(first|(go_at_call 9;refine(HF.out _ bel).mono ?_;rintro e w1 ⟨rfl,hb1⟩;have hba:Below w.heap.size w w1:=bal.trans (hb1.mono si);have OM1:=qd ((Own.new w [.slice ta tl tc,.slice (some ⟨fb,fo,none⟩) fl fc] 25).below hb1);have om:=own2 OM1.out)|(go_at_call 6;refine(HT.out _ hba).mono ?_;rintro e w2 ⟨s,tv,hrs,rfl,hrow,hb2⟩;have hbb:=hba.trans (hb2.mono hba.size);have OM2:=qd (OM1.out.below hb2);have om2:=own2 OM2.out)|(go_at_call 11;refine(HMy.out _ hbb).mono ?_;rintro e w3 ⟨rfl,hb3⟩)|fail)
   have hbc:=hbb.trans (hb3.mono hbb.size);generalize hW4:World.alloc _ _=W4;have hb4:Below w3.heap.size w3 W4:=by rw[<-hW4];exact bal
   have OE:Own W4 w3.heap.size [.int .i64 0,.int .i64 mf,.int .i64 ma]:=by rw[<-hW4];exact Own.new _ _ _
   have hz3:=hb3.size;have hz2:=hb2.size;have hza:=hba.size;have hb24:Below w2.heap.size w2 W4:=hb3.trans (hb4.mono oz);have OM4:=qd (OM2.out.below hb24);have om4:=own2 OM4.out;have x3:=own3 OE;have hbw:=hbc.trans (hb4.mono hbc.size);have HRS:=qd hrs;have HT4:=qd (row_below hb24 hrow);clear hW4 om om2 HT HMy HF hrs hrow hb1;have hz4:=hb4.size;have d0:=(hbw.cell (p:=⟨fb,fo+k*5,none⟩) (by show fb<_;omega)).trans c0;have d1:=(hbw.cell (p:=⟨fb,fo+k*5+1,none⟩) (by show fb<_;omega)).trans c1;have d2:=(hbw.cell (p:=⟨fb,fo+k*5+2,none⟩) (by show fb<_;omega)).trans c2;have d3:=(hbw.cell (p:=⟨fb,fo+k*5+3,none⟩) (by show fb<_;omega)).trans c3;have d4:=(hbw.cell (p:=⟨fb,fo+k*5+4,none⟩) (by show fb<_;omega)).trans c4;have ht2:(tripsP m f s.inn).2=(findP f).2.1:=by rw[HTR.out];split<;>simp_all
   rw[ht2];rw[HRG.out]at HFd;go_upto_region 8 with(fail)
   generalize hW5:World.alloc _ _=W5;have hb5:Below W4.heap.size W4 W5:=by rw[<-hW5];exact bal
   have OF5:Own W5 W4.heap.size [.string f.name,.slice pa pl pc,.int .i64 rg,.int .i64 f.words,.slice ca cl cc]:=by rw[<-hW5];exact Own.new _ _ _
   have f5:=own5 OF5;have hbw5:=hbw.trans (hb5.mono hbw.size);have hz5:=hb5.size;clear hW5 d0 d1 d2 d3 d4 c0 c1 c2 c3 c4;go_upto_region 9 with(first|(go_at_call 12;refine(HFd.out _ hbw5).mono ?_;rintro e w6 ⟨lv,L,rfl,hb6,hL,hLm⟩)|fail)
   have hb46:=hb5.trans (hb6.mono hb5.size);have hbw6:=hbw5.trans (hb6.mono hbw5.size);have hz6:=hb6.size;have OF6:=qd (OF5.below hb6);have OM6:=qd (OM4.out.below hb46);have HT6:=qd (row_below hb46 HT4.out);have HL6:=qd hL;have HLM:=qd hLm;clear hL hLm hb6 OF5 f5 HT4 OM4 om4 HFd hb5 x3 OE;by_cases hg:(findP f).2.1=0
   ·have e1:=HTR.out s.inn;rw[if_pos hg]at e1;rw[e1]at HT6;have HLC:=qd (HFK.out hg);have HLN:=qd (HFN.out hg);rw[hg];clear e1 ht2 HTR HFK HFN hg;have hfl9:=find_len f;generalize (findP f).1=ls at *;obtain⟨tva,tvc,rfl⟩:=row_sl HT6.out;obtain⟨lva,lvc,rfl⟩:=HL6.out.form;have hll:(ls.map (tripN m f s.inn)).length=L.length:=by rw[List.length_map,<-HLM.out,List.length_map]
    have hll2:ls.length=L.length:=by rw[<-HLM.out,List.length_map]
    rw[hll]at HT6 ⊢;obtain⟨nl,hnl⟩:∃ nl,nl=L.length:=⟨_,rfl⟩
    rw[<-hnl]at HT6 HL6 hll2 ⊢;have hnl9:nl<=1024:=oz
    have hrg9:rg<=64:=oz
    have hmr:=run_make_row' (P:=Tryz.prog) 22 2 (.int .i64 0) 8 Tryz.underlying22 Tryz.info64 rfl .i64 .i64 rg oz oz;rw[madeNums]at hmr;have hmg:=run_make_row' (P:=Tryz.prog) 27 34 (.int .u64 0) 8 Tryz.underlying27 Tryz.infoW rfl .i64 .i64 nl oz oz;rw[madeOne]at hmg;have HL9:=qd hll2;have HN9:=qd hnl;have f5:=own5 OF6.out;have hrgt:f.regs.toNat=rg:=by rw[HRG.out];simp
    have HRGT:=qd hrgt;clear hll hll2 hnl hrgt hfl9;go_upto_region 14 with(fail)
    have R0:(w6.alloc (.cells (Nums (List.replicate rg 0)).toArray 2)).ownsRow 0 2 1 (.slice (some ⟨w6.heap.size,0,none⟩) rg rg) rg (Nums (List.replicate rg 0)):=World.ownsRow_lit w6 (base:=0) (e:=2) (size:=1) (Nums (List.replicate rg 0)).toArray rg (Nat.zero_le _) (by unfold maxLen;omega) (by simp[Nums]);have hb67:Below w6.heap.size w6 (w6.alloc (.cells (Nums (List.replicate rg 0)).toArray 2)):=bal;generalize hW7:World.alloc _ _=W7 at R0 hb67 ⊢;have hb67':Below w6.heap.size w6 W7:=by rw[<-hW7];exact bal
    have R7:Hid (W7.ownsRow 0 2 1 (.slice (some ⟨w6.heap.size,0,none⟩) rg rg) rg (Nums (startTo f args 0))):=qd (by rw[startTo_zero,HRGT.out];first|exact R0|(rw[<-hW7];exact R0));have HB67:=qd hb67';clear hW7 R0 hb67 hb67' f5 hmr;go_wp2;go_loopw [17] (fun i wx=>∃ j:Nat,j<=pl/\i=.int .i64 j/\Hid (wx.ownsRow 0 2 1 (.slice (some ⟨w6.heap.size,0,none⟩) rg rg) rg (Nums (startTo f args j)))/\Hid (Below w6.heap.size w6 wx)) (fun i _=>pl-(intOf i).toNat)
    case atStart=>exact⟨0,Nat.zero_le _,rfl,R7,HB67⟩
    case round =>
     clear R7 HB67;obtain⟨j,hj,rfl,HRr,hbx⟩:=hrel;have hzx:=hbx.out.size;have f5:=own5 (OF6.out.below hbx.out);by_cases hjt:j<pl
     ·have d5:(j:Int)<(pl:Int):=oz
      have hwj:IntKind.i64.wrap ((j:Int)+1)=(j:Int)+1:=IntWalk.i64_in _ oz;have d6:(j:Int)<(rg:Int):=oz
      have hjr:j<f.regs.toNat:=by rw[HRGT.out];omega
      have hbwx:=hbw6.trans (hbx.out.mono oz);obtain⟨hsl,hsm,pb,po,hpb,hpc⟩:=HSPN.out;obtain⟨rfl,hpbB⟩:=hpb oz;obtain⟨p0,p1,s0,s1⟩:=hpc j hjt;have y0:=(hbwx.cell (p:=⟨pb,po+j*2,none⟩) (by show pb<_;omega)).trans p0;have y1:=(hbwx.cell (p:=⟨pb,po+j*2+1,none⟩) (by show pb<_;omega)).trans p1;have gj:(startTo f args j)[j]? = some 0:=by rw[startTo_at hjr,if_neg (by omega)]
      have r0:=row_cell HRr.out (Nums_some gj);have z0:=HRr.out.frozenAt j;have HCL:Hid (clampV f args j=if(if j<args.length then args.getD j 0 else 0)<(f.params.getD j default).lo\/(f.params.getD j default).hi<(if j<args.length then args.getD j 0 else 0)then(f.params.getD j default).hi else(if j<args.length then args.getD j 0 else 0)):=qd rfl;have HSET:=qd (fun x (h:clampV f args j=x)=>show(startTo f args j).set j x=startTo f args (j+1) by rw[<-h];exact startTo_set);have HKP:=qd (fun(h:clampV f args j=0)=>startTo_keep h);generalize f.params.getD j default=pp at *;obtain⟨plo,phi⟩:=pp;dsimp only at y0 y1 HCL;have hst:∀ (W:World) (x:Int),Chg (fun q=>q=w6.heap.size) W (W.setCell ⟨w6.heap.size,j,none⟩ (.int .i64 x)):=fun W x=>Chg.setCell (S:=fun q=>q=w6.heap.size) (Chg.refl _ _) (p:=⟨w6.heap.size,j,none⟩) (.inl rfl) _;clear hpb hpc p0 p1 s0 s1 gj;by_cases hia:j<args.length
      ·have d7:(j:Int)<(args.length:Int):=oz
       obtain⟨-,ham,ab,ao,hab,hac⟩:=HAA.out;obtain⟨rfl,habB⟩:=hab oz;have a0:=(hbwx.cell (p:=⟨ab,ao+j,none⟩) (by show ab<_;omega)).trans (hac j hia).1;rw[if_pos hia]at HCL;generalize args.getD j 0=x at *;clear hab hac;go_upto_region 19 with(fail)
       generalize hW8:World.setCell _ _ _=W8;have hc8:Chg (fun q=>q=w6.heap.size) wr W8:=by rw[<-hW8];exact hst wr x
       have R8:W8.ownsRow 0 2 1 (.slice (some ⟨w6.heap.size,0,none⟩) rg rg) rg (Nums ((startTo f args j).set j x)):=by rw[<-hW8,<-Nums_set];exact row_set HRr.out j (.int .i64 x)
       have hb8:=hbx.out.trans (hc8.below w6.heap.size hzx (fun q hq e=>by omega));have hz8:=hc8.size;have gj8:((startTo f args j).set j x)[j]? = some x:=List.getElem?_set_self (by rw[startTo_len];exact hjr);have r8:=row_cell R8 (Nums_some gj8);have z8:=R8.frozenAt j;have f58:=own5 (OF6.out.below hb8);have hbw8:=hbw6.trans (hb8.mono oz);have hpb8:pb<wr.heap.size:=oz
       have v0:=(hc8.cellAt (po+j*2) (b:=pb) hpb8 oz).trans y0;have v1:=(hc8.cellAt (po+j*2+1) (b:=pb) hpb8 oz).trans y1;have HR8:=qd R8;clear hW8 f5 r0 z0 y0 y1 a0 gj8 R8;by_cases h1:x<plo
       ·have hcl:=HCL.out;rw[if_pos (.inl h1)]at hcl;have HS:=qd (HSET.out _ hcl);clear hcl HSET HKP HCL;go_upto_region 19 with(fail)
        refine wp_still 23 kr kr ?_;simp only[TD];repeat(refine WS_step (fun K hK=>?_);go_simp;refine hK _ ?_;clear hK K)
        refine WS_nil ?_;go_wp2;refine⟨⟨j+1,oz,si,qd (by rw[<-HS.out,<-Nums_set,<-List.set_set (a:=.int .i64 x),Nums_set];exact row_set (row_below (Below.refl _ _).drew HR8.out) j (.int .i64 phi)),qd (hb8.drew.trans ((hst _ _).below w6.heap.size (by have:=hz8;simp;omega) (fun q hq e=>by omega)))⟩,?_⟩;go_light;exact ml
       ·by_cases h2:phi<x
        ·have hcl:=HCL.out;rw[if_pos (.inr h2)]at hcl;have HS:=qd (HSET.out _ hcl);clear hcl HSET HKP HCL;refine wp_still 23 kr kr ?_;simp only[TD];repeat(refine WS_step (fun K hK=>?_);go_simp;refine hK _ ?_;clear hK K)
         refine WS_nil ?_;go_wp2;refine⟨⟨j+1,oz,si,qd (by rw[<-HS.out,<-Nums_set,<-List.set_set (a:=.int .i64 x),Nums_set];exact row_set (row_below (Below.refl _ _).drew HR8.out) j (.int .i64 phi)),qd (hb8.drew.trans ((hst _ _).below w6.heap.size (by have:=hz8;simp;omega) (fun q hq e=>by omega)))⟩,?_⟩;go_light;exact ml
        ·have hcl:=HCL.out;rw[if_neg (by omega)]at hcl;have HS:=qd (HSET.out _ hcl);clear hcl HSET HKP HCL;refine wp_still 23 kr kr ?_;simp only[TD];repeat(refine WS_step (fun K hK=>?_);go_simp;refine hK _ ?_;clear hK K)
         refine WS_nil ?_;go_wp2;refine⟨⟨j+1,oz,si,qd (by rw[<-HS.out];exact row_below (Below.refl _ _).drew HR8.out),qd hb8.drew⟩,?_⟩;go_light;exact ml
      ·have d7:¬(j:Int)<(args.length:Int):=oz
       rw[if_neg hia]at HCL;by_cases h1:(0:Int)<plo
       ·have hcl:=HCL.out;rw[if_pos (.inl h1)]at hcl;have HS:=qd (HSET.out _ hcl);clear hcl HSET HKP HCL;go_upto_region 19 with(fail)
        refine wp_still 23 kr kr ?_;simp only[TD];repeat(refine WS_step (fun K hK=>?_);go_simp;refine hK _ ?_;clear hK K)
        refine WS_nil ?_;go_wp2;refine⟨⟨j+1,oz,si,qd (by rw[<-HS.out,<-Nums_set];exact row_set (row_below (Below.refl _ _).drew HRr.out) j (.int .i64 phi)),qd (hbx.out.drew.trans ((hst _ _).below w6.heap.size (by simp;omega) (fun q hq e=>by omega)))⟩,?_⟩;go_light;exact ml
       ·by_cases h2:phi<0
        ·have hcl:=HCL.out;rw[if_pos (.inr h2)]at hcl;have HS:=qd (HSET.out _ hcl);clear hcl HSET HKP HCL;go_upto_region 19 with(fail)
         refine wp_still 23 kr kr ?_;simp only[TD];repeat(refine WS_step (fun K hK=>?_);go_simp;refine hK _ ?_;clear hK K)
         refine WS_nil ?_;go_wp2;refine⟨⟨j+1,oz,si,qd (by rw[<-HS.out,<-Nums_set];exact row_set (row_below (Below.refl _ _).drew HRr.out) j (.int .i64 phi)),qd (hbx.out.drew.trans ((hst _ _).below w6.heap.size (by simp;omega) (fun q hq e=>by omega)))⟩,?_⟩;go_light;exact ml
        ·have hcl:=HCL.out;rw[if_neg (by omega)]at hcl;have HS:=qd (HKP.out hcl);clear hcl HSET HKP HCL;go_upto_region 19 with(fail)
         refine wp_still 23 kr kr ?_;simp only[TD];repeat(refine WS_step (fun K hK=>?_);go_simp;refine hK _ ?_;clear hK K)
         refine WS_nil ?_;go_wp2;refine⟨⟨j+1,oz,si,qd (by rw[HS.out];exact row_below (Below.refl _ _).drew HRr.out),qd hbx.out.drew⟩,?_⟩;go_light;exact ml
     ·obtain rfl:pl=j:=oz
      have d5:¬(pl:Int)<(pl:Int):=oz
      have hin:=start_in (f:=f) (args:=args) (fun i hi=>HPAR.out i hi) (by rw[HRG.out];omega);obtain⟨HIn1,HIn2,HIn3⟩:=HIO.out s HRS.out;have hv0:startTo f args f.params.length=startTo f args pl:=by rw[HSPN.out.1]
      have HTK:=qd (HIn3 _ hin);have HIN:=qd HIn1;have HBG':=qd HIn2;have HAI:=qd (all_start (m:=m) (fn:=k) (inn:=s.inn) (v:=startTo f args f.params.length) (ls:=ls) (by rw[HFE.out];exact HLN.out));have hvl:(startTo f args f.params.length).length=rg:=by rw[startTo_len,HRGT.out]
      rw[<-hv0]at HRr;rw[HFE.out]at HAI;have HVL:=qd hvl;clear hin HIn1 HIn2 HIn3 hv0 hvl HIO HPAR HRS HAA;generalize startTo f args f.params.length=v at *;obtain⟨wG,hwG⟩:∃ wo:World,wo=wr:=⟨_,rfl⟩
      subst hwG;go_upto_region 22 with(fail)
      have G0:(wG.alloc (.cells (List.replicate nl (Value.int .u64 0)).toArray 34)).ownsRow 0 34 1 (.slice (some ⟨wG.heap.size,0,none⟩) nl nl) nl (List.replicate nl (Value.int .u64 0)):=World.ownsRow_lit wG (base:=0) (e:=34) (size:=1) (List.replicate nl (Value.int .u64 0)).toArray nl (Nat.zero_le _) (by unfold maxLen;omega) si;generalize hW9:World.alloc _ _=W9;have hbG0:Below wG.heap.size wG W9:=by rw[<-hW9];exact bal
      have eU:U64s (List.replicate nl 0)=List.replicate nl (Value.int .u64 0):=by simp[U64s]
      have G9:W9.ownsRow 0 34 1 (.slice (some ⟨wG.heap.size,0,none⟩) nl nl) nl (U64s (List.replicate ls.length 0)):=by rw[<-hW9,HL9.out,eU];first|exact G0|simpa using G0
      clear eU;have HG9:=qd G9;have HBG0:=qd hbG0;have hrG:=row_ltB HRr.out;have HR9:=qd (row_below hbG0 HRr.out);clear hW9 G0 G9 hbG0 f5 HRr hmg;have hz6G:=hbx.out.size;have HB6G:=hbx;have hz6w:=hbw6.size;clear hbx hzx hj;go_wp2;go_loopw [16,19,20,21] (fun r at_ fr n wx=>∃ (q kk:Nat) (f':Int) (v G:List Int) (g cap:Nat),q<=600/\n=.int .i64 q/\at_=.int .i64 kk/\fr=.int .i64 f'/\r=.slice (some ⟨g,0,none⟩) rg cap/\g≠wG.heap.size/\Hid (v.length=rg)/\Hid (wx.ownsRow 0 2 1 (.slice (some ⟨g,0,none⟩) rg cap) rg (Nums v))/\Hid (TOk m f s.inn kk f' v)/\Hid (AllInv m f s.inn ls kk f' v G)/\Hid (wx.ownsRow 0 34 1 (.slice (some ⟨wG.heap.size,0,none⟩) nl nl) nl (U64s G))/\Hid (Below wG.heap.size wG wx)) (fun _ _ _ n _=>600-(intOf n).toNat)
      case atStart=>exact⟨0,0,-1,v,_,w6.heap.size,rg,oz,rfl,rfl,rfl,rfl,oz,HVL,HR9,HTK,HAI,HG9,HBG0⟩
      case round =>
       clear HR9 HTK HAI HG9 HBG0 HVL;obtain⟨q,kk,f',v,G,g,cap,hq,rfl,rfl,rfl,rfl,hgg,HVL,HRv,HTK,HAI,HG,HBG⟩:=hrel;by_cases hqt:q<600
       ·have d5:(q:Int)<600:=oz
        have hwq:IntKind.i64.wrap ((q:Int)+1)=(q:Int)+1:=IntWalk.i64_in _ oz;have hkk:=HTK.out.lt;have hwk:IntKind.i64.wrap ((kk:Int)+1)=(kk:Int)+1:=IntWalk.i64_in _ oz;have hzx:=HBG.out.size;have hb6x:=HB6G.out.trans (HBG.out.mono hz6G);have hbwx:=hbw6.trans (hb6x.mono hz6w);have om:=own2 (OM6.out.below hb6x);have f5:=own5 (OF6.out.below hb6x);have HALL:Hid (∀ ans,In64 ans->∃ rr,(∀ w' (h:Below wr.heap.size wr w'),Calls Tryz.prog 13 #[.agg #[.slice ta tl tc,.slice (some ⟨fb,fo,none⟩) fl fc],.agg #[.string f.name,.slice pa pl pc,.int .i64 rg,.int .i64 f.words,.slice ca cl cc],.int .i64 kk,.slice (some ⟨g,0,none⟩) rg cap,.int .i64 ans] w' (StepPost w' rr))/\(∀ j,j<nl->0<=updC (ls.getD j default) kk f' (incB f kk rr) (G.getD j 0)/\updC (ls.getD j default) kk f' (incB f kk rr) (G.getD j 0)<=tripN m f s.inn (ls.getD j default))/\∀ nx v',rr=some (nx,v')->0<=nx/\v'.length=rg/\TOk m f s.inn nx.toNat kk v'/\AllInv m f s.inn ls nx.toNat kk v' (goneTo ls kk f' (incB f kk rr) G nl)):=qd (by
         have hf:=HFE.out;have hk:=HK.out;have hfine:=HFI.out;have htk:=HTK.out;have hai:=HAI.out;have hin:=HIN.out;have hbg:=HBG'.out;have hvl:=HVL.out;have hrow:=HRv.out;have hlc:=HLC.out;have hrg:=HRGT.out;have hfo:=HFo.out;have hl9:=HL9.out;subst hf;intro ans ha;have hok:=hin.ok kk htk.lt htk.inh.1;have hix:=hfine.ins k kk hk htk.lt;have hv64:∀ (v:List Int),InL (s.inn.getD kk []) v->∀ i,i<v.length->In64 (v.getD i 0):=fun v hv i hi=>by
          have h1:=hv.1;have h2:=hv.2 i oz;have h3:=hok.2 i (by have:=hok.1;omega);unfold InS at h2;have h4:=h3.1;have h5:=h3.2.1;unfold In64 at *;omega
         refine⟨stepR m (fnAt m k) kk v ans,fun w' h=>?_,fun j hj=>?_,fun nx v' hs=>?_⟩
         ·have h2:=rstep_any w.heap.size m ⟨pa,pl,pc,ca,cl,cc⟩ (fnAt m k) kk v g cap ans ta (some ⟨fb,fo,none⟩) tl tc fl fc w' (by have:=h.size;have:=hbwx.size;omega) (HMO.out w' (hbwx.trans (h.mono hbwx.size))) (hfo.same (Same.of (hbwx.trans (h.mono hbwx.size)) lr)) htk.lt hn hix (by rw[hvl,hrg]) oz (hv64 v htk.inh.2) hw1 (by rw[hvl];exact row_below h hrow);rw[hvl]at h2;unfold FuncVal at h2;rw[HRG.out]at h2;exact h2
         ·have h2:=all_bound hfine hk hin hbg hlc htk ha hai (j:=j) (by rw[hl9];exact hj);exact⟨h2.1,h2.2.1⟩
         ·have h2:=tok_step hfine hk hin htk ha hs;have h3:=all_step hfine hk hin hbg hlc htk ha hai hs;rw[hl9]at h3;have h4:=hin.ok nx.toNat h2.2.lt h2.2.inh.1;refine⟨h2.1,?_,h2.2,by rw[hs];exact h3⟩;rw[h2.2.inh.2.1,h4.1,hrg])
        go_upto_if 142 with(fail)
        go_cut [22] (fun v wc=>(∃ ans,v=.int .i64 ans/\In64 ans)/\wr=wc)
        case first =>
         rcases Nat.eq_zero_or_pos answers.length with hxn|hxn
         ·have d7:¬(0:Int)<(answers.length:Int):=oz
          clear hxn;go_wp2;go_meet;exact⟨⟨0,rfl,dc,dc⟩,rfl⟩
         ·have d7:(0:Int)<(answers.length:Int):=oz
          have d8:¬(answers.length:Int)=0:=oz
          obtain⟨-,hxm,xb,xo,hxb,hxc⟩:=HXA.out;obtain⟨rfl,hxB⟩:=hxb oz;have hql:q%answers.length<answers.length:=Nat.mod_lt _ oz;obtain⟨x0,x1⟩:=hxc _ hql;have x9:=(hbwx.cell (p:=⟨xb,xo+q%answers.length,none⟩) (by show xb<_;omega)).trans x0;have hxm':answers.length<=9223372036854775807:=hxm;have hmod:Int.tmod (q:Int) (answers.length:Int)=((q%answers.length:Nat):Int):=rfl;have hmw:IntKind.i64.wrap ((q%answers.length:Nat):Int)=((q%answers.length:Nat):Int):=IntWalk.i64_in _ oz;have d9:((q%answers.length:Nat):Int)<(answers.length:Int):=oz
          clear hxn;generalize answers.getD (q%answers.length) 0=ans at *;generalize q%answers.length=qm at *;go_wp2;go_meet;exact⟨⟨ans,rfl,x1⟩,rfl⟩
        case rest =>
         obtain⟨⟨ans,rfl,hans⟩,rfl⟩:=hcut;obtain⟨rr,hst,hbn,hnx⟩:=HALL.out ans hans;have HST:=qd hst;have HBN:=qd hbn;have HNX:=qd hnx;clear HALL hst hbn hnx hans;go_upto_region 31 with(first|(go_at_call 13;refine(HST.out _ (Below.refl _ _)).mono ?_;intro e w9 hsp;obtain⟨nx,nv,gs,rfl,hb9,hinc,hgo⟩:=step_split f kk hsp)|fail)
         have hz9:=hb9.size;have HG0:=qd (row_below hb9 HG.out);have HBG9:=qd (HBG.out.trans (hb9.mono hzx));have HGL:=qd (show G.length=nl by rw[HAI.out.len,HL9.out]);have hgbx:wG.heap.size<wr.heap.size:=row_lt HG.out rfl;have HGO:=qd hgo;have HINC:=qd hinc;clear hsp HST f5 om HG HBG hgo hinc;generalize hIC:incB f kk rr=inc at *;clear hIC;obtain⟨wO,hwO⟩:∃ wo:World,wo=wr:=⟨_,rfl⟩
         rw[<-hwO]at HGO hgbx hb9 hz9;clear hwO;go_wp2;go_loopw [26] (fun i wx=>∃ j:Nat,j<=nl/\i=.int .i64 j/\Hid (wx.ownsRow 0 34 1 (.slice (some ⟨wG.heap.size,0,none⟩) nl nl) nl (U64s (goneTo ls kk f' inc G j)))/\Hid (Chg (fun q=>q=wG.heap.size) w9 wx)) (fun i _=>nl-(intOf i).toNat)
         case atStart=>exact⟨0,Nat.zero_le _,rfl,qd (by rw[goneTo_zero];exact HG0.out),qd (Chg.refl _ _)⟩
         case round =>
          clear HG0;obtain⟨j,hj,rfl,HGj,hcx⟩:=hrel;have HBX:Hid (∀ W,Chg (fun q=>q=wG.heap.size) w9 W->Below wG.heap.size wG W/\Below w6.heap.size w6 W/\Below w.heap.size w W):=qd (fun W hW=>by
           have h1:=HBG9.out.trans (hW.below wG.heap.size HBG9.out.size (fun q hq e=>by omega));have h2:=HB6G.out.trans (h1.mono hz6G);exact⟨h1,h2,hbw6.trans (h2.mono hz6w)⟩)
          by_cases hjt:j<nl
          ·have d10:(j:Int)<(nl:Int):=oz
           have hwj:IntKind.i64.wrap ((j:Int)+1)=(j:Int)+1:=IntWalk.i64_in _ oz;obtain⟨-,hb6r,-⟩:=HBX.out wr hcx.out;have hjL:j<L.length:=by rw[<-HN9.out];exact hjt
           obtain⟨T,hT⟩:∃ T,L[j]? = some T:=⟨_,List.getElem?_eq_getElem hjL⟩
           have hTl:ls.getD j default=T.1:=by rw[<-HLM.out,List.getD_eq_getElem?_getD,List.getElem?_map,hT];rfl
           have hL':LoopsAt wr (.slice lva L.length lvc) L:=by rw[<-HN9.out];exact HL6.out.below hb6r
           obtain⟨lg,lcap,hv,-,-,hlgl⟩:=row_pos hL'.row oz;cases hv;obtain⟨i0,-,i2,-⟩:=hL'.cells hT;by_cases hd:T.1.head=kk
           ·have hTm:=List.mem_of_getElem? hT;have hlm:T.1∈ls:=by rw[<-HLM.out];exact List.mem_map.2 ⟨T,hTm,rfl⟩
            have hmr:=(hL'.each T hTm).1;obtain⟨ma,mc,em,n1⟩:=NumsAt.ofRow (B:=wr.heap.size) hmr (fun x hx=>by
             obtain⟨z,hz,hzl⟩:=HLN.out _ hlm x hx;unfold In64;omega) (fun z hz=>row_lt hmr hz)
            rw[em]at i2;rw[hd]at i0;have hq3:((kk:Int)!=(kk:Int))=false:=si
            have HHas:=qd (fun w' (hw:Below wr.heap.size wr w')=>rlhas_any wr.heap.size ma T.1.members.length mc T.1.members f' w' (n1.same (Same.of hw lr)) hw.size);have gj:(goneTo ls kk f' inc G j)[j]? = some (G.getD j 0):=by rw[goneTo_at (by rw[HGL.out];exact hjt),if_neg (by omega)]
            have g0c:=row_cell HGj.out (U64s_some gj);have g0z:=HGj.out.frozenAt j;obtain⟨u1,u2⟩:=HBN.out j hjt;have hup:updC (ls.getD j default) kk f' inc (G.getD j 0)=(if f'∈T.1.members then G.getD j 0 else 0)+(if inc then 1 else 0):=by unfold updC;rw[hTl,if_pos hd]
            have hset:=goneTo_set (ls:=ls) (k:=kk) (fr:=f') (inc:=inc) (G:=G) (i:=j);rw[hup]at hset u1 u2;have HTC:Hid (∀ W,Chg (fun q=>q=wG.heap.size) w9 W->(0<nl->∃ tb,tva=some ⟨tb,0,none⟩)/\∀ tb,tva=some ⟨tb,0,none⟩->W.cell? ⟨tb,j,none⟩=some (.int .u64 (tripN m f s.inn (ls.getD j default)))):=qd (fun W hW=>by
             have hr:=row_below (HBX.out W hW).2.1 HT6.out;refine⟨fun h=>?_,fun tb e=>?_⟩
             ·obtain⟨g,c,e,_⟩:=row_pos hr h;cases e;exact⟨g,rfl⟩
             ·subst e;refine row_cell hr (U64s_some ?_);rw[List.getElem?_map,List.getD_eq_getElem?_getD,List.getElem?_eq_getElem (show j<ls.length by rw[HL9.out];exact hjt)];rfl)
            obtain⟨tb,htb⟩:=(HTC.out wr hcx.out).1 oz;subst htb;have HTD:=qd (fun W hW=>(HTC.out W hW).2 tb rfl);have hlt:=len_lt (tripTo m f s.inn (ls.getD j default) (edgesL f));have hlt2:tripN m f s.inn (ls.getD j default)<18446744073709551616:=hlt;generalize tripN m f s.inn (ls.getD j default)=tj at *;obtain⟨-,-,⟨hcl,-,cb,co,hcb,hcells⟩,-,-⟩:=HFo.out;dsimp only at hcl hcb hcells;obtain⟨rfl,hcB⟩:=hcb oz;have cn0:=(hcells kk oz).1.2.2.2.2;generalize (f.code.getD kk default).n=N at *;have HCN:=qd (fun W hW=>((HBX.out W hW).2.2.cell (p:=⟨cb,co+kk*5+4,none⟩) (show cb<_ by omega)).trans cn0);have hkc:(kk:Int)<(cl:Int):=oz
            obtain⟨b1,hb1⟩:∃ b,(nx==(kk:Int)+1)=b:=⟨_,rfl⟩
            obtain⟨b2,hb2⟩:∃ b,(N != nx)=b:=⟨_,rfl⟩
            have hinc2:inc=(gs&&(b1&&b2)):=by
             rw[HINC.out,<-hb1,<-hb2];congr 2;by_cases h:N=nx
             ·simp[h]
             ·simp[h]
            have HNM:=qd (fun(h:f'∈T.1.members)=>show 0<=f' by
             obtain⟨z,hz,_⟩:=HLN.out _ hlm f' h;omega)
            clear hlt cn0 hcells hcb hL' hmr n1 hTm hlm hT HTC gj hjL;have hgw:wG.heap.size<wr.heap.size:=row_lt HGj.out rfl;obtain⟨g0,hg0⟩:∃ g0,(if f'∈T.1.members then G.getD j 0 else 0)=g0:=⟨_,rfl⟩
            rw[hg0]at hset u1 u2;have hg00:0<=g0:=by
             rw[<-hg0];split
             ·exact(HAI.out.each j (by rw[HL9.out];exact hjt)).le.1
             ·exact Int.le_refl 0
            have HNX2:Hid (inc=false->goneTo ls kk f' inc G (j+1)=(goneTo ls kk f' inc G j).set j g0):=qd (fun h=>by
             have e:(if inc=true then(1:Int)else 0)=0:=by rw[h];rfl
             rw[<-hset,e,Int.add_zero])
            have HNX3:Hid (inc=true->goneTo ls kk f' inc G (j+1)=(goneTo ls kk f' inc G j).set j (g0+1)):=qd (fun h=>by
             have e:(if inc=true then(1:Int)else 0)=1:=by rw[h];rfl
             rw[<-hset,e])
            have HLE:Hid ((inc=false->¬tj<g0)/\(inc=true->¬tj<g0+1/\IntKind.u64.wrap (g0+1)=g0+1)):=qd ⟨fun h=>by
             have e:(if inc=true then(1:Int)else 0)=0:=by rw[h];rfl
             rw[e]at u2;omega,fun h=>by
             have e:(if inc=true then(1:Int)else 0)=1:=by rw[h];rfl
             rw[e]at u2;refine⟨oz,?_⟩;rw[u64_wrap];omega⟩
            have HGZ:Hid (¬f'∈T.1.members->g0=0):=qd (fun h=>by rw[<-hg0,if_neg h]);have HGS:Hid (f'∈T.1.members->(goneTo ls kk f' inc G j).set j g0=goneTo ls kk f' inc G j):=qd (fun h=>by
             refine set_same ?_;rw[goneTo_at (by rw[HGL.out];exact hjt),if_neg (by omega),<-hg0,if_pos h])
            have f5:=own5 (OF6.out.below hb6r);have HUP1:(goneTo ls kk f' inc G (j+1))[j]? = some (g0+if inc=true then 1 else 0):=by rw[<-hset];exact List.getElem?_set_self (by rw[goneTo_len,HGL.out];exact hjt)
            have HIC2:=qd hinc2;clear hset u1 u2 hup hg0 hinc2 hTl em hd;obtain⟨cb2,hcb2⟩:∃ c,T.1.members.contains f'=c:=⟨_,rfl⟩
            rw[hcb2]at HHas;have HCB:Hid ((cb2=true->f'∈T.1.members)/\(cb2=false->¬f'∈T.1.members)):=qd ⟨fun h=>List.contains_iff_mem.1 (hcb2.trans h),fun h h2=>by rw[List.contains_iff_mem.2 h2]at hcb2;rw[h]at hcb2;cases hcb2⟩;have HUP2:Hid ((goneTo ls kk f' inc G (j+1))[j]? = some (g0+if inc=true then 1 else 0)):=qd HUP1;clear hcb2 HUP1;go_upto_region 35 with(fail)
            go_cut [27] (fun v wc=>v=.bool cb2/\wr=wc)
            case first =>
             by_cases hf0:0<=f'
             ·go_wp2_with (first|(go_at_call 14;refine(HHas.out _ (Below.refl _ _)).mono ?_;intro e w10 h10;obtain⟨rfl,h11⟩:=h10;have h12:=h11.symm;subst h12)|fail)
              go_meet;exact⟨rfl,rfl⟩
             ·have h3:cb2=false:=by
               cases h:cb2 with
               | false=>rfl
               | true=>exact absurd (HNM.out (HCB.out.1 h)) hf0
              subst h3;go_wp2;go_meet;exact⟨rfl,rfl⟩
            case rest =>
             obtain⟨rfl,hwc⟩:=hcut;subst hwc;clear HHas HNM;go_upto_if 185 with(fail)
             go_cut [] (fun wc=>Hid (wc.ownsRow 0 34 1 (.slice (some ⟨wG.heap.size,0,none⟩) nl nl) nl (U64s ((goneTo ls kk f' inc G j).set j g0)))/\Hid (Chg (fun q=>q=wG.heap.size) w9 wc))
             case first =>
              cases cb2
              ·have HZ0:=qd (HGZ.out (HCB.out.2 rfl));go_wp2;go_meet;exact⟨qd (by rw[<-U64s_set,HZ0.out];exact row_set HGj.out j (.int .u64 0)),qd (hcx.out.trans (Chg.setCell (S:=fun q=>q=wG.heap.size) (Chg.refl _ _) (p:=⟨wG.heap.size,j,none⟩) (.inl rfl) _))⟩
              ·have HZ1:=qd (HGS.out (HCB.out.1 rfl));go_wp2;go_meet;exact⟨qd (by rw[HZ1.out];exact HGj.out),hcx⟩
             case rest =>
              obtain⟨HRI,HCI⟩:=hcut;obtain⟨-,hb6I,-⟩:=HBX.out wc HCI.out;clear f5;have f5:=own5 (OF6.out.below hb6I);have nI:=HCN.out wc HCI.out;have gI:=row_cell HRI.out (U64s_some (List.getElem?_set_self (by rw[goneTo_len,HGL.out];exact hjt)));have zI:=HRI.out.frozenAt j;clear g0c g0z i0 i2 HGS HGZ HGj hcx hb6r hb6I HCB;obtain⟨wI,hwI⟩:∃ wo:World,wo=wc:=⟨_,rfl⟩
              subst hwI;go_upto_region 38 with(fail)
              go_cut [205] (fun v wc=>v=.bool inc/\wI=wc)
              case first =>
               cases gs
               ·have hin0:inc=false:=by rw[HIC2.out];rfl
                subst hin0;go_wp2;go_meet;exact⟨rfl,rfl⟩
               ·cases b1
                ·have hin0:inc=false:=by rw[HIC2.out];rfl
                 subst hin0;go_wp2;go_meet;exact⟨rfl,rfl⟩
                ·have hin0:inc=b2:=by rw[HIC2.out];cases b2<;>rfl
                 subst hin0;go_wp2;go_meet;exact⟨rfl,rfl⟩
              case rest =>
               obtain⟨rfl,hwc⟩:=hcut;subst hwc;go_upto_if 205 with(fail)
               go_cut [] (fun wc=>Hid (wc.ownsRow 0 34 1 (.slice (some ⟨wG.heap.size,0,none⟩) nl nl) nl (U64s (goneTo ls kk f' inc G (j+1))))/\Hid (Chg (fun q=>q=wG.heap.size) w9 wc))
               case first =>
                clear HIC2;cases inc
                ·have HNXT:=qd (HNX2.out rfl);go_wp2;go_meet;exact⟨qd (by rw[HNXT.out];exact HRI.out),HCI⟩
                ·have HNXT:=qd (HNX3.out rfl);have hw1:=(HLE.out.2 rfl).2;go_wp2;go_meet;exact⟨qd (by rw[HNXT.out,<-List.set_set (a:=g0),<-U64s_set];exact row_set HRI.out j (.int .u64 (g0+1))),qd (HCI.out.trans (Chg.setCell (S:=fun q=>q=wG.heap.size) (Chg.refl _ _) (p:=⟨wG.heap.size,j,none⟩) (.inl rfl) _))⟩
               case rest =>
                obtain⟨HRJ,HCJ⟩:=hcut;have gJ:=row_cell HRJ.out (U64s_some HUP2.out);have tJ:=HTD.out wc HCJ.out;have hle:¬tj<g0+(if inc=true then 1 else 0):=by
                 cases hi:inc
                 ·have:=HLE.out.1 hi;simpa using this
                 ·have:=(HLE.out.2 hi).1;simpa using this
                generalize (g0+(if inc=true then(1:Int)else 0))=gx at *;clear nI gI zI f5;go_upto_region 40 with(fail)
                refine wp_still 8 kr kr ?_;simp only[TD];repeat(refine WS_step (fun K hK=>?_);go_simp;refine hK _ ?_;clear hK K)
                refine WS_nil ?_;go_wp2
                go_roundw
                case rel=>exact⟨j+1,oz,si,qd (by first|exact HRJ.out|exact row_below (Below.refl _ _).drew HRJ.out),qd (by first|exact HCJ.out|exact HCJ.out.trans (Chg.of (Below.refl _ _).drew))⟩
                case measure=>go_light;exact ml
           ·have hq3:((T.1.head:Int)!=(kk:Int))=true:=by simp;omega
            have hsm:goneTo ls kk f' inc G (j+1)=goneTo ls kk f' inc G j:=goneTo_same (by rw[hTl];exact hd);have HSM:=qd hsm;clear hsm hL' i2 hT;go_wp2;refine⟨⟨j+1,oz,si,qd (by rw[HSM.out];exact HGj.out),hcx⟩,?_⟩;go_light;exact ml
          ·obtain rfl:j=nl:=oz
           have d10:¬(j:Int)<(j:Int):=oz
           obtain⟨hbGr,-,hbwr⟩:=HBX.out wr hcx.out;rcases HGO.out with⟨hgs,-⟩|⟨v',ob,oc,hgs,hrr,hnv,hobl,hrow'⟩
           ·subst hgs;go_wp2
            try rw[Exit.noGoto_ret]
            go_ret;exact⟨rfl,hbwr⟩
           ·subst hgs;obtain⟨n1,n2,n3,n4⟩:=HNX.out nx v' hrr;rw[n2]at hnv hrow';subst hnv;obtain⟨nk,rfl⟩:=Int.eq_ofNat_of_zero_le n1;rw[Int.toNat_natCast]at n3 n4;have HN3:=qd n3;have HN4:=qd n4;have HN2:=qd n2;have hobg:ob≠wG.heap.size:=oz
            have HRW:=qd (row_chg hcx.out hrow' (fun z hz e=>by have e2:ob=z:=ob1 hz;omega));clear n3 n4 n2 hrr hrow' HGO HNX HBN;go_wp2;refine⟨⟨q+1,nk,kk,v',_,ob,oc,oz,si,rfl,rfl,rfl,hobg,HN2,HRW,HN3,HN4,HGj,qd hbGr⟩,?_⟩;go_light;exact ml
       ·obtain rfl:q=600:=oz
        have d5:¬((600:Nat):Int)<600:=oz
        go_wp2
        try rw[Exit.noGoto_ret]
        go_ret;exact⟨rfl,hbw6.trans ((HB6G.out.trans (HBG.out.mono hz6G)).mono hz6w)⟩
   ·generalize (findP f).2.1=ge at *;have q1:(ge != 0)=true:=by simpa using hg
    clear hg HTR HT6 ht2 HFK HFN;go_wp2
    try rw[Exit.noGoto_ret]
    go_ret;exact⟨rfl,hbw6⟩
  ·have hfn':fn<0\/(m.funcs.length:Int)<=fn:=oz
   have HT:=qd (fun w' (h:Below w.heap.size w w')=>trips_arg w.heap.size m fn ta fa tl tc fl fc w' h.size hr1 (HMO.out w' h) (HR.out w' h) he hfn');rw[he]at HMy;generalize (mayP m).f=mf at *;generalize (mayP m).at_=ma at *;rw[hfl1]at hfn';have hln:¬fn<0->(fl:Int)<=fn:=fun h=>by omega
   clear he hfn;go_enter Tryz.func4,Tryz.ntmps4;go_upto_region 5 with(first|(go_at_call 9;refine(HF.out _ bel).mono ?_;rintro e w1 ⟨rfl,hb1⟩;have hba:Below w.heap.size w w1:=bal.trans (hb1.mono si);have OM1:=qd ((Own.new w [.slice ta tl tc,.slice fa fl fc] 25).below hb1);have om:=own2 OM1.out)|(go_at_call 6;refine(HT.out _ hba).mono ?_;rintro e w2 ⟨rfl,hb2⟩;have hbb:=hba.trans (hb2.mono hba.size);have OM2:=qd (OM1.out.below hb2);have om2:=own2 OM2.out)|(go_at_call 11;refine(HMy.out _ hbb).mono ?_;rintro e w3 ⟨rfl,hb3⟩)|fail)
   have hbc:=hbb.trans (hb3.mono hbb.size);generalize hW4:World.alloc _ _=W4;have hb4:Below w3.heap.size w3 W4:=by rw[<-hW4];exact bal
   have OE:Own W4 w3.heap.size [.int .i64 0,.int .i64 mf,.int .i64 ma]:=by rw[<-hW4];exact Own.new _ _ _
   have hz3:=hb3.size;have hz2:=hb2.size;have om4:=own2 ((OM2.out.below hb3).below hb4);have x3:=own3 OE;have hbw:=hbc.trans (hb4.mono hbc.size);clear hW4 om om2 HT HMy HF;by_cases h0:fn<0
   ·go_wp2
    try rw[Exit.noGoto_ret]
    go_ret;exact⟨rfl,hbw⟩
   ·have h1:=hln oz;go_wp2
    try rw[Exit.noGoto_ret]
    go_ret;exact⟨rfl,hbw⟩
 ·have HT:=qd (fun w' (h:Below w.heap.size w w')=>trips_bad w.heap.size m fn ta fa tl tc fl fc w' h.size hr1 (HMO.out w' h) (HR.out w' h) he);generalize (mayP m).f=mf at *;generalize (mayP m).at_=ma at *;generalize (mayP m).e=me at *;have q1:(me != 0)=true:=by simpa using he
  clear he;go_enter Tryz.func4,Tryz.ntmps4;go_upto_region 5 with(first|(go_at_call 9;refine(HF.out _ bel).mono ?_;rintro e w1 ⟨rfl,hb1⟩;have hba:Below w.heap.size w w1:=bal.trans (hb1.mono si);have OM1:=qd ((Own.new w [.slice ta tl tc,.slice fa fl fc] 25).below hb1);have om:=own2 OM1.out)|(go_at_call 6;refine(HT.out _ hba).mono ?_;rintro e w2 ⟨rfl,hb2⟩;have hbb:=hba.trans (hb2.mono hba.size);have OM2:=qd (OM1.out.below hb2);have om2:=own2 OM2.out)|(go_at_call 11;refine(HMy.out _ hbb).mono ?_;rintro e w3 ⟨rfl,hb3⟩)|fail)
  have hbc:=hbb.trans (hb3.mono hbb.size);generalize hW4:World.alloc _ _=W4;have hb4:Below w3.heap.size w3 W4:=by rw[<-hW4];exact bal
  have OE:Own W4 w3.heap.size [.int .i64 me,.int .i64 mf,.int .i64 ma]:=by rw[<-hW4];exact Own.new _ _ _
  have x3:=own3 OE;have hbw:=hbc.trans (hb4.mono hbc.size);clear hW4 om om2 HT HMy HF;go_wp2
  try rw[Exit.noGoto_ret]
  go_ret;exact⟨rfl,hbw⟩
end Go.Proofs.YteebpnbdihcfmaaGreatDoor
