/- bounds; trips; What the laws of trips -/
import Derived.Test.YteebpnbdihcfmaaGreatDoorJ24
import Derived.Test.YteebpnbdihcfmaaGreatDoorJ19
import Derived.Laws.EntriesVeiled
set_option linter.unusedVariables false
set_option linter.unusedSimpArgs false
set_option maxRecDepth 100000
set_option maxHeartbeats 20000000
namespace Go.Proofs.YteebpnbdihcfmaaGreatDoor
open Go.RowKit
section
attribute [local go_sem] Oper.semAt_some
theorem aCx {p:Prop}(h:p:=by
 show w.heap.size+1≠w1.heap.size;omega):p:=h
theorem aHq {p:Prop}(h:p:=by
 intro x y w
 first|rfl|(simp[Instr.field,go_sem])):p:=h
theorem aSn (B:Nat) (m:bA) (fn:Int) (ta fa:Option Addr) (tl tc fl fc:Nat) (w:World) (hB:B<=w.heap.size) (hB0:0<B) (hmo:cP B w (.agg #[.slice ta tl tc,.slice fa fl fc]) m) (hr:eO w) (he:(dS m).e≠0) :
 Calls Tryz.prog 16 #[.agg #[.slice ta tl tc,.slice fa fl fc],.int .i64 fn] w fun e w'=>e=.returned (.tuple #[.agg #[.slice none 0 0,.slice none 0 0],.int .i64 (dS m).e])/\Below w.heap.size w w':=by
 have HM:=qd hmo;have HRW:=qd hr;have HMay:=qd (fun w' hw hr'=>yE B (.agg #[.slice ta tl tc,.slice fa fl fc]) m w' hw hB0 hr');obtain⟨fe,hfe⟩:∃ q,(dS m).e=q:=⟨_,rfl⟩
 rw[hfe]at he HMay ⊢;have hq:(fe != 0)=true:=by simpa using he
 have HFE:=qd hfe;clear hfe;obtain⟨_,_,_,_,_,_,hv,⟨htl,htm,-⟩,hfs⟩:=hmo;cases hv;obtain⟨hfl1,hfl2,-⟩:=hfs;clear hr;refine(callsIn_wide (n:=3)).1 ?_;refine callsIn_of_wp_marks Tryz.func16 rfl trivial ?_ rfl;refine wpIn_wide.2 ?_;simp only[Tryz.ntmps16,List.size_toArray,List.length_cons,List.length_nil,Nat.reduceAdd,Nat.reduceSub,Array.replicate_succ,Array.replicate_zero,List.push_toArray,List.append_toArray,List.nil_append,List.cons_append];go_wp2;generalize hW0:World.alloc _ _=W0;have hb0:Below w.heap.size w W0:=by rw[<-hW0];exact bel
 have OM:aF W0 w.heap.size [.slice ta tl tc,.slice fa fl fc]:=mR
 have OA:aF W0 (w.heap.size+1) [.slice none 0 0,.slice none 0 0]:=lG
 have hz0:w.heap.size+2=W0.heap.size:=by rw[<-hW0];simp
 have hz0':w.heap.size+2<=W0.heap.size:=oz
 have m2:=aD OM;have HC:=qd (HMay.out W0 oz (HM.out.same (aQ.of hb0 hB)) (HRW.out.same (aQ.of hb0 lr) HRW.out.1 hb0.size));clear hW0 HMay hz0;go_step3;have hfd:∀ (x y:Int) (w:World),(Instr.field 37 (.agg #[.int .i64 fe,.int .i64 x,.int .i64 y]) 0).run Tryz.prog w=.ok (.int .i64 fe) w:=by
  exact aHq
 go_upto_region 3 with(first|(go_at_call 44;refine HC.out.mono ?_;rintro e w1 ⟨rfl,hb1⟩;have m2b:=aD (OM.below hb1);have OA1:=OA.below hb1;clear m2)|fail)
 have hbe:Below w.heap.size w w1:=hb0.trans (hb1.mono oz);have hz1:=hb1.size;generalize hW2:World.alloc _ _=W2;obtain⟨hb2,OF2,hz2⟩:=aJh hW2;have OA2:=OA1.below hb2;have a2:=aD OA2;have sa:=cQ OA2;have q5:=gV OF2;have hbw2:=hbe.trans (hb2.mono hbe.size);have OA9:aF ((W2.setCell ⟨w.heap.size+1,0,none⟩ (.slice none 0 0)).setCell ⟨w.heap.size+1,1,none⟩ (.slice none 0 0)) (w.heap.size+1) [.slice none 0 0,.slice none 0 0]:=qR OA2;have hb9:Below w.heap.size w ((W2.setCell ⟨w.heap.size+1,0,none⟩ (.slice none 0 0)).setCell ⟨w.heap.size+1,1,none⟩ (.slice none 0 0)):=(hbw2.setCell (p:=⟨w.heap.size+1,0,none⟩) xH _).setCell (p:=⟨w.heap.size+1,1,none⟩) xH _;have hS9:((W2.setCell ⟨w.heap.size+1,0,none⟩ (.slice none 0 0)).setCell ⟨w.heap.size+1,1,none⟩ (.slice none 0 0)).cell? ⟨w1.heap.size,0,none⟩=some (.int .i64 fe):=(gV ((OF2.setOther (p:=⟨w.heap.size+1,0,none⟩) _ aCx).setOther (p:=⟨w.heap.size+1,1,none⟩) _ aCx)).2.1;have HSS:Hid (∀ w':World,w'.cell? ⟨w1.heap.size,0,none⟩=some (.int .i64 fe)->w'.cell? ⟨w1.heap.size,0,none⟩=some (.int .i64 fe)):=qd (fun _ h=>h);clear hW2 HC OM OA OA1 OF2 m2b HM HRW;generalize hA0:(Act.mk _ _:Act)=a0;have Ee:a0.eval (.tmp 4)=.pointer (some ⟨w.heap.size+1,0,none⟩)/\a0.eval (.tmp 6)=.pointer (some ⟨w1.heap.size,0,none⟩)/\a0.tmps.size=143:=qB
 refine aE (fun w'=>w'.cell? ⟨w1.heap.size,0,none⟩=some (.int .i64 fe)) kr (q5.2.1) ?_;intro K0 hK0 hHeld
 try dsimp only at hHeld
 refine aL 0 rfl ?_;refine aL 1 rfl ?_;refine aL 2 rfl ?_;generalize hA1:(Act.put _ _ _:Act)=a1;replace Ee:a1.eval (.tmp 4)=.pointer (some ⟨w.heap.size+1,0,none⟩)/\a1.eval (.tmp 21)=.agg #[.slice none 0 0,.slice none 0 0]/\a1.eval (.tmp 23)=.int .i64 fe/\a1.tmps.size=143:=oZ;refine fD 3 rfl fun K hK=>?_;refine pA ?_;have h9:(((W2.drew).setCell ⟨w.heap.size+1,0,none⟩ (.slice none 0 0)).setCell ⟨w.heap.size+1,1,none⟩ (.slice none 0 0)).cell? ⟨w1.heap.size,0,none⟩=some (.int .i64 fe):=hS9;refine hK.out _ _ (hS9) fun hHeld=>?_;clear hK K;refine aL 4 rfl ?_;refine aO kr ?_;refine hK0.out _ _ ?_;subst hA1;subst hA0;clear Ee;simp only[GE,Act.put,SU];go_wp2
 try rw[Exit.noGoto_ret]
 have a9:=aD OA9;refine⟨.tuple #[.agg #[.slice none 0 0,.slice none 0 0],.int .i64 fe],by simp[results,Tryz.results16,go_sem,a9.2.1,a9.2.2.1],rfl,?_⟩
 first|exact hb9|exact hb9.drew
end
section
attribute [local go_sem] Oper.semAt_some
theorem aCl (B:Nat) (m:bA) (fn:Int) (ta fa:Option Addr) (tl tc fl fc:Nat) (w:World) (hB:B<=w.heap.size) (hB0:0<B) (hmo:cP B w (.agg #[.slice ta tl tc,.slice fa fl fc]) m) (hr:eO w) (he:(dS m).e=0) (hfn:fn<0\/(m.funcs.length:Int)<=fn) :
 Calls Tryz.prog 6 #[.agg #[.slice ta tl tc,.slice fa fl fc],.int .i64 fn] w fun e w'=>e=.returned (.tuple #[.slice none 0 0,.int .i64 1])/\Below w.heap.size w w':=by
 have HM:=qd hmo;have HRW:=qd hr;have HRun:=qd (fun w' hB hmo hr=>aTi B m fn ta fa tl tc fl fc w' hB hB0 hmo hr he hfn);clear hmo hr;refine(callsIn_wide (n:=3)).1 ?_;refine callsIn_of_wp_marks Tryz.func6 rfl trivial ?_ rfl;refine wpIn_wide.2 ?_;simp only[Tryz.ntmps6,List.size_toArray,List.length_cons,List.length_nil,Nat.reduceAdd,Nat.reduceSub,Array.replicate_succ,Array.replicate_zero,List.push_toArray,List.append_toArray,List.nil_append,List.cons_append];go_upto_region 1 with(fail)
 generalize hW0:World.alloc _ _=W0;have hb0:Below w.heap.size w W0:=by rw[<-hW0];exact bel
 have OM:aF W0 w.heap.size [.slice ta tl tc,.slice fa fl fc]:=mR
 have OI:aF W0 (w.heap.size+1) [.int .i64 fn]:=lG
 have hz0:w.heap.size+2=W0.heap.size:=by rw[<-hW0];simp
 have hz0':w.heap.size+2<=W0.heap.size:=oz
 have m2:=aD OM;have i1:=dG OI;have HC:=qd (HRun.out W0 oz (HM.out.same (aQ.of hb0 hB)) (HRW.out.same (aQ.of hb0 lr) HRW.out.1 hb0.size));clear hW0 HRun hz0;go_wp2_with (first|(go_at_call 16;refine HC.out.mono ?_;rintro e w1 ⟨rfl,hb1⟩)|fail)
 try rw[Exit.noGoto_ret]
 have hbe:Below w.heap.size w w1:=hb0.trans (hb1.mono oz);refine⟨.tuple #[.slice none 0 0,.int .i64 1],by simp[results,Tryz.results6,go_sem],rfl,?_⟩
 first|exact hbe.alloc hbe.size _|exact(hbe.alloc hbe.size _).drew|exact hbe
end
/-- what Edge hands back -/
def aN4 (w:World) (rg:Nat) (res:Option (List aB)) (e:Ending) (w':World):Prop:=∃ v,e=.returned (.tuple #[v,.bool res.isSome])/\Below w.heap.size w w'/\∀ out,res=some out->∃ g cap,v=.slice (some ⟨g,0,none⟩) rg cap/\bF w' g rg cap out/\w.heap.size<=g
theorem aS1 (B:Nat) (m:bA) (fn x:Nat) (to_:Int) (ta fa:Option Addr) (tl tc fl fc b c rg:Nat) (r:List aB) (w:World) (hB:B<=w.heap.size) (hB0:0<B) (hmo:cP B w (.agg #[.slice ta tl tc,.slice fa fl fc]) m) (hr:eO w) (he:(dS m).e=0) (hfn:fn<m.funcs.length) (hrg:(bX m fn).regs=rg)
 (hx:x<(bX m fn).code.length) (hto:to_∈aY (bX m fn) x) (hin:bF w b rg c r) (hrok:gU rg r) :
 Calls Tryz.prog 24 #[.agg #[.slice ta tl tc,.slice fa fl fc],.int .i64 fn,.int .i64 x,.int .i64 to_,.slice (some ⟨b,0,none⟩) rg c] w (aN4 w rg (gP m (bX m fn) x to_ r)):=by
 have HM:=qd hmo;have HRW:=qd hr;have HIN:=qd hin;have HMay:=qd (fun w' hw hr'=>yE B (.agg #[.slice ta tl tc,.slice fa fl fc]) m w' hw hB0 hr');rw[he]at HMay;obtain⟨_,_,_,_,_,_,hv,⟨htl,htm,-⟩,hfs⟩:=hmo;cases hv;obtain⟨hfl1,hfl2,fb,fo,hfb,H,hH⟩:=hfs;obtain⟨rfl,hfbB⟩:=hfb oz;obtain⟨hcells,hfo⟩:=hH fn oz;have hfine:=nE he;have hff1:=hfine.fn fn hfn;have hif:=hfine.ins fn x hfn hx;have hfe:m.funcs.getD fn default=bX m fn:=rfl;rw[hfe]at hcells hfo;generalize H fn=hh at *;generalize bX m fn=f at *;obtain⟨pa,pl,pc,ca,cl,cc⟩:=hh;have hcl:f.code.length=cl:=hfo.2.2.1.1;subst hcl;obtain⟨g0,g1,g2,g3,g4⟩:=hcells;dsimp only at g0 g1 g2 g3 g4;rw[hrg]at g2;have hrg0:0<rg:=by have:=hff1.r1;omega
 have hrg64:rg<=64:=by have:=hff1.r2;omega
 have hn1:f.code.length<=1024:=hff1.c2;have hfnl:(fn:Int)<(fl:Int):=oz
 have q1:¬(fn:Int)<0:=oz
 have q2:decide ((fl:Int)<=(fn:Int))=false:=by simp;omega
 have q3:decide ((fn:Int)<0)=false:=si
 have q4:((rg:Int)!=(rg:Int))=false:=si
 have HFO:=qd hfo;have HRG:=qd hrg;have HIF:=qd hif;have HTO:=qd hto;have HROK:=qd hrok;have hbl:=hin.lt;have hfbw:fb<w.heap.size:=oz
 clear hH hfb hfo hfine hff1 hif hrg hto hfe hin hr;obtain⟨RES,hRES⟩:∃ q,gP m f x to_ r=q:=⟨_,rfl⟩
 rw[hRES];have HRES:=qd hRES;clear hRES;have hfd:∀ (x y:Int) (w:World),(Instr.field 37 (.agg #[.int .i64 0,.int .i64 x,.int .i64 y]) 0).run Tryz.prog w=.ok (.int .i64 0) w:=by
  exact aHq
 go_enter Tryz.func24,Tryz.ntmps24;go_upto_region 1 with(fail)
 generalize hW0:World.alloc _ _=W0;have hb0:Below w.heap.size w W0:=by rw[<-hW0];exact bel
 have OM:aF W0 w.heap.size [.slice ta tl tc,.slice (some ⟨fb,fo,none⟩) fl fc]:=uS
 have hz0:w.heap.size+1<=W0.heap.size:=by rw[<-hW0];simp
 have m2:=aD OM;have HC:=qd (HMay.out W0 oz (HM.out.same (aQ.of hb0 hB)) (HRW.out.same (aQ.of hb0 lr) HRW.out.1 hb0.size));clear hW0 HMay;go_upto_region 3 with(first|(go_at_call 44;refine HC.out.mono ?_;rintro e w1 ⟨rfl,hb1⟩;have m2b:=aD (OM.below hb1);clear m2)|fail)
 have hz1:=hb1.size;have hb01:Below w.heap.size w w1:=hb0.trans (hb1.mono oz);have OM1:=OM.below hb1;have sm:=aQ.of hb01 hB;rw[<-sm _ _ (by show fb<B;omega)]at g0 g1 g2 g3 g4;go_upto_region 4 with(fail)
 generalize hW2:World.alloc _ _=W2;have hb12:Below w1.heap.size w1 W2:=by rw[<-hW2];exact eN
 have OF:aF W2 w1.heap.size [.string f.name,.slice pa pl pc,.int .i64 rg,.int .i64 f.words,.slice ca f.code.length cc]:=uR
 have hz2:w1.heap.size+1<=W2.heap.size:=by rw[<-hW2];simp
 have hb2:Below w.heap.size w W2:=hb01.trans (hb12.mono oz);have OM2:=OM1.below hb12;have f5:=aX OF;have hnx:=qO B ⟨pa,pl,pc,ca,f.code.length,cc⟩ f x W2 oz (HFO.out.same (aQ.of hb2 hB)) hx;unfold aI at hnx;dsimp only at hnx;rw[HRG.out]at hnx;have HNX:=qd hnx;clear hW2 hnx g0 g1 g2 g3 g4 sm m2b HC;have hin64:∀ y∈aY f x,aM y:=fun y hy=>by have:=gQ f x y hy;unfold aM;omega
 have hct:(aY f x).contains to_=true:=by rw[List.contains_iff_mem];exact HTO.out
 have HCT:=qd hct;have H64:=qd hin64;clear hct hin64;generalize aY f x=nl at *;go_upto_region 6 with(first|(go_at_call 46;refine HNX.out.mono ?_;rintro e w3 ⟨nv,rfl,hb3,hr3,hf3,hn3⟩;obtain⟨na,nc,hnv,hna⟩:=cI.ofRow (B:=w3.heap.size) hr3 H64.out (fun k hk=>cA hr3 hk);subst hnv;have hci:=tC na nl.length nc nl to_ _ w3 hna;rw[HCT.out]at hci;have f5b:=aX (OF.below hb3);clear f5)|(go_at_call 23;refine hci.mono ?_;rintro e w4 ⟨rfl,hw4⟩;have hw5:=hw4.symm;subst hw5)|fail)
 have hz3:=hb3.size;have hb03:Below w.heap.size w w3:=hb2.trans (hb3.mono oz);have OM3:=qd (OM2.below hb3);have OF3:=qd (OF.below hb3);clear hr3 hf3 hn3 hna hci f5b OM2 OF HNX OM1 OM;go_wp2;go_loopw [51] (fun i wx=>∃ j:Nat,j<=rg/\i=.int .i64 j/\Below w3.heap.size w3 wx) (fun i _=>rg-(intOf i).toNat)
 case atStart=>exact⟨0,Nat.zero_le _,rfl,Below.refl _ _⟩
 case round =>
  obtain⟨j,hj,rfl,hbx⟩:=hrel;have hzx:=hbx.size;have hbwx:Below w.heap.size w wr:=hb03.trans (hbx.mono oz);have HINx:=qd (HIN.out.below hbwx);by_cases hjt:j<rg
  ·have d3:(j:Int)<(rg:Int):=oz
   have hwj:IntKind.i64.wrap ((j:Int)+1)=(j:Int)+1:=IntWalk.i64_in _ oz;obtain⟨c0,c1,-,-⟩:=HINx.out.cells hjt;have hsp:=(HROK.out.2 j hjt).2.2;generalize r.getD j default=pp at *;obtain⟨plo,phi⟩:=pp;dsimp only at c0 c1 hsp;have hsp2:¬phi<plo:=oz
   go_wp2;refine⟨⟨j+1,oz,si,hbx.trans (Below.mono eN hzx)⟩,?_⟩;go_light;exact ml
  ·obtain rfl:j=rg:=oz
   have d3:¬(j:Int)<(j:Int):=oz
   have hlen:(bL r).length=j*2:=by rw[fT,HINx.out.len]
   have HSRC:=qd (aVg (w:=wr) (bL r) b 0 (fun q u hu=>by rw[Nat.zero_add];exact HINx.out.src q u hu));have HAw:Hid (∀ w' g2 c2,Below w.heap.size w w'->bF w' g2 j c2 r->B<=g2->Calls Tryz.prog 47 #[.agg #[.slice ta tl tc,.slice (some ⟨fb,fo,none⟩) fl fc],.agg #[.string f.name,.slice pa pl pc,.int .i64 j,.int .i64 f.words,.slice ca f.code.length cc],.int .i64 x,.int .i64 to_,.slice (some ⟨g2,0,none⟩) j c2] w' (dX g2 j c2 w' RES)):=qd (fun w' g2 c2 hw hs hob=>by
    have h:=aEt (f.code.getD x default) B m ⟨pa,pl,pc,ca,f.code.length,cc⟩ f ta (some ⟨fb,fo,none⟩) tl tc fl fc x to_ g2 j c2 r w' (Nat.le_trans hB hw.size) (HFO.out.same (aQ.of hw hB)) hx hn1 rfl HIF.out hs HRG.out.symm hrg64 HROK.out (HM.out.same (aQ.of hw hB)) hob;rw[HRES.out]at h;unfold aI at h;dsimp only at h;rw[HRG.out]at h;exact h)
   have OMx:=qd (OM3.out.below hbx);have OFx:=qd (OF3.out.below hbx);go_upto_region 13 with(first|(at_builtin;refine bO rfl (.const (.slice none 0 0)) (.tmp 61) 39 47 2 16 (.agg #[.int .i64 0,.int .i64 0]) rfl Tryz.underlying39 Tryz.infoSp rfl dc (.slice none 0 0) 0 [] rfl (World.ownsRow_nil _ _ _ _) ⟨b,0,none⟩ j c (bL r) rfl hlen HSRC.out (gL r) bH oz hrg0 ?_;intro g cap w5 hr5 hc5 hg5)|fail)
   rw[Nat.zero_add,List.nil_append]at hr5;have hb5:Below wr.heap.size wr w5:=hc5.below _ lr (fun k _ e=>by cases e);have hz5:=hb5.size;have hg5':g=wr.heap.size:=by
    rcases hg5 with h|h
    ·cases h
    ·exact h
   have hb05:Below w.heap.size w w5:=hbwx.trans (hb5.mono oz);have hs5:bF w5 g j cap r:=⟨_,hr5⟩
   have HA5:=qd (HAw.out w5 g cap hb05 hs5 oz);have m5:=aD (OMx.out.below hb5);have f5:=aX (OFx.out.below hb5);have hgw:w.heap.size<=g:=oz
   clear hr5 hc5 hg5 hg5' HAw hs5 HSRC hlen
   try rw[Nat.zero_add]
   cases RES with
   | none =>
    go_wp2_with (first|(go_at_call 47;refine HA5.out.mono ?_;rintro e w6 ⟨rfl,hc6,hs6⟩)|fail)
    try rw[Exit.noGoto_ret]
    go_ret2;exact⟨_,rfl,hb05.trans (hc6.below _ hb05.size (fun k hk e=>by have e2:k=g:=e;omega)),fun out ho=>by cases ho⟩
   | some out =>
    go_wp2_with (first|(go_at_call 47;refine HA5.out.mono ?_;rintro e w6 ⟨rfl,hc6,hs6⟩)|fail)
    try rw[Exit.noGoto_ret]
    go_ret2;exact⟨_,rfl,hb05.trans (hc6.below _ hb05.size (fun k hk e=>by have e2:k=g:=e;omega)),fun out' ho=>by cases ho;exact⟨g,cap,rfl,hs6 _ rfl,hgw⟩⟩
section
theorem bR.keep {W W':World}{v:Value}{L:List jR}{S:Nat->Prop}(h:bR W v L) (hc:aG S W W') (q:Nat) (hq:W.heap.size<=q\/∀ x,S x->q<=x) (hS:∀ x,S x->q<=x) (hv:∀ k,v.ownBlock=some k->k<q) (hl:∀ t∈L,(∀ k,t.2.1.ownBlock=some k->k<q)/\∀ k,t.2.2.ownBlock=some k->k<q):bR W' v L :=
 ⟨aN hc h.row (fun k hk e=>by have:=hv k hk;have:=hS k e;omega),fun t ht=>⟨aN hc (h.each t ht).1 (fun k hk e=>by have:=(hl t ht).1 k hk;have:=hS k e;omega),aN hc (h.each t ht).2 (fun k hk e=>by have:=(hl t ht).2 k hk;have:=hS k e;omega)⟩,h.dis⟩
/-- what stays: q is behind all of it -/
structure TI (N:Nat) (A:yU) (n rg mb ib ab fx:Nat) (mv fv av:List Value) (fn:Nat) (v:Value) (L:List jR) (s:fF) (w0:World) (q:Nat) (W:World):Prop where
 cm:aF W mb mv
 ci:aF W ib [.int .i64 fn]
 ca:aF W ab av
 cf:aF W fx fv
 l:bR W v L
 b:kR N W A n rg s
 be:Below w0.heap.size w0 W
 lq:mb<q/\ib<q/\ab<q/\fx<q/\w0.heap.size<=q/\q<=W.heap.size
 lv:∀ k,v.ownBlock=some k->k<q
 ll:∀ t∈L,(∀ k,t.2.1.ownBlock=some k->k<q)/\∀ k,t.2.2.ownBlock=some k->k<q
 lt:∀ x,q<=x->A.tg x=0
section
variable {N : Nat} {A : yU} {n rg mb ib ab fx : Nat} {mv fv av : List Value} {fn : Nat} {v : Value} {L : List jR} {s : fF} {w0 : World} {q : Nat} {W W' : World} {S : Nat -> Prop}
theorem TI.keep (h:TI N A n rg mb ib ab fx mv fv av fn v L s w0 q W) (hc:aG S W W') (hS:∀ x,S x->q<=x):TI N A n rg mb ib ab fx mv fv av fn v L s w0 q W':=by
 obtain⟨l1,l2,l3,l4,l5,l6⟩:=h.lq;have no:∀ x,x<q->¬S x:=fun x hx e=>by have:=hS x e;omega
 exact⟨hc.own h.cm (no _ l1),hc.own h.ci (no _ l2),hc.own h.ca (no _ l3),hc.own h.cf (no _ l4),h.l.keep hc q (.inr hS) hS h.lv h.ll,h.b.keep hc (fun x e=>h.lt x (hS x e)),h.be.trans (hc.below _ h.be.size (fun k hk e=>by have:=hS k e;omega)),⟨l1,l2,l3,l4,l5,Nat.le_trans l6 hc.size⟩,h.lv,h.ll,h.lt⟩
theorem TI.below (h:TI N A n rg mb ib ab fx mv fv av fn v L s w0 q W) (hb:Below W.heap.size W W'):TI N A n rg mb ib ab fx mv fv av fn v L s w0 q W':=h.keep (S:=fun _=>False) (aG.of hb) (fun _ e=>e.elim)
theorem TI.turn {b:Nat}(h:TI N A n rg mb ib ab fx mv fv av fn v L s w0 q W) (c:iF b W W') (hb:q<=b) (hk:A.k<b):TI N A n rg mb ib ab fx mv fv av fn v L s w0 q W':=by
 obtain⟨l1,l2,l3,l4,l5,l6⟩:=h.lq;exact⟨h.cm.turn c oz,h.ci.turn c oz,h.ca.turn c oz,h.cf.turn c oz,⟨gE c h.l.row,fun t ht=>⟨gE c (h.l.each t ht).1,gE c (h.l.each t ht).2⟩,h.l.dis⟩,h.b.turn c hk,h.be.trans (c.below.mono oz),⟨l1,l2,l3,l4,l5,by rw[c.size];exact l6⟩,h.lv,h.ll,h.lt⟩
end
end
section
theorem aHz {P:Program}{ops:Array Oper}{o:Oper}{a:Act}{w:World}{K:Act->World->Prop}{Q:Exit->Act->World->Prop}{E:Prop}(hg:o.guard=none) (f:FuncId) (k:Nat) (cap:Array Value) (hk:a.eval (.tmp k)=.func (.func f) #[] cap) (ops2:List Operand) (ts:Array TypeId) (ho:o.op=.call { callee:=.value (.tmp k),args:=ops2.toArray,argTypes:=ts })
 (hcf:∀ args w,(callFunc f args).run P w=.ok (.enter f args) w) (vs:List Value) (hv:ops2.map a.eval=vs) (R:Value->World->Prop) (hc:Calls P f (vs.toArray++cap) w fun e w'=>∃ v,e=.returned v/\R v w') (h:∀ v w',R v w'->K (a.put o.dst v) w'):if Region.wanted o (yielded ops a.tmps)=true then o.wp P a w K Q else E:=by
 have hw:Region.wanted o (yielded ops a.tmps)=true:=by simp[Region.wanted,hg]
 rw[if_pos hw];subst hv;have hr:(execOp a.eval o).run P w=.ok (.enter f ((ops2.map a.eval).toArray++cap)) w:=by
  simp[execOp,ho,resolve,invoke,Deferred.ofValue,hk,hcf]
 unfold Oper.wp;rw[hr,Oper.upon_enter];refine hc.mono ?_;rintro e w' ⟨v,rfl,hR⟩;exact h v w' hR
/-- the loop, its head, what comes, the closure: five blocks of the round -/
structure TB (z0 z1 z2 z3 z4:Nat) (lv cv fcv:List Value) (lh:aB×aB) (W:World):Prop where
 l:aF W z0 lv
 c:aF W z1 cv
 lo:aF W z2 (sI lh.1)
 hi:aF W z3 (sI lh.2)
 f:aF W z4 fcv
section
variable {z0 z1 z2 z3 z4 : Nat} {lv cv fcv : List Value} {lh lh' : aB × aB} {W W' : World} {S : Nat -> Prop}
theorem TB.below (h:TB z0 z1 z2 z3 z4 lv cv fcv lh W) (hb:Below W.heap.size W W'):TB z0 z1 z2 z3 z4 lv cv fcv lh W':=⟨h.l.below hb,h.c.below hb,h.lo.below hb,h.hi.below hb,h.f.below hb⟩
theorem TB.turn {b:Nat}(h:TB z0 z1 z2 z3 z4 lv cv fcv lh W) (c:iF b W W') (h0:z0<b) (h1:z1<b) (h2:z2<b) (h3:z3<b) (h4:z4<b):TB z0 z1 z2 z3 z4 lv cv fcv lh W':=⟨h.l.turn c h0,h.c.turn c h1,h.lo.turn c h2,h.hi.turn c h3,h.f.turn c h4⟩
/-- what came is joined -/
theorem TB.come (h:TB z0 z1 z2 z3 z4 lv cv fcv lh W) (hc:aG (fun k=>k=z2\/k=z3) W W') (hl:aF W' z2 (sI lh'.1)) (hh:aF W' z3 (sI lh'.2)) (h02:z0<z2) (h12:z1<z2) (h23:z2<z3) (h34:z3<z4):TB z0 z1 z2 z3 z4 lv cv fcv lh' W' :=
 ⟨hc.own h.l oz,hc.own h.c oz,hl,hh,hc.own h.f oz⟩
end
theorem aQt (w:World) (l0 l1 l2 l3 c0 c1 c2 c3 c4 fv:Value) (t0 t1 t2 t4:TypeId):TB w.heap.size (w.heap.size+1) (w.heap.size+1+1) (w.heap.size+1+1+1) (w.heap.size+1+1+1+1) [l0,l1,l2,l3] [c0,c1,c2,c3,c4] [fv] (rP,rP)
 (((((w.alloc (.cells #[l0,l1,l2,l3] t0)).alloc (.cells #[c0,c1,c2,c3,c4] t1)).alloc (.cells #[.int .i64 1,.int .i64 0] t2)).alloc (.cells #[.int .i64 1,.int .i64 0] t2)).alloc (.cells #[fv] t4)) :=
 ⟨((((aF.new w [l0,l1,l2,l3] t0).alloc _).alloc _).alloc _).alloc _,(((aF.new' _ [c0,c1,c2,c3,c4] t1 _ si).alloc _).alloc _).alloc _,((aF.new' _ [.int .i64 1,.int .i64 0] t2 _ si).alloc _).alloc _,(aF.new' _ [.int .i64 1,.int .i64 0] t2 _ si).alloc _,aF.new' _ [fv] t4 _ si⟩
end
section
def aC9 (rs:List Nat):List Deferred:=rs.map fun r=>{ target:=.collected r,args:=#[] }
def dO (b:Nat) (rs:List Nat) (W:World):Prop:=rs.Nodup/\∀ r∈rs,b<=r/\W.heap[r]? = some (.deferred (some []))
theorem dO.chg {b:Nat}{rs:List Nat}{W W':World}{S:Nat->Prop}(h:dO b rs W) (hc:aG S W W') (hS:∀ r o,S r->W.heap[r]? = some o->o.isCells=true):dO b rs W' :=
 ⟨h.1,fun r hr=>⟨(h.2 r hr).1,by
  have h2:=(h.2 r hr).2;rw[hc.block r (Array.getElem?_eq_some_iff.1 h2).1 (fun e=>by have:=hS r _ e h2;cases this)];exact h2⟩⟩
theorem dO.below {b:Nat}{rs:List Nat}{W W':World}(h:dO b rs W) (hb:Below W.heap.size W W'):dO b rs W':=h.chg (S:=fun _=>False) (aG.of hb) (fun _ _ e=>e.elim)
theorem dO.turn {b b2:Nat}{rs:List Nat}{W W':World}(h:dO b rs W) (c:iF b2 W W') (hlt:∀ r∈rs,r<b2):dO b rs W' :=
 ⟨h.1,fun r hr=>⟨(h.2 r hr).1,by rw[c.block r (.inl (hlt r hr))];exact(h.2 r hr).2⟩⟩
theorem dO.cons {b r:Nat}{rs:List Nat}{W:World}(h:dO b rs W) (hlt:∀ x∈rs,x<r) (hb:b<=r) (hr:W.heap[r]? = some (.deferred (some []))):dO b (r::rs) W :=
 ⟨List.nodup_cons.2 ⟨fun e=>by have:=hlt r e;omega,h.1⟩,fun x hx=>by
  rcases List.mem_cons.1 hx with e|e
  ·subst e;exact⟨hb,hr⟩
  ·exact h.2 x e⟩
theorem dO.lt {b:Nat}{rs:List Nat}{W:World}(h:dO b rs W):∀ r∈rs,r<W.heap.size:=fun r hr=>(Array.getElem?_eq_some_iff.1 (h.2 r hr).2).1
theorem aHf {b:Nat}{W W1 W2:World}(h:iF b W W1) (k:iF b W1 W2):iF b W W2 :=
 ⟨k.os.trans h.os,k.tape.trans h.tape,k.output.trans h.output,k.size.trans h.size,fun x hx=>(k.block x (hx.imp id (fun hx o ho=>hx o (by rw[<-h.block x (.inr hx)];exact ho)))).trans (h.block x hx)⟩
theorem aL3 (b:Nat) (W:World):iF b W W:=⟨rfl,rfl,rfl,rfl,fun _ _=>rfl⟩
/-- what is left once the marks have been taken -/
theorem aC7 {F:Fence}{n b:Nat}{P:Program}{fn:Func}{tmps:Array Value}{R:Ending->World->Prop}:∀ (rs:List Nat) (W:World),dO b rs W->(∀ W',iF b W W'->LeavesIn F n P fn tmps R [] .returning W')->LeavesInM F n P fn tmps R (aC9 rs) .returning W:=by
 intro rs
 induction rs with
 | nil=>exact fun W _ h=>h W (aL3 b W)
 | cons r rs ih =>
  intro W hm h;have hr:=(hm.2 r (List.mem_cons_self ..))
  have ht:=iF.put (b:=b) W r _ (.deferred none) hr.1 hr.2 rfl;have hnd:=List.nodup_cons.1 hm.1;refine⟨si,.inl ⟨_,_,rfl,run_takeDeferred hr.2,ih _ ⟨hnd.2,fun x hx=>⟨(hm.2 x (List.mem_cons_of_mem _ hx)).1,?_⟩⟩ (fun W' hW=>h W' (aHf ht hW))⟩⟩;rw[World.putObj_heap_other (fun e=>hnd.1 (by first|exact e▸hx|exact e.symm▸hx))];exact(hm.2 x (List.mem_cons_of_mem _ hx)).2
theorem aQ5 (t:Array Value) (h:t.size=130):t=#[t.getD 0 undef,t.getD 1 undef,t.getD 2 undef,t.getD 3 undef,t.getD 4 undef,t.getD 5 undef,t.getD 6 undef,t.getD 7 undef,t.getD 8 undef,t.getD 9 undef,t.getD 10 undef,t.getD 11 undef,t.getD 12 undef,t.getD 13 undef,t.getD 14 undef,t.getD 15 undef,t.getD 16 undef,t.getD 17 undef,t.getD 18 undef,t.getD 19 undef,t.getD 20 undef,t.getD 21 undef,t.getD 22 undef,t.getD 23 undef,t.getD 24 undef,t.getD 25 undef,t.getD 26 undef,t.getD 27 undef,t.getD 28 undef,t.getD 29 undef,t.getD 30 undef,t.getD 31 undef,t.getD 32 undef,t.getD 33 undef,t.getD 34 undef,t.getD 35 undef,t.getD 36 undef,t.getD 37 undef,t.getD 38 undef,t.getD 39 undef,t.getD 40 undef,t.getD 41 undef,t.getD 42 undef,t.getD 43 undef,t.getD 44 undef,t.getD 45 undef,t.getD 46 undef,t.getD 47 undef,t.getD 48 undef,t.getD 49 undef,t.getD 50 undef,t.getD 51 undef,t.getD 52 undef,t.getD 53 undef,t.getD 54 undef,t.getD 55 undef,t.getD 56 undef,t.getD 57 undef,t.getD 58 undef,t.getD 59 undef,t.getD 60 undef,t.getD 61 undef,t.getD 62 undef,t.getD 63 undef,t.getD 64 undef,t.getD 65 undef,t.getD 66 undef,t.getD 67 undef,t.getD 68 undef,t.getD 69 undef,t.getD 70 undef,t.getD 71 undef,t.getD 72 undef,t.getD 73 undef,t.getD 74 undef,t.getD 75 undef,t.getD 76 undef,t.getD 77 undef,t.getD 78 undef,t.getD 79 undef,t.getD 80 undef,t.getD 81 undef,t.getD 82 undef,t.getD 83 undef,t.getD 84 undef,t.getD 85 undef,t.getD 86 undef,t.getD 87 undef,t.getD 88 undef,t.getD 89 undef,t.getD 90 undef,t.getD 91 undef,t.getD 92 undef,t.getD 93 undef,t.getD 94 undef,t.getD 95 undef,t.getD 96 undef,t.getD 97 undef,t.getD 98 undef,t.getD 99 undef,t.getD 100 undef,t.getD 101 undef,t.getD 102 undef,t.getD 103 undef,t.getD 104 undef,t.getD 105 undef,t.getD 106 undef,t.getD 107 undef,t.getD 108 undef,t.getD 109 undef,t.getD 110 undef,t.getD 111 undef,t.getD 112 undef,t.getD 113 undef,t.getD 114 undef,t.getD 115 undef,t.getD 116 undef,t.getD 117 undef,t.getD 118 undef,t.getD 119 undef,t.getD 120 undef,t.getD 121 undef,t.getD 122 undef,t.getD 123 undef,t.getD 124 undef,t.getD 125 undef,t.getD 126 undef,t.getD 127 undef,t.getD 128 undef,t.getD 129 undef]:=by
 have h1:t=((List.range 130).map fun i=>t.getD i undef).toArray:=by
  apply Array.ext
  ·simp[h]
  ·intro i h1 h2;simp[Array.getD,h1]
 exact h1.trans kr
theorem aQa (Pr:Array Value->Prop) (t:Array Value) (h:t.size=130) (v2 v3 v6 v8 v11 v46 v47 v48:Value) (e2:t.getD 2 undef=v2) (e3:t.getD 3 undef=v3) (e6:t.getD 6 undef=v6) (e8:t.getD 8 undef=v8) (e11:t.getD 11 undef=v11) (e46:t.getD 46 undef=v46) (e47:t.getD 47 undef=v47) (e48:t.getD 48 undef=v48) (hp:∀ y0 y1 y4 y5 y7 y9 y10 y12 y13 y14 y15 y16 y17 y18 y19 y20 y21 y22 y23 y24 y25 y26 y27 y28 y29 y30 y31 y32 y33 y34 y35 y36 y37 y38 y39 y40 y41 y42 y43 y44 y45 y49 y50 y51 y52 y53 y54 y55 y56 y57 y58 y59 y60 y61 y62 y63 y64 y65 y66 y67 y68 y69 y70 y71 y72 y73 y74 y75 y76 y77 y78 y79 y80 y81 y82 y83 y84 y85 y86 y87 y88 y89 y90 y91 y92 y93 y94 y95 y96 y97 y98 y99 y100 y101 y102 y103 y104 y105 y106 y107 y108 y109 y110 y111 y112 y113 y114 y115 y116 y117 y118 y119 y120 y121 y122 y123 y124 y125 y126 y127 y128 y129,Pr #[y0,y1,v2,v3,y4,y5,v6,y7,v8,y9,y10,v11,y12,y13,y14,y15,y16,y17,y18,y19,y20,y21,y22,y23,y24,y25,y26,y27,y28,y29,y30,y31,y32,y33,y34,y35,y36,y37,y38,y39,y40,y41,y42,y43,y44,y45,v46,v47,v48,y49,y50,y51,y52,y53,y54,y55,y56,y57,y58,y59,y60,y61,y62,y63,y64,y65,y66,y67,y68,y69,y70,y71,y72,y73,y74,y75,y76,y77,y78,y79,y80,y81,y82,y83,y84,y85,y86,y87,y88,y89,y90,y91,y92,y93,y94,y95,y96,y97,y98,y99,y100,y101,y102,y103,y104,y105,y106,y107,y108,y109,y110,y111,y112,y113,y114,y115,y116,y117,y118,y119,y120,y121,y122,y123,y124,y125,y126,y127,y128,y129]):Pr t:=by
 rw[aQ5 t h,e2,e3,e6,e8,e11,e46,e47,e48];exact hp (t.getD 0 undef) (t.getD 1 undef) (t.getD 4 undef) (t.getD 5 undef) (t.getD 7 undef) (t.getD 9 undef) (t.getD 10 undef) (t.getD 12 undef) (t.getD 13 undef) (t.getD 14 undef) (t.getD 15 undef) (t.getD 16 undef) (t.getD 17 undef) (t.getD 18 undef) (t.getD 19 undef) (t.getD 20 undef) (t.getD 21 undef) (t.getD 22 undef) (t.getD 23 undef) (t.getD 24 undef) (t.getD 25 undef) (t.getD 26 undef) (t.getD 27 undef) (t.getD 28 undef) (t.getD 29 undef) (t.getD 30 undef) (t.getD 31 undef) (t.getD 32 undef) (t.getD 33 undef) (t.getD 34 undef) (t.getD 35 undef) (t.getD 36 undef) (t.getD 37 undef) (t.getD 38 undef) (t.getD 39 undef) (t.getD 40 undef) (t.getD 41 undef) (t.getD 42 undef) (t.getD 43 undef) (t.getD 44 undef) (t.getD 45 undef) (t.getD 49 undef) (t.getD 50 undef) (t.getD 51 undef) (t.getD 52 undef) (t.getD 53 undef) (t.getD 54 undef) (t.getD 55 undef) (t.getD 56 undef) (t.getD 57 undef) (t.getD 58 undef) (t.getD 59 undef) (t.getD 60 undef) (t.getD 61 undef) (t.getD 62 undef) (t.getD 63 undef) (t.getD 64 undef) (t.getD 65 undef) (t.getD 66 undef) (t.getD 67 undef) (t.getD 68 undef) (t.getD 69 undef) (t.getD 70 undef) (t.getD 71 undef) (t.getD 72 undef) (t.getD 73 undef) (t.getD 74 undef) (t.getD 75 undef) (t.getD 76 undef) (t.getD 77 undef) (t.getD 78 undef) (t.getD 79 undef) (t.getD 80 undef) (t.getD 81 undef) (t.getD 82 undef) (t.getD 83 undef) (t.getD 84 undef) (t.getD 85 undef) (t.getD 86 undef) (t.getD 87 undef) (t.getD 88 undef) (t.getD 89 undef) (t.getD 90 undef) (t.getD 91 undef) (t.getD 92 undef) (t.getD 93 undef) (t.getD 94 undef) (t.getD 95 undef) (t.getD 96 undef) (t.getD 97 undef) (t.getD 98 undef) (t.getD 99 undef) (t.getD 100 undef) (t.getD 101 undef) (t.getD 102 undef) (t.getD 103 undef) (t.getD 104 undef) (t.getD 105 undef) (t.getD 106 undef) (t.getD 107 undef) (t.getD 108 undef) (t.getD 109 undef) (t.getD 110 undef) (t.getD 111 undef) (t.getD 112 undef) (t.getD 113 undef) (t.getD 114 undef) (t.getD 115 undef) (t.getD 116 undef) (t.getD 117 undef) (t.getD 118 undef) (t.getD 119 undef) (t.getD 120 undef) (t.getD 121 undef) (t.getD 122 undef) (t.getD 123 undef) (t.getD 124 undef) (t.getD 125 undef) (t.getD 126 undef) (t.getD 127 undef) (t.getD 128 undef) (t.getD 129 undef)
theorem dO.keep {b:Nat}{rs:List Nat}{W W':World}{S:Nat->Prop}(h:dO b rs W) (hc:aG S W W') (hS:∀ r∈rs,¬S r):dO b rs W' :=
 ⟨h.1,fun r hr=>⟨(h.2 r hr).1,by rw[hc.block r (Array.getElem?_eq_some_iff.1 (h.2 r hr).2).1 (hS r hr)];exact(h.2 r hr).2⟩⟩
theorem aLh {w:World}{e size n:Nat}{v:Value}{xs:List Value}(h:w.ownsRow 0 e size v n xs):∀ r o,v.ownBlock=some r->w.heap[r]? = some o->o.isCells=true:=by
 obtain⟨-,h2⟩:=h;intro r o hr ho;rcases h2 with⟨rfl,_⟩|⟨g,cap,cur,rfl,_,hh,_⟩
 ·simp[Value.ownBlock]at hr
 ·obtain rfl:g=r:=eL hr
  rw[hh]at ho;cases ho;rfl
def aJ8 (c:dJ) (lh:aB×aB):Option (List aB)->aB×aB
 | some out=>tY c lh out
 | none=>lh
theorem aLt (m:bA) (f:aC) (inn:List (List aB)) (l:cE) (lh:aB×aB) (u:Nat) (h:¬(l.members.contains (u:Int)=true\/inn.getD u []=[])):gB m f inn l lh (u,(l.head:Int))=aJ8 (f.code.getD l.head default) lh (gP m f u (l.head:Int) (inn.getD u [])):=by
 unfold gB aJ8;rw[if_neg (by
  rintro(h1|h1)
  ·exact h1 rfl
  ·exact h h1)]
 rfl
/-- what stands while a round goes through the edges -/
structure TR (N:Nat) (A:yU) (n rg mb ib ab fx:Nat) (mv fv av:List Value) (fn:Nat) (v:Value) (L:List jR) (s:fF) (w0:World) (q z0 z1 z2 z3 z4:Nat) (lv cv fcv:List Value) (u:Value) (j:Nat) (us:List Value) (rs:List Nat) (lh:aB×aB) (W:World):Prop where
 ti:TI N A n rg mb ib ab fx mv fv av fn v L s w0 q W
 tb:TB z0 z1 z2 z3 z4 lv cv fcv lh W
 ro:W.ownsRow 0 34 1 u j us
 ma:dO q rs W
section
variable {N : Nat} {A : yU} {n rg mb ib ab fx : Nat} {mv fv av : List Value} {fn : Nat} {v : Value} {L : List jR} {s : fF} {w0 : World} {q z0 z1 z2 z3 z4 : Nat} {lv cv fcv : List Value} {u : Value} {j : Nat} {us : List Value} {rs : List Nat} {lh lh' : aB × aB} {W W' : World}
theorem TR.below (h:TR N A n rg mb ib ab fx mv fv av fn v L s w0 q z0 z1 z2 z3 z4 lv cv fcv u j us rs lh W) (hb:Below W.heap.size W W'):TR N A n rg mb ib ab fx mv fv av fn v L s w0 q z0 z1 z2 z3 z4 lv cv fcv u j us rs lh W':=⟨h.ti.below hb,h.tb.below hb,aA hb h.ro,h.ma.below hb⟩
theorem TR.turn {b:Nat}(h:TR N A n rg mb ib ab fx mv fv av fn v L s w0 q z0 z1 z2 z3 z4 lv cv fcv u j us rs lh W) (c:iF b W W') (hb:q<=b) (hk:A.k<b) (h4:z4<b) (h3:z3<z4) (h2:z2<z3) (h1:z1<z2) (h0:z0<z1) (hr:∀ r∈rs,r<b):TR N A n rg mb ib ab fx mv fv av fn v L s w0 q z0 z1 z2 z3 z4 lv cv fcv u j us rs lh W' :=
 ⟨h.ti.turn c hb hk,h.tb.turn c oz oz oz oz oz,gE c h.ro,h.ma.turn c hr⟩
theorem TR.come (h:TR N A n rg mb ib ab fx mv fv av fn v L s w0 q z0 z1 z2 z3 z4 lv cv fcv u j us rs lh W) (hc:aG (fun k=>k=z2\/k=z3) W W') (hl:aF W' z2 (sI lh'.1)) (hh:aF W' z3 (sI lh'.2)) (h0:q<=z0) (h01:z0<z1) (h12:z1<z2) (h23:z2<z3) (h34:z3<z4) (hu:∀ k,u.ownBlock=some k->k<z0) (hr:∀ r∈rs,r<z0):TR N A n rg mb ib ab fx mv fv av fn v L s w0 q z0 z1 z2 z3 z4 lv cv fcv u j us rs lh' W' :=
 ⟨h.ti.keep hc (fun x e=>by rcases e with e|e<;>omega),h.tb.come hc hl hh oz h12 h23 h34,aN hc h.ro (fun k hk e=>by have:=hu k hk;rcases e with e|e<;>omega),h.ma.keep hc (fun r hr2 e=>by have:=hr r hr2;rcases e with e|e<;>omega)⟩
end
end
section
attribute [local go_sem] Oper.semAt_some
def nT (l:List Int):List Value:=l.map (Value.int .u64)
theorem aCp (l:List Int):∀ v∈nT l,v.oneCell'=true:=by
 intro v hv;obtain⟨x,_,rfl⟩:=List.mem_map.1 hv;rfl
/-- what Of hands back: the rounds of each loop, or what is wrong with the loops -/
def aP6 (m:bA) (fn:Nat) (w:World) (e:Ending) (w':World):Prop:=∃ s v,fO m (bX m fn) (fL (bX m fn)) s/\e=.returned (.tuple #[v,.int .i64 (gW m (bX m fn) s.inn).2]) /\
 w'.ownsRow 0 34 1 v (gW m (bX m fn) s.inn).1.length (nT (gW m (bX m fn) s.inn).1)/\Below w.heap.size w w'
/-- likewise; what is handed back lies in memory of its own -/
def nM (m:bA) (fn:Nat) (w:World) (e:Ending) (w':World):Prop:=∃ s v,fO m (bX m fn) (fL (bX m fn)) s/\e=.returned (.tuple #[v,.int .i64 (gW m (bX m fn) s.inn).2]) /\
 w'.ownsRow 0 34 1 v (gW m (bX m fn) s.inn).1.length (nT (gW m (bX m fn) s.inn).1)/\Below w.heap.size w w'/\∀ k,v.ownBlock=some k->w.heap.size<=k
theorem aIf {p:Prop}(h:p:=by
 exact⟨fun k h1 h2=>rfl,⟨aG.refl _ _,fun k h=>.inl h⟩,HT2.out⟩):p:=h
theorem aBw (B:Nat) (m:bA) (fn:Nat) (ta fa:Option Addr) (tl tc fl fc:Nat) (w:World) (hB:B<=w.heap.size) (hB0:0<B) (hmo:cP B w (.agg #[.slice ta tl tc,.slice fa fl fc]) m) (hr:eO w) (he:(dS m).e=0) (hfn:fn<m.funcs.length) :
 Calls Tryz.prog 6 #[.agg #[.slice ta tl tc,.slice fa fl fc],.int .i64 fn] w (nM m fn w):=by
 have HM:=qd hmo;have HRW:=qd hr;have HRun:=qd (fun w' hB hmo hr=>aU6 B m fn ta fa tl tc fl fc w' hB hB0 hmo hr he hfn);obtain⟨_,_,_,_,_,_,hv,⟨htl,htm,-⟩,hfs⟩:=hmo;cases hv;obtain⟨hfl1,hfl2,fb,fo,hfb,H,hH⟩:=hfs;obtain⟨rfl,hfbB⟩:=hfb oz;obtain⟨hcells,hfo⟩:=hH fn oz;have hfine:=nE he;have hff1:=hfine.fn fn hfn;have hfe:m.funcs.getD fn default=bX m fn:=rfl;rw[hfe]at hcells hfo;generalize H fn=hh at *;obtain⟨f,hf⟩:∃ f,bX m fn=f:=⟨_,rfl⟩
 unfold nM;rw[hf]at hcells hfo hff1 ⊢;obtain⟨pa,pl,pc,ca,cl,cc⟩:=hh;have hcl:f.code.length=cl:=hfo.2.2.1.1;subst hcl;obtain⟨g0,g1,g2,g3,g4⟩:=hcells;dsimp only at g0 g1 g2 g3 g4;obtain⟨rg,hrg⟩:∃ rg:Nat,f.regs=rg:=⟨f.regs.toNat,by have:=hff1.r1;omega⟩
 have hrg0:0<rg:=by have:=hff1.r1;omega
 have hrg64:rg<=64:=by have:=hff1.r2;omega
 have hn0:0<f.code.length:=hff1.c1;have hn1:f.code.length<=1024:=hff1.c2;have hpl:f.params.length<=rg:=by have:=hff1.np;omega
 rw[hrg]at g2;have hfnl:(fn:Int)<(fl:Int):=oz
 have HRG:=qd hrg;have HFF:=qd hff1;have HFE:=qd hf;have HFI:=qd hfine;have HE:=qd he;have HFO:=qd hfo;clear hfine hff1 hfe hrg hf hH hfb hfo hr;refine(callsIn_wide (n:=3)).1 ?_;refine callsIn_of_wp_marks Tryz.func6 rfl trivial ?_ rfl;refine wpIn_wide.2 ?_;simp only[Tryz.ntmps6,List.size_toArray,List.length_cons,List.length_nil,Nat.reduceAdd,Nat.reduceSub,Array.replicate_succ,Array.replicate_zero,List.push_toArray,List.append_toArray,List.nil_append,List.cons_append];go_upto_region 1 with(fail)
 generalize hW0:World.alloc _ _=W0;have hb0:Below w.heap.size w W0:=by rw[<-hW0];exact bel
 have OM:aF W0 w.heap.size [.slice ta tl tc,.slice (some ⟨fb,fo,none⟩) fl fc]:=mR
 have OI:aF W0 (w.heap.size+1) [.int .i64 fn]:=lG
 have hz0:w.heap.size+2=W0.heap.size:=by rw[<-hW0];simp
 have hz0':w.heap.size+2<=W0.heap.size:=oz
 have m2:=aD OM;have i1:=dG OI;have HC:=qd (HRun.out W0 oz (HM.out.same (aQ.of hb0 hB)) (HRW.out.same (aQ.of hb0 lr) HRW.out.1 hb0.size));clear hW0 HRun hz0;unfold aUl at HC;rw[HFE.out]at HC;go_upto_region 4 with(first|(go_at_call 16;refine HC.out.mono ?_;rintro e w1 ⟨N,rg',A,s,hrg',hruns,rfl,hbat,hso,hNw,hb1⟩)|fail)
 have hrr:rg'=rg:=by have h1:=HRG.out;rw[h1]at hrg';omega
 subst hrr;generalize hW2:World.alloc _ _=W2;have hz1:=hb1.size;have hb12:Below w1.heap.size w1 W2:=by rw[<-hW2];exact eN
 have OA:aF W2 w1.heap.size [.slice (some ⟨A.ib,0,none⟩) f.code.length A.ic,.slice (some ⟨A.cb,0,none⟩) f.code.length A.cc]:=uR
 have hz2:w1.heap.size+1<=W2.heap.size:=by rw[<-hW2];simp
 have hb2:Below w.heap.size w W2:=(hb0.trans (hb1.mono oz)).trans (hb12.mono oz);have OM2:=(OM.below hb1).below hb12;have OI2:=(OI.below hb1).below hb12;have HB2:=qd (hbat.below hb12);have HSO:=qd hso;have HRU:=qd hruns;have m2':=aD OM2;have i1':=dG OI2;have sm:=aQ.of hb2 hB;rw[<-sm _ _ (by show fb<B;omega)]at g0 g1 g2 g3 g4;clear hW2 HC m2 i1 OM OI hbat hso hruns hrg' sm;go_upto_region 5 with(fail)
 generalize hW3:World.alloc _ _=W3;have hb23:Below W2.heap.size W2 W3:=by rw[<-hW3];exact eN
 have OF:aF W3 W2.heap.size [.string f.name,.slice pa pl pc,.int .i64 rg',.int .i64 f.words,.slice ca f.code.length cc]:=by rw[<-hW3];exact aF.new _ _ _
 have hz3:W2.heap.size+1<=W3.heap.size:=by rw[<-hW3];simp
 have hb3:Below w.heap.size w W3:=hb2.trans (hb23.mono oz);have OM3:=OM2.below hb23;have OI3:=OI2.below hb23;have OA3:=OA.below hb23;have HB3:=qd (HB2.out.below hb23);have f5:=aX OF;have hfl:=aIm B ⟨pa,pl,pc,ca,f.code.length,cc⟩ f W3 oz (HFO.out.same (aQ.of hb3 hB)) (HRW.out.same (aQ.of hb3 lr) HRW.out.1 hb3.size) hn0 hn1;unfold aI qP at hfl;dsimp only at hfl;rw[HRG.out]at hfl;have HFL:=qd hfl;clear hW3 hfl g0 g1 g2 g3 g4 OM2 OI2 OA m2' i1' hb12 hb23;obtain⟨fd,hfd⟩:∃ q,jI f=q:=⟨_,rfl⟩
 rw[hfd]at HFL;have HFD:=qd hfd;clear hfd;obtain⟨ls,fe,fat⟩:=fd;dsimp only at HFL;by_cases hfe0:fe=0
 ·subst hfe0;go_upto_region 9 with(first|(go_at_call 17;refine HFL.out.mono ?_;rintro e w4 ⟨v4,L,rfl,hb4,hL,hLm⟩;have f5b:=aX (OF.below hb4);clear f5)|fail)
  have hz4:=hb4.size;have hbw4:Below w.heap.size w w4:=hb3.trans (hb4.mono oz);obtain⟨la,lc,hlv⟩:=hL.form;have hLm2:L.map (fun t=>t.1)=ls:=hLm;have hLl:L.length=ls.length:=by rw[<-hLm2,List.length_map]
  rw[hLl]at hlv;subst hlv;have HB4:=qd (HB3.out.below hb4);have HT4:Hid (TI N A f.code.length rg' w.heap.size (w.heap.size+1) w1.heap.size W2.heap.size [.slice ta tl tc,.slice (some ⟨fb,fo,none⟩) fl fc] [.string f.name,.slice pa pl pc,.int .i64 rg',.int .i64 f.words,.slice ca f.code.length cc] [.slice (some ⟨A.ib,0,none⟩) f.code.length A.ic,.slice (some ⟨A.cb,0,none⟩) f.code.length A.cc] fn (.slice la ls.length lc) L s w w4.heap.size w4):=qd ⟨OM3.below hb4,OI3.below hb4,OA3.below hb4,OF.below hb4,hL,HB4.out,hbw4,⟨oz,oz,oz,oz,oz,Nat.le_refl _⟩,fun k hk=>cA hL.row hk,fun t ht=>⟨fun k hk=>cA (hL.each t ht).1 hk,fun k hk=>cA (hL.each t ht).2 hk⟩,fun x hx=>HB4.out.fr x hx⟩;have htp:gW m f s.inn=(ls.map (kK m f s.inn),0):=by unfold gW;rw[HFD.out];rfl
  have HTP:=qd htp;have HLM:=qd hLm2;have hlm:(ls.length:Int)<=1048576:=by
   have h:=yO f;rw[HFD.out]at h;dsimp only at h;omega
  have HMem:=qd (fun(l:cE) (hl:l∈ls)=>aE5 hn1 (l:=l) (by rw[HFD.out];exact hl));clear htp hLm2 hLm hL OM3 OI3 OA3 OF f5b HFL HB2 HB3 hb4;go_wp2;have htl:List.replicate 0 (Value.int .u64 0)=[]:=rfl;refine wp_loop_ghost_k (fun k a wx=>∃ (j:Nat) (v11:Value) (rs:List Nat),k=ls.length-j/\j<=ls.length/\a.tmps.size=130/\a.defers=aC9 rs/\a.eval (.tmp 2)=.pointer (some ⟨w.heap.size,0,none⟩)/\a.eval (.tmp 3)=.pointer (some ⟨w.heap.size+1,0,none⟩)/\a.eval (.tmp 6)=.pointer (some ⟨w1.heap.size,0,none⟩)/\a.eval (.tmp 8)=.pointer (some ⟨W2.heap.size,0,none⟩)/\a.eval (.tmp 11)=v11/\a.eval (.tmp 46)=.slice la ls.length lc/\a.eval (.tmp 47)=.int .i64 ls.length/\a.eval (.tmp 48)=.int .i64 j/\Hid (TI N A f.code.length rg' w.heap.size (w.heap.size+1) w1.heap.size W2.heap.size [.slice ta tl tc,.slice (some ⟨fb,fo,none⟩) fl fc] [.string f.name,.slice pa pl pc,.int .i64 rg',.int .i64 f.words,.slice ca f.code.length cc] [.slice (some ⟨A.ib,0,none⟩) f.code.length A.ic,.slice (some ⟨A.cb,0,none⟩) f.code.length A.cc] fn (.slice la ls.length lc) L s w w4.heap.size wx)/\Hid (wx.ownsRow 0 34 1 v11 j (nT ((ls.take j).map (kK m f s.inn))))/\(∀ k,v11.ownBlock=some k->w4.heap.size<=k)/\Hid (dO w4.heap.size rs wx)) ls.length ⟨0,.slice none 0 0,[],rfl,Nat.zero_le _,rfl,rfl,rfl,rfl,rfl,rfl,rfl,rfl,rfl,rfl,HT4,qd (World.ownsRow_nil _ _ _ _),fun k hk=>by simp[Value.ownBlock]at hk,qd ⟨List.nodup_nil,fun r hr=>by simp at hr⟩⟩ ?_
  ·clear HT4 htl;intro gk a0 wr hinv J K hJ hK;obtain⟨j,u11,rs,hgk,hj,hsz,hdf,e2,e3,e6,e8,e11,e46,e47,e48,HT,HO,hov,HMK⟩:=hinv;obtain⟨tmps,ds⟩:=a0;dsimp only at hsz hdf;subst hdf;refine aQa (fun t=>Code.wp Tryz.prog _ _ { tmps:=t,defers:=aC9 rs } wr) tmps hsz _ _ _ _ _ _ _ _ e2 e3 e6 e8 e11 e46 e47 e48 ?_;intro y0 y1 y4 y5 y7 y9 y10 y12 y13 y14 y15 y16 y17 y18 y19 y20 y21 y22 y23 y24 y25 y26 y27 y28 y29 y30 y31 y32 y33 y34 y35 y36 y37 y38 y39 y40 y41 y42 y43 y44 y45 y49 y50 y51 y52 y53 y54 y55 y56 y57 y58 y59 y60 y61 y62 y63 y64 y65 y66 y67 y68 y69 y70 y71 y72 y73 y74 y75 y76 y77 y78 y79 y80 y81 y82 y83 y84 y85 y86 y87 y88 y89 y90 y91 y92 y93 y94 y95 y96 y97 y98 y99 y100 y101 y102 y103 y104 y105 y106 y107 y108 y109 y110 y111 y112 y113 y114 y115 y116 y117 y118 y119 y120 y121 y122 y123 y124 y125 y126 y127 y128 y129;clear e2 e3 e6 e8 e11 e46 e47 e48
   try dsimp only
   have HJ:=qd hJ;have HGK:=qd hgk;clear hsz hJ hgk;by_cases hjt:j<ls.length
   ·have d3:(j:Int)<(ls.length:Int):=oz
    have hwj:IntKind.i64.wrap ((j:Int)+1)=(j:Int)+1:=IntWalk.i64_in _ oz;obtain⟨g,gc,hgv,hg1,hg2,hgl⟩:=bB HT.out.l.row oz;rw[hLl]at hgv;cases hgv;have hLg:bR wr (.slice (some ⟨g,0,none⟩) L.length lc) L:=by rw[hLl];exact HT.out.l
    obtain⟨T,hT⟩:∃ T,L[j]? = some T:=⟨_,List.getElem?_eq_getElem oz⟩
    have hlj:ls[j]? = some T.1:=by rw[<-HLM.out,List.getElem?_map,hT];rfl
    have hmem:=HMem.out T.1 (List.mem_of_getElem? hlj);have h64:∀ t∈L,∀ x∈t.1.members,aM x:=fun t ht=>(HMem.out t.1 (by rw[<-HLM.out];exact List.mem_map.2 ⟨t,ht,rfl⟩)).2;obtain⟨t0,t1,t2,t3⟩:=hLg.cells hT;have hrm:=(hLg.each T (List.mem_of_getElem? hT)).1;obtain⟨ma,mc,hmv,hnm⟩:=cI.ofRow (B:=wr.heap.size) hrm hmem.2 (fun k hk=>cA hrm hk);have HMW:Hid (∀ W,bR W (.slice (some ⟨g,0,none⟩) ls.length lc) L->cI W.heap.size W ma T.1.members.length T.1.members):=qd (fun W h=>by
     have h1:=(h.each T (List.mem_of_getElem? hT)).1;obtain⟨ma',mc',hmv',hnm'⟩:=cI.ofRow (B:=W.heap.size) h1 hmem.2 (fun k hk=>cA h1 hk);rw[hmv]at hmv';cases hmv';exact hnm')
    rw[hmv]at t2;have hrb:=(hLg.each T (List.mem_of_getElem? hT)).2;obtain⟨ba,bc,hbv⟩:∃ ba bc,T.2.2=.slice ba T.1.backs.length bc:=by
     rcases bU hrb with⟨h1,h2,_⟩|⟨g,c,h1,_⟩
     ·exact⟨none,0,by rw[h1,h2]⟩
     ·exact⟨_,c,h1⟩
    rw[hbv]at t3;have hml:∀ k,(Value.slice ma T.1.members.length mc).ownBlock=some k->k<w4.heap.size:=fun k hk=>(HT.out.ll T (List.mem_of_getElem? hT)).1 k (by rw[hmv];exact hk);have HTK:Hid (ls.take (j+1)=ls.take j++[T.1]):=qd (by rw[List.take_add_one,hlj];rfl);have hhd:=hmem.1;have hhd2:(T.1.head:Int)<(f.code.length:Int):=oz
    clear hLg hlj h64 hrm hmv hnm hmem hrb hbv;generalize T.1=l at *;have m2:=aD HT.out.cm;have f5:=aX HT.out.cf;have cd:=(HFO.out.same (aQ.of HT.out.be hB)).2.2.1;obtain⟨-,-,cbb,cbo,hcb,hcc⟩:=cd;obtain⟨hca,hcbB⟩:=hcb oz;dsimp only at hca;subst hca;obtain⟨⟨x0,x1,x2,x3,x4⟩,-⟩:=hcc l.head hhd;have HIF:=qd (HFI.out.ins fn l.head hfn (by rw[HFE.out];exact hhd));rw[HFE.out]at HIF;obtain⟨x,hx⟩:∃ x,f.code.getD l.head default=x:=⟨_,rfl⟩
    rw[hx]at x0 x1 x2 x3 x4 HIF;obtain⟨xo,xa,xb,xc,xn⟩:=x;have HX:=qd hx;clear hx;dsimp only at x0 x1 x2 x3 x4;have hcw:cbb<wr.heap.size:=by have:=HT.out.lq;omega
    clear hcb hcc;have hmf:=@mkF Tryz.prog;go_upto_if 63 with(fail)
    generalize hW5:World.alloc _ _=W5;obtain⟨z0,hz0⟩:∃ z,wr.heap.size=z:=⟨_,rfl⟩
    obtain⟨z1,hz1⟩:∃ z,wr.heap.size+1=z:=⟨_,rfl⟩
    obtain⟨z2,hz2⟩:∃ z,wr.heap.size+1+1=z:=⟨_,rfl⟩
    obtain⟨z3,hz3⟩:∃ z,wr.heap.size+1+1+1=z:=⟨_,rfl⟩
    obtain⟨z4,hz4'⟩:∃ z,wr.heap.size+1+1+1+1=z:=⟨_,rfl⟩
    have hb5:Below wr.heap.size wr W5:=by rw[<-hW5];exact bel
    have HTB:Hid (TB z0 z1 z2 z3 z4 [.int .i64 l.head,.int .i64 l.parent,.slice ma l.members.length mc,.slice ba l.backs.length bc] [.int .i64 xo,.int .i64 xa,.int .i64 xb,.int .i64 xc,.int .i64 xn] [.func (.func 18) #[] #[.pointer (some ⟨z2,0,none⟩),.pointer (some ⟨z1,0,none⟩),.pointer (some ⟨z3,0,none⟩)]] (rP,rP) W5):=qd (by
     rw[<-hW5,<-hz4',<-hz3,<-hz2,<-hz1,<-hz0];exact aQt wr _ _ _ _ _ _ _ _ _ _ _ _ _ _)
    have hz5:z4<W5.heap.size:=by rw[<-hW5,<-hz4'];simp
    have hz01:z0<z1:=oz
    have hz12:z1<z2:=oz
    have hz23:z2<z3:=oz
    have hz34:z3<z4:=oz
    have hq0:w4.heap.size<=z0:=by rw[<-hz0];exact HT.out.lq.2.2.2.2.2
    have HT5:=qd (HT.out.below hb5);have HO5:=qd (aA hb5 HO.out);have HOU:Hid (∀ k,u11.ownBlock=some k->k<z0):=qd (fun k hk=>by have:=cA HO.out hk;omega);have HMK5:Hid (dO w4.heap.size rs W5/\∀ r∈rs,r<z0):=qd ⟨HMK.out.below hb5,fun r hr=>by have:=HMK.out.lt r hr;omega⟩;rw[hz4',hz3,hz2,hz1,hz0];rw[hz0]at hb5;clear hW5 hz0 hz1 hz2 hz3 hz4' HT HO HMK m2 f5 x0 x1 x2 x3 x4 t0 t1 t2 t3 hg1;have hxa1:xa<(rg':Int):=by have h:=HIF.out.a1;rw[HRG.out]at h;exact h
    have hxb1:xb<(rg':Int):=by have h:=HIF.out.b1;rw[HRG.out]at h;exact h
    have hz02:z0<z2:=oz
    go_cut [48]from 48 to 128 (fun v wc=>v=.int .i64 j/\Hid (TB z0 z1 z2 z3 z4 [.int .i64 l.head,.int .i64 l.parent,.slice ma l.members.length mc,.slice ba l.backs.length bc] [.int .i64 xo,.int .i64 xa,.int .i64 xb,.int .i64 xc,.int .i64 xn] [.func (.func 18) #[] #[.pointer (some ⟨z2,0,none⟩),.pointer (some ⟨z1,0,none⟩),.pointer (some ⟨z3,0,none⟩)]] (jE f l) wc)/\aG (fun k=>k=z2\/k=z3) W5 wc)
    case first =>
     have l4:=hU HTB.out.l;by_cases hh0:l.head=0
     ·have q1:(l.head:Int)=0:=oz
      have q2:((l.head:Int)==0)=true:=by rw[q1];rfl
      have hTB0:Hid (jE f l=tY ⟨xo,xa,xb,xc,xn⟩ (rP,rP) (cL f)):=qd (by unfold jE;rw[if_pos hh0,HX.out]);clear hh0;have hsp:=HFO.out.2.1;have hplen:f.params.length=pl:=hsp.1;have hrgp:pl+(rg'-pl)=rg':=oz
      have hpl64:pl<=64:=oz
      have hws:IntKind.i64.wrap ((rg':Int)-(pl:Int))=((rg'-pl:Nat):Int):=tU
      have hws2:wrap64 ((rg':Int)-(pl:Int))=((rg'-pl:Nat):Int):=by rw[oG];exact hws
      have hbeg:f.params++List.replicate (rg'-pl) (⟨0,0⟩:aB)=cL f:=by unfold cL;rw[HRG.out,hplen];simp
      have HSR:=qd (aCa hsp);have HCl:Hid (∀ w',aG (fun k=>k=z2\/k=z3) W5 w'->Calls Tryz.prog 21 #[.slice pa pl pc] w' fun e w2=>∃ v,e=.returned v/\aIo pl f.params w' v w2):=qd (fun w' hw=>tL pa pl pc f.params w' hplen (fun h0=>by
       obtain⟨b,o,h1,h2,h3⟩:=HSR.out h0;have hbl:b<w.heap.size:=oz
       have hz:=HT5.out.be.size;have hz2:=hw.size;refine⟨b,o,h1,oz,fun j u hu=>?_⟩;exact(hw.cellAt (o+j) (b:=b) oz (by show ¬(b=z2\/b=z3);omega)).trans ((HT5.out.be.cell (p:=⟨b,o+j,none⟩) hbl).trans (h3 j u hu))) hpl64)
      have hcf:∀ (args:Array Value) (w:World),(callFunc 21 args).run Tryz.prog w=.ok (.enter 21 args) w:=fun _ _=>rfl;have hcf2:∀ (args:Array Value) (w:World),(callFunc 20 args).run Tryz.prog w=.ok (.enter 20 args) w:=fun _ _=>rfl;have hcf3:∀ (args:Array Value) (w:World),(callFunc 18 args).run Tryz.prog w=.ok (.enter 18 args) w:=fun _ _=>rfl;have HSS:Hid (∀ w',aG (fun k=>k=z2\/k=z3) W5 w'->w'.cell? ⟨z4,0,none⟩=some (.func (.func 18) #[] #[.pointer (some ⟨z2,0,none⟩),.pointer (some ⟨z1,0,none⟩),.pointer (some ⟨z3,0,none⟩)])/\w'.cell? ⟨W2.heap.size,1,none⟩=some (.slice pa pl pc)/\w'.cell? ⟨W2.heap.size,2,none⟩=some (.int .i64 rg')):=qd (fun w' hw=>by
       have f1:=dG (hw.own HTB.out.f oz);have f5:=aX (hw.own HT5.out.cf (by have:=HT5.out.lq;omega));exact⟨f1.2.1,f5.2.2.1,f5.2.2.2.1⟩)
      go_upto_region 16 with(fail)
      generalize hA0:(Act.mk _ _:Act)=a0;have Ee:a0.eval (.tmp 8)=.pointer (some ⟨W2.heap.size,0,none⟩)/\a0.eval (.tmp 17)=.pointer (some ⟨z4,0,none⟩)/\a0.tmps.size=130:=qB
      refine aE (fun w'=>aG (fun k=>k=z2\/k=z3) W5 w') kr ((aG.refl _ W5).drew) ?_;intro K0 hK0 hHeld
      try dsimp only at hHeld
      refine aL 0 rfl ?_;refine aL 1 rfl ?_;refine aL 2 rfl ?_;refine aL 5 rfl ?_;refine aL 6 rfl ?_;refine aL 7 rfl ?_;refine aL 8 rfl ?_;refine aL 9 rfl ?_;refine aL 10 rfl ?_;generalize hA1:(Act.put _ _ _:Act)=a1;replace Ee:a1.eval (.tmp 64)=.func (.func 18) #[] #[.pointer (some ⟨z2,0,none⟩),.pointer (some ⟨z1,0,none⟩),.pointer (some ⟨z3,0,none⟩)]/\a1.eval (.tmp 74)=.int .i64 ((rg'-pl:Nat):Int)/\a1.eval (.tmp 66)=.slice pa pl pc/\a1.tmps.size=130:=oZ;refine fD 3 rfl fun K hK=>?_;refine aP rfl 21 [.tmp 66] #[39] rfl hcf [.slice pa pl pc] iD _ (HCl.out _ hHeld) ?_;rintro v wM ⟨va,vc,rfl,hvc1,hvc2,hvn,hvr,hbM⟩;have hwM:aG (fun k=>k=z2\/k=z3) W5 wM:=hHeld.trans (aG.of hbM);have hzM:=hwM.size;refine hK.out _ _ (hwM) fun hHeld=>?_;clear hK K;generalize hA2:(Act.put _ _ _:Act)=a2;replace Ee:a2.eval (.tmp 64)=.func (.func 18) #[] #[.pointer (some ⟨z2,0,none⟩),.pointer (some ⟨z1,0,none⟩),.pointer (some ⟨z3,0,none⟩)]/\a2.eval (.tmp 74)=.int .i64 ((rg'-pl:Nat):Int)/\a2.eval (.tmp 67)=.slice va pl vc/\a2.tmps.size=130:=mQ;refine fD 4 rfl fun K hK=>?_;refine aP rfl 20 [.tmp 67] #[39] rfl hcf2 [.slice va pl vc] iD _ (aJr va pl vc _ hvc1 hvc2 hvn) ?_;rintro v wN ⟨rfl,hwN⟩;rw[hwN];clear hwN;refine hK.out _ _ (hwM) fun hHeld=>?_;clear hK K;generalize hA3:(Act.put _ _ _:Act)=a3;replace Ee:a3.eval (.tmp 64)=.func (.func 18) #[] #[.pointer (some ⟨z2,0,none⟩),.pointer (some ⟨z1,0,none⟩),.pointer (some ⟨z3,0,none⟩)]/\a3.eval (.tmp 74)=.int .i64 ((rg'-pl:Nat):Int)/\a3.eval (.tmp 68)=.slice va pl pl/\a3.tmps.size=130:=rV;have⟨_,e3_74,e3_68,_⟩:=Ee;refine fD 11 rfl fun K hK=>?_;obtain⟨g2,cap,wA,hrun,hrA,hbA,hgA⟩:=rS wM 39 va pl (rg'-pl) f.params hplen (hvr.imp id (fun⟨b,h1,_,h2⟩=>⟨b,h1,h2⟩)) oz oz;rw[hrgp]at hrun hrA;have hwA:aG (fun k=>k=z2\/k=z3) W5 wA:=hwM.trans (aG.of hbA);have hbwA:Below W5.heap.size W5 wA:=((Below.refl _ W5).drew.trans (hbM.mono lr)).trans (hbA.mono hzM);refine xB rfl (.tmp 68) (.tmp 74) 39 3 rfl _ _ e3_68 e3_74 _ _ hrun ?_;refine hK.out _ _ (hwA) fun hHeld=>?_;clear hK K;generalize hA4:(Act.put _ _ _:Act)=a4;replace Ee:a4.eval (.tmp 64)=.func (.func 18) #[] #[.pointer (some ⟨z2,0,none⟩),.pointer (some ⟨z1,0,none⟩),.pointer (some ⟨z3,0,none⟩)]/\a4.eval (.tmp 75)=.slice (some ⟨g2,0,none⟩) rg' cap/\a4.tmps.size=130:=xE;have⟨e4_64,_,_⟩:=Ee;refine fD 12 rfl fun K hK=>?_;have TA:=HTB.out.below hbwA;rw[hbeg]at hrA;refine aHz rfl 18 64 _ e4_64 [.tmp 75] #[39] rfl hcf3 [.slice (some ⟨g2,0,none⟩) rg' cap] (by simp only[List.map_cons,List.map_nil,Ee]) (fun v w'=>v=.tuple #[]/\Hid (TB z0 z1 z2 z3 z4 _ _ _ (jE f l) w')/\aG (fun k=>k=z2\/k=z3) W5 w') ((aEg z2 z1 z3 rP rP ⟨xo,xa,xb,xc,xn⟩ g2 rg' cap (cL f) wA TA.lo TA.hi TA.c hrA HIF.out.a0 hxa1 HIF.out.b0 hxb1 hrg64 oz).mono (by rintro e w' ⟨rfl,h1,h2,h3⟩;exact⟨_,rfl,rfl,qd (TA.come h3 (by rw[hTB0.out];exact h1) (by rw[hTB0.out];exact h2) hz02 hz12 hz23 hz34),hwA.trans h3⟩)) ?_;rintro v wB ⟨rfl,hTBB,hwB⟩;refine hK.out _ _ (hwB) fun hHeld=>?_;clear hK K;refine aO kr ?_;refine hK0.out _ _ ?_;subst hA4;subst hA3;subst hA2;subst hA1;subst hA0;clear Ee e3_74 e3_68 e4_64;simp only[GE,Act.put,SU]
      try go_wp2
      go_meet;exact⟨rfl,hTBB,hwB⟩
     ·have q1:¬(l.head:Int)=0:=oz
      have q2:((l.head:Int)==0)=false:=oI
      go_wp2;go_meet;exact⟨rfl,by unfold jE;rw[if_neg hh0];exact HTB,aG.refl _ _⟩
    case rest =>
     obtain⟨rfl,HTBc,hcc⟩:=hcut;obtain⟨wB,hwB⟩:∃ wb:World,wb=wc:=⟨_,rfl⟩
     subst hwB;have HTI:=qd (HT5.out.keep hcc (fun x e=>by rcases e with e|e<;>omega));have HOW:=qd (aN hcc HO5.out (fun k hk e=>by have:=HOU.out k hk;rcases e with e|e<;>omega));have HMW2:=qd (dO.keep HMK5.out.1 hcc (fun r hr e=>by have:=HMK5.out.2 r hr;rcases e with e|e<;>omega));have hzc:=hcc.size;have HEd:Hid (∀ w',Calls Tryz.prog 22 #[.agg #[.string f.name,.slice pa pl pc,.int .i64 rg',.int .i64 f.words,.slice (some ⟨cbb,cbo,none⟩) f.code.length cc]] w' fun e w2=>e=.returned (.func (.func 56) #[] #[.pointer (some ⟨w'.heap.size,0,none⟩)])/\w2=wR w' ⟨pa,pl,pc,some ⟨cbb,cbo,none⟩,f.code.length,cc⟩ f):=qd (fun w'=>by
      have h:=uX ⟨pa,pl,pc,some ⟨cbb,cbo,none⟩,f.code.length,cc⟩ f w';unfold aI at h;dsimp only at h;rw[HRG.out]at h;exact h)
     have f5:=aX HTI.out.cf;have HMR:Hid (∀ r∈rs,r<z0):=qd HMK5.out.2;clear HT5 HO5 HMK5 HTB hcc hb5;go_wp2_with (first|(go_at_call 22;refine(HEd.out _).mono ?_;rintro e w6 ⟨rfl,hw6⟩;have HW6:=qd hw6;clear hw6)|fail)
     have hw6:=HW6.out;have hb6:Below wB.heap.size wB w6:=by rw[hw6];unfold wR;exact eN
     have X6:aF w6 wB.heap.size [.string f.name,.slice pa pl pc,.int .i64 f.regs,.int .i64 f.words,.slice (some ⟨cbb,cbo,none⟩) f.code.length cc]:=by rw[hw6];unfold wR;exact aF.new _ _ _
     have hz6:wB.heap.size+1<=w6.heap.size:=by rw[hw6];unfold wR;simp
     have HI6:Hid (TR N A f.code.length rg' w.heap.size (w.heap.size+1) w1.heap.size W2.heap.size [.slice ta tl tc,.slice (some ⟨fb,fo,none⟩) fl fc] [.string f.name,.slice pa pl pc,.int .i64 rg',.int .i64 f.words,.slice (some ⟨cbb,cbo,none⟩) f.code.length cc] [.slice (some ⟨A.ib,0,none⟩) f.code.length A.ic,.slice (some ⟨A.cb,0,none⟩) f.code.length A.cc] fn (.slice (some ⟨g,0,none⟩) ls.length lc) L s w w4.heap.size z0 z1 z2 z3 z4 [.int .i64 l.head,.int .i64 l.parent,.slice ma l.members.length mc,.slice ba l.backs.length bc] [.int .i64 xo,.int .i64 xa,.int .i64 xb,.int .i64 xc,.int .i64 xn] [.func (.func 18) #[] #[.pointer (some ⟨z2,0,none⟩),.pointer (some ⟨z1,0,none⟩),.pointer (some ⟨z3,0,none⟩)]] u11 j (nT ((ls.take j).map (kK m f s.inn))) rs (jE f l) w6):=qd ⟨HTI.out.below hb6,HTBc.out.below hb6,aA hb6 HOW.out,HMW2.out.below hb6⟩;clear HTI HTBc HOW HMW2 hw6 HW6 HEd f5;have hkA:A.k<w6.heap.size:=HI6.out.ti.b.st.1;have hbw6:Below w.heap.size w w6:=HI6.out.ti.be;have hzz:z4<w6.heap.size:=oz
     refine pO (fun _ k=>k=z2\/k=z3) (fun pre W=>TR N A f.code.length rg' w.heap.size (w.heap.size+1) w1.heap.size W2.heap.size [.slice ta tl tc,.slice (some ⟨fb,fo,none⟩) fl fc] [.string f.name,.slice pa pl pc,.int .i64 rg',.int .i64 f.words,.slice (some ⟨cbb,cbo,none⟩) f.code.length cc] [.slice (some ⟨A.ib,0,none⟩) f.code.length A.ic,.slice (some ⟨A.cb,0,none⟩) f.code.length A.cc] fn (.slice (some ⟨g,0,none⟩) ls.length lc) L s w w4.heap.size z0 z1 z2 z3 z4 [.int .i64 l.head,.int .i64 l.parent,.slice ma l.members.length mc,.slice ba l.backs.length bc] [.int .i64 xo,.int .i64 xa,.int .i64 xb,.int .i64 xc,.int .i64 xn] [.func (.func 18) #[] #[.pointer (some ⟨z2,0,none⟩),.pointer (some ⟨z1,0,none⟩),.pointer (some ⟨z3,0,none⟩)]] u11 j (nT ((ls.take j).map (kK m f s.inn))) rs (pre.foldl (gB m f s.inn l) (jE f l)) W)
      B w4.heap.size wB.heap.size ⟨pa,pl,pc,some ⟨cbb,cbo,none⟩,f.code.length,cc⟩ f rfl rfl hn0 hn1 (by have:=HI6.out.ti.lq;omega) oz (HFO.out.same (aQ.of hbw6 hB)) X6 ⟨?_,?_,?_⟩ ?_ ?_ ?_ ?_ HI6.out ?_ ?_
     ·rintro pre W k h (rfl|rfl)
      ·exact h.tb.lo.1
      ·exact h.tb.hi.1
     ·rintro pre W W' k h hb hk;exact hk
     ·rintro pre W k h (rfl|rfl)<;>omega
     ·rintro pre W h (e|e)<;>omega
     ·rintro pre W W' h hb;exact h.below hb
     ·rintro pre W W' h hc;exact h.turn hc oz hkA hzz oz oz oz oz (fun r hr=>by have:=HI6.out.ma.lt r hr;omega)
     ·rintro pre W W' k h hc;exact Iff.rfl
     ·clear HI6 X6;apply Exists.intro;constructor
      ·exact aHo
      ·rintro l' pre x W hT hok2 hsz;obtain⟨v,hxv,hvn,hun⟩:=kT f x (hok2.subset si);have HNX:Hid (x.2∈aY f x.1):=qd (by
        have h:=hok2.subset (show x∈pre++[x] by simp);obtain⟨u,y⟩:=x;dsimp only at hxv;subst hxv;exact((lY f u v).1 h).2.2)
       obtain⟨u,y⟩:=x;dsimp only at hxv hun HNX ⊢;subst hxv;have HTR:=qd hT;have hbW:Below w.heap.size w W:=hT.ti.be;have hzW:=hbW.size;have l4:=hU hT.tb.l;have a2:=aD hT.ti.ca;have rd0:=(hT.ti.b.rd hun).1;have hci:=tC ma l.members.length mc l.members (u:Int) _ W (HMW.out W hT.ti.l);have HCI:=qd hci;have hul:(u:Int)<(f.code.length:Int):=oz
       have HEI:=qd (hT.ti.b.ei u hun);have hS:Hid (s.inn.getD u []=[]\/gU rg' (s.inn.getD u [])):=qd (HSO.out.inn u hun);have hst:(pre++[(u,(v:Int))]).foldl (gB m f s.inn l) (jE f l)=gB m f s.inn l (pre.foldl (gB m f s.inn l) (jE f l)) (u,(v:Int)):=by rw[List.foldl_append,List.foldl_cons,List.foldl_nil]
       generalize pre.foldl (gB m f s.inn l) (jE f l)=lh at *;have HST:=qd hst;clear hT hci hst hok2;have hnil:∀ (w:World) (a:Option Addr) (n c:Nat),(binOp .eql 39 (.slice a n c) (.slice none 0 0)).run Tryz.prog w=.ok (.bool a.isNone) w:=fun w a n c=>Lib.run_eql_slice_nil w _ 47 a n c 0 0 kr;have HTS:Hid (gB m f s.inn l lh (u,(v:Int))=lh->TR N A f.code.length rg' w.heap.size (w.heap.size+1) w1.heap.size W2.heap.size [.slice ta tl tc,.slice (some ⟨fb,fo,none⟩) fl fc] [.string f.name,.slice pa pl pc,.int .i64 rg',.int .i64 f.words,.slice (some ⟨cbb,cbo,none⟩) f.code.length cc] [.slice (some ⟨A.ib,0,none⟩) f.code.length A.ic,.slice (some ⟨A.cb,0,none⟩) f.code.length A.cc] fn (.slice (some ⟨g,0,none⟩) ls.length lc) L s w w4.heap.size z0 z1 z2 z3 z4 [.int .i64 l.head,.int .i64 l.parent,.slice ma l.members.length mc,.slice ba l.backs.length bc] [.int .i64 xo,.int .i64 xa,.int .i64 xb,.int .i64 xc,.int .i64 xn] [.func (.func 18) #[] #[.pointer (some ⟨z2,0,none⟩),.pointer (some ⟨z1,0,none⟩),.pointer (some ⟨z3,0,none⟩)]] u11 j (nT ((ls.take j).map (kK m f s.inn))) rs ((pre++[(u,(v:Int))]).foldl (gB m f s.inn l) (jE f l)) W):=qd (fun h=>by rw[HST.out,h];exact HTR.out);by_cases c1:v=l.head
       ·subst c1;have q1:(((l.head:Nat):Int)!=((l.head:Nat):Int))=false:=si
        by_cases c2:l.members.contains (u:Int)=true
        ·rw[c2]at HCI;have hsame:gB m f s.inn l lh (u,((l.head:Nat):Int))=lh:=by unfold gB;rw[if_pos (.inr (.inl c2))]
         have HT2:=qd (HTS.out hsame);clear hsame HTS c2;gi_wp2_with (first|(refine⟨trivial,rfl,?_⟩;gi_at_call 23;refine(dF HCI.out).mono ?_;rintro e w7 ⟨rfl,hw7⟩;have hw8:=hw7.symm;subst hw8)|fail)
         exact aIf
        ·have c2':l.members.contains (u:Int)=false:=by simpa using c2
         rw[c2']at HCI;rcases HEI.out with⟨h1,h2⟩|⟨ob,oc,h1,h2,h3⟩
         ·rw[h1]at rd0;have hsame:gB m f s.inn l lh (u,((l.head:Nat):Int))=lh:=by unfold gB;rw[if_pos (.inr (.inr h2))]
          have HT2:=qd (HTS.out hsame);unfold jF at rd0;dsimp only at rd0;have hn1:=fun w=>hnil w none 0 0;dsimp only[Option.isNone_none]at hn1;clear hsame HTS c2 c2' HEI h1 h2 hnil;gi_wp2_with (first|(refine⟨trivial,rfl,?_⟩;gi_at_call 23;refine(dF HCI.out).mono ?_;rintro e w7 ⟨rfl,hw7⟩;have hw8:=hw7.symm;subst hw8)|fail)
          exact aIf
         ·rw[h1]at rd0;unfold jF at rd0;dsimp only at rd0;have hn1:=fun w=>hnil w (some ⟨ob,0,none⟩) rg' oc;dsimp only[Option.isNone_some]at hn1;have hne:s.inn.getD u []≠[]:=fun e=>by
           have h9:=h2.len;rw[e]at h9;simp at h9;omega
          have hlok:gU rg' (s.inn.getD u []):=hS.out.resolve_left hne;obtain⟨res,hres⟩:∃ q,gP m f u ((l.head:Nat):Int) (s.inn.getD u [])=q:=⟨_,rfl⟩
          have hte:gB m f s.inn l lh (u,((l.head:Nat):Int))=aJ8 (f.code.getD l.head default) lh res:=by
           rw[aLt m f s.inn l lh u (by
            rintro(h|h)
            ·exact c2 h
            ·exact hne h),hres]
          have HTE:=qd hte;have HEC:Hid (∀ w',Below W.heap.size W w'->Calls Tryz.prog 24 #[.agg #[.slice ta tl tc,.slice (some ⟨fb,fo,none⟩) fl fc],.int .i64 fn,.int .i64 u,.int .i64 l.head,.slice (some ⟨ob,0,none⟩) rg' oc] w' fun e w2=>∃ v,e=.returned v/\((∃ gv,v=.tuple #[gv,.bool res.isSome]/\∀ out,res=some out->∃ g cap,gv=.slice (some ⟨g,0,none⟩) rg' cap/\bF w2 g rg' cap out/\W.heap.size<=g)/\Below W.heap.size W w2)):=qd (fun w' hw=>by
           have hb2:Below w.heap.size w w':=hbW.trans (hw.mono hbW.size);have h:=aS1 B m fn u ((l.head:Nat):Int) ta (some ⟨fb,fo,none⟩) tl tc fl fc ob oc rg' (s.inn.getD u []) w' (Nat.le_trans hB hb2.size) hB0 (HM.out.same (aQ.of hb2 hB)) (HRW.out.same (aQ.of hb2 lr) HRW.out.1 hb2.size) HE.out hfn (by rw[HFE.out];exact HRG.out) (by rw[HFE.out];exact hun) (by rw[HFE.out];exact HNX.out) (h2.below hw) hlok;rw[HFE.out,hres]at h;refine h.mono ?_;rintro e w2 ⟨v,rfl,hb3,ho⟩;exact⟨_,rfl,⟨v,rfl,fun out h=>by
            obtain⟨g,cap,e1,e2,e3⟩:=ho out h;exact⟨g,cap,e1,e2,Nat.le_trans hw.size e3⟩⟩,hw.trans (hb3.mono hw.size)⟩)
          have HSS:Hid (∀ w',Below W.heap.size W w'->w'.cell? ⟨w.heap.size,0,none⟩=some (.slice ta tl tc)/\w'.cell? ⟨w.heap.size,1,none⟩=some (.slice (some ⟨fb,fo,none⟩) fl fc)/\w'.cell? ⟨w.heap.size+1,0,none⟩=some (.int .i64 fn)/\w'.cell? ⟨w1.heap.size,0,none⟩=some (.slice (some ⟨A.ib,0,none⟩) f.code.length A.ic)/\w'.cell? ⟨A.ib,u,none⟩=some (.slice (some ⟨ob,0,none⟩) rg' oc)):=qd (fun w' hw=>by
           have c2:=aD (HTR.out.ti.cm.below hw);have c1:=dG (HTR.out.ti.ci.below hw);have a2:=aD (HTR.out.ti.ca.below hw);exact⟨c2.2.1,c2.2.2.1,c1.2.1,a2.2.1,(hw.cell (p:=⟨A.ib,u,none⟩) (bJ HTR.out.ti.b.ri)).trans rd0⟩)
          have hcf:∀ (args:Array Value) (w:World),(callFunc 24 args).run Tryz.prog w=.ok (.enter 24 args) w:=fun _ _=>rfl;clear c2 c2' HEI h1 h2 hnil hne hlok hres hte hS;gi_wp2_with (first|(refine⟨trivial,rfl,?_⟩;gi_at_call 23;refine(dF HCI.out).mono ?_;rintro e w7 ⟨rfl,hw7⟩;have hw8:=hw7.symm;subst hw8)|fail)
          clear rd0 hn1 l4 a2 HCI;generalize hA0:(Act.mk _ _:Act)=a0;have Ee:a0.eval (.tmp 2)=.pointer (some ⟨w.heap.size,0,none⟩)/\a0.eval (.tmp 3)=.pointer (some ⟨w.heap.size+1,0,none⟩)/\a0.eval (.tmp 6)=.pointer (some ⟨w1.heap.size,0,none⟩)/\a0.eval (.tmp 18)=.int .i64 u/\a0.eval (.tmp 19)=.int .i64 l.head/\a0.tmps.size=130:=by rw[<-hA0];exact⟨rfl,rfl,rfl,rfl,rfl,rfl⟩
          refine fR (fun w'=>Below W.heap.size W w') kr kr ((Below.refl _ W).drew) ?_;intro K0 hK0 hHeld
          try dsimp only at hHeld
          refine aL 0 rfl ?_;refine aL 1 rfl ?_;refine aL 2 rfl ?_;refine aL 3 rfl ?_;refine aL 4 rfl ?_;refine aL 5 rfl ?_;refine aL 6 rfl ?_;refine aL 7 rfl ?_;refine aL 8 rfl ?_;generalize hA1:(Act.put _ _ _:Act)=a1;replace Ee:a1.eval (.tmp 100)=.agg #[.slice ta tl tc,.slice (some ⟨fb,fo,none⟩) fl fc]/\a1.eval (.tmp 101)=.int .i64 fn/\a1.eval (.tmp 102)=.int .i64 u/\a1.eval (.tmp 103)=.int .i64 l.head/\a1.eval (.tmp 108)=.slice (some ⟨ob,0,none⟩) rg' oc/\a1.tmps.size=130:=oZ;refine fD 9 rfl fun K hK=>?_;refine aP rfl 24 [.tmp 100,.tmp 101,.tmp 102,.tmp 103,.tmp 108] #[25,3,3,3,39] rfl hcf [.agg #[.slice ta tl tc,.slice (some ⟨fb,fo,none⟩) fl fc],.int .i64 fn,.int .i64 u,.int .i64 l.head,.slice (some ⟨ob,0,none⟩) rg' oc] iD _ (HEC.out _ hHeld) ?_;rintro v wE ⟨⟨gv,rfl,hgo⟩,hbE⟩;refine hK.out _ _ (hbE) fun hHeld=>?_;clear hK K;generalize hA2:(Act.put _ _ _:Act)=a2;replace Ee:a2.eval (.tmp 109)=.tuple #[gv,.bool res.isSome]/\a2.tmps.size=130:=mQ;refine aL 10 rfl ?_;generalize hA3:(Act.put _ _ _:Act)=a3;replace Ee:a3.eval (.tmp 99)=.tuple #[gv,.bool res.isSome]/\a3.tmps.size=130:=rV;refine aL 11 rfl ?_;refine aL 12 rfl ?_;generalize hA4:(Act.put _ _ _:Act)=a4;replace Ee:a4.eval (.tmp 110)=gv/\a4.eval (.tmp 111)=.bool res.isSome/\a4.tmps.size=130:=xE;refine aL 13 rfl ?_;refine aL 14 rfl ?_;refine aO kr ?_;refine hK0.out _ _ ?_;subst hA4;subst hA3;subst hA2;subst hA1;subst hA0;clear Ee;simp only[GE,Act.put,SU];cases res with
          | none =>
           have HT2:=qd ((HTS.out HTE.out).below hbE);gi_wp2;exact⟨fun k h1 h2=>hbE.block k oz,⟨aG.of hbE,fun k h=>.inl h⟩,HT2.out⟩
          | some out =>
           obtain⟨g2,cap,rfl,hs2,hg2⟩:=hgo out rfl;have HTE2:=qd (HTR.out.below hbE);have f1:=dG HTE2.out.tb.f;have hzE:=hbE.size;have hcm:=aEg z2 z1 z3 lh.1 lh.2 ⟨xo,xa,xb,xc,xn⟩ g2 rg' cap out wE HTE2.out.tb.lo HTE2.out.tb.hi HTE2.out.tb.c hs2 HIF.out.a0 hxa1 HIF.out.b0 hxb1 hrg64 oz;have HCM:=qd hcm;clear hcm hs2;gi_wp2_with (first|(refine⟨trivial,rfl,?_⟩;gi_at_call 18;refine(dF HCM.out).mono ?_;rintro e w8 ⟨rfl,hl8,hh8,hc8⟩)|fail)
           have hcT:aG (fun k=>k=z2\/k=z3) W w8:=(aG.of hbE).trans hc8;refine⟨fun k h1 h2=>hcT.block k oz oz,⟨hcT,fun k h=>.inl h⟩,?_⟩;rw[HST.out,HTE.out,HX.out];unfold aJ8;exact HTE2.out.come hc8 hl8 hh8 hq0 hz01 hz12 hz23 hz34 HOU.out HMR.out
       ·have q1:((v:Int)!=((l.head:Nat):Int))=true:=by simp;omega
        have hsame:gB m f s.inn l lh (u,(v:Int))=lh:=by unfold gB;rw[if_pos (.inl (by omega))]
        have HT2:=qd (HTS.out hsame);clear hsame HTS;gi_wp2;refine⟨trivial,?_⟩;gi_wp2;exact aIf
     ·rintro W7 hT hD;have hfold:(aW f).foldl (gB m f s.inn l) (jE f l)=sL m f s.inn l (aW f):=rfl;rw[hfold]at hT;have hN:kK m f s.inn l=wH (sL m f s.inn l (aW f)):=rfl;generalize sL m f s.inn l (aW f)=lh at *;obtain⟨⟨plo,phi⟩,⟨qlo,qhi⟩⟩:=lh;have HT:=qd hT;have HD:=qd hD;have HN:=qd hN;have p2:=aD (show aF W7 z2 [.int .i64 plo,.int .i64 phi]from hT.tb.lo);have p3:=aD (show aF W7 z3 [.int .i64 qlo,.int .i64 qhi]from hT.tb.hi);have hlen:=aD6 ⟨plo,phi⟩ ⟨qlo,qhi⟩ W7;unfold aJ at hlen;dsimp only at hlen;have HLen:=qd hlen;have hzw7:w6.heap.size<W7.heap.size:=(Array.getElem?_eq_some_iff.1 hD).1;have hMK8:Hid (dO w4.heap.size (w6.heap.size::rs) W7):=qd (hT.ma.cons (fun x hx=>by have:=HMR.out x hx;omega) oz hD);clear hT hD hfold hN hlen HI6 X6 hzz;go_upto_if 120 with(fail)
      go_cut [22]from 116 to 124 (fun v wc=>v=.int .u64 (kK m f s.inn l)/\Below W7.heap.size W7 wc)
      case first =>
       by_cases hle:plo<=phi
       ·have hv:kI ⟨plo,phi⟩ ⟨qlo,qhi⟩=kK m f s.inn l:=by rw[HN.out];unfold wH;rw[if_pos hle]
        have HV:=qd hv;clear hv;go_wp2_with (first|(go_at_call 25;refine HLen.out.mono ?_;rintro e w8 ⟨rfl,hb8⟩)|fail)
        go_meet;exact⟨by rw[HV.out],hb8⟩
       ·have hv:kK m f s.inn l=0:=by rw[HN.out];unfold wH;rw[if_neg hle]
        have HV:=qd hv;clear hv;go_wp2;go_meet;exact⟨by rw[HV.out],Below.refl _ _⟩
      case rest =>
       obtain⟨rfl,hb8⟩:=hcut;obtain⟨w8,hw8⟩:∃ wb:World,wb=wc:=⟨_,rfl⟩
       subst hw8;have hz8:=hb8.size;have hro8:=qd (aA hb8 HT.out.ro);go_wp2_with (first|(at_builtin;refine bO rfl (.tmp 124) (.tmp 126) 27 34 1 8 (.int .u64 0) rfl Tryz.underlying27 kr rfl dc _ _ _ rfl (aA eN hro8.out) ⟨w8.heap.size,0,none⟩ 1 1 (nT [kK m f s.inn l]) rfl rfl (cC (aF.new' _ _ _ _ rfl)) (aCp _) bH oz dc ?_;intro g4 c4 w9 hr9 hc9 hg9)|fail)
       have hz9:=hc9.size;simp at hz9;have hcA:aG (fun k=>u11.ownBlock=some k) w8 w9:=(aG.of eN).trans hc9;have hTI9:=(HT.out.ti.below hb8).keep hcA (fun x e=>hov x e);have hMK9:dO w4.heap.size (w6.heap.size::rs) w9:=(hMK8.out.below hb8).chg hcA (fun r o hr ho=>aLh hro8.out r o hr ho);refine Handed.intro (ls.length-(j+1)) (by have:=HGK.out;omega) (HJ.out _ _ _ ⟨j+1,.slice (some ⟨g4,0,none⟩) (j+1) c4,w6.heap.size::rs,rfl,oz,rfl,rfl,rfl,rfl,rfl,rfl,rfl,rfl,rfl,rfl,qd hTI9,qd ?_,?_,qd hMK9⟩)
       ·rw[HTK.out,List.map_append];unfold nT at hr9 ⊢;rw[List.map_append];exact hr9
       ·intro k hk;have e:g4=k:=eL hk
        subst e;rcases hg9 with h|h
        ·exact hov _ h
        ·simp at h;have:=HT.out.ti.lq;omega
   ·obtain rfl:j=ls.length:=oz
    have d3:¬(ls.length:Int)<(ls.length:Int):=oz
    rw[List.take_length]at HO;go_wp2;refine aC7 rs wr HMK.out (fun W' hW=>?_);have hzq:=HT.out.lq;have hbt:=HT.out.be.trans (hW.below.mono oz);have hot:=gE (b:=w4.heap.size) hW HO.out;clear HMK;refine⟨.tuple #[u11,.int .i64 0],by simp[results,Tryz.results6,go_sem],s,HRU.out,u11,by rw[HTP.out],?_,hbt,fun k hk=>Nat.le_trans hzq.2.2.2.2.1 (hov k hk)⟩;rw[HTP.out];dsimp only;rw[List.length_map];exact hot
 ·have q7:(fe==0)=false:=by simpa using hfe0
  have q8:(fe != 0)=true:=by simpa using hfe0
  go_wp2_with (first|(go_at_call 17;refine HFL.out.mono ?_;rintro e w4 ⟨v4,L,rfl,hb4,hL,hLm⟩)|fail)
  try rw[Exit.noGoto_ret]
  have htp:gW m f s.inn=([],fe):=by unfold gW;rw[HFD.out];dsimp only;rw[if_neg hfe0]
  refine⟨.tuple #[.slice none 0 0,.int .i64 fe],by simp[results,Tryz.results6,go_sem],s,.slice none 0 0,HRU.out,?_,?_,?_,fun k hk=>by simp[Value.ownBlock]at hk⟩
  ·rw[htp]
  ·rw[htp];exact World.ownsRow_nil _ _ _ _
  ·exact hb3.trans (hb4.mono oz)
theorem aMu (B:Nat) (m:bA) (fn:Nat) (ta fa:Option Addr) (tl tc fl fc:Nat) (w:World) (hB:B<=w.heap.size) (hB0:0<B) (hmo:cP B w (.agg #[.slice ta tl tc,.slice fa fl fc]) m) (hr:eO w) (he:(dS m).e=0) (hfn:fn<m.funcs.length) :
 Calls Tryz.prog 6 #[.agg #[.slice ta tl tc,.slice fa fl fc],.int .i64 fn] w (aP6 m fn w) :=
 (aBw B m fn ta fa tl tc fl fc w hB hB0 hmo hr he hfn).mono fun _ _ ⟨s,v,h1,h2,h3,h4,_⟩=>⟨s,v,h1,h2,h3,h4⟩
end
section
attribute [local go_sem] Oper.semAt_some
theorem aKy (B:Nat) (m:bA) (fn:Int) (ta fa:Option Addr) (tl tc fl fc:Nat) (w:World) (hB:B<=w.heap.size) (hB0:0<B) (hmo:cP B w (.agg #[.slice ta tl tc,.slice fa fl fc]) m) (hr:eO w) (he:(dS m).e≠0) :
 Calls Tryz.prog 6 #[.agg #[.slice ta tl tc,.slice fa fl fc],.int .i64 fn] w fun e w'=>e=.returned (.tuple #[.slice none 0 0,.int .i64 (dS m).e])/\Below w.heap.size w w':=by
 have HM:=qd hmo;have HRW:=qd hr;have HRun:=qd (fun w' hB hmo hr=>aSn B m fn ta fa tl tc fl fc w' hB hB0 hmo hr he);obtain⟨fe,hfe⟩:∃ q,(dS m).e=q:=⟨_,rfl⟩
 rw[hfe]at he HRun ⊢;have hq:(fe != 0)=true:=by simpa using he
 clear hmo hr hfe;refine(callsIn_wide (n:=3)).1 ?_;refine callsIn_of_wp_marks Tryz.func6 rfl trivial ?_ rfl;refine wpIn_wide.2 ?_;simp only[Tryz.ntmps6,List.size_toArray,List.length_cons,List.length_nil,Nat.reduceAdd,Nat.reduceSub,Array.replicate_succ,Array.replicate_zero,List.push_toArray,List.append_toArray,List.nil_append,List.cons_append];go_upto_region 1 with(fail)
 generalize hW0:World.alloc _ _=W0;have hb0:Below w.heap.size w W0:=by rw[<-hW0];exact bel
 have OM:aF W0 w.heap.size [.slice ta tl tc,.slice fa fl fc]:=mR
 have OI:aF W0 (w.heap.size+1) [.int .i64 fn]:=lG
 have hz0:w.heap.size+2=W0.heap.size:=by rw[<-hW0];simp
 have hz0':w.heap.size+2<=W0.heap.size:=oz
 have m2:=aD OM;have i1:=dG OI;have HC:=qd (HRun.out W0 oz (HM.out.same (aQ.of hb0 hB)) (HRW.out.same (aQ.of hb0 lr) HRW.out.1 hb0.size));clear hW0 HRun hz0;go_wp2_with (first|(go_at_call 16;refine HC.out.mono ?_;rintro e w1 ⟨rfl,hb1⟩)|fail)
 try rw[Exit.noGoto_ret]
 have hbe:Below w.heap.size w w1:=hb0.trans (hb1.mono oz);refine⟨.tuple #[.slice none 0 0,.int .i64 fe],by simp[results,Tryz.results6,go_sem],rfl,?_⟩
 first|exact hbe.alloc hbe.size _|exact(hbe.alloc hbe.size _).drew|exact hbe
end
/-- a row of numbers, read -/
def lN (w:World) (a:Option Addr) (n:Nat) (l:List Int):Prop:=l.length=n/\n<=maxLen/\∃ b o,(0<n->a=some ⟨b,o,none⟩/\b<w.heap.size)/\∀ i,i<n->w.cell? ⟨b,o+i,none⟩=some (.int .u64 (l.getD i 0))
theorem lN.below {w w':World}{a:Option Addr}{n:Nat}{l:List Int}(h:lN w a n l) (hb:Below w.heap.size w w'):lN w' a n l:=by
 obtain⟨e,m,b,o,x,y⟩:=h;exact⟨e,m,b,o,fun h=>⟨(x h).1,Nat.lt_of_lt_of_le (x h).2 hb.size⟩,fun i hi=>(hb.cell (p:=⟨b,o+i,none⟩) (x oz).2).trans (y i hi)⟩
theorem lN.ofRow {w:World}{v:Value}{l:List Int}(h:w.ownsRow 0 34 1 v l.length (nT l)) (hm:l.length<=maxLen):∃ a c,v=.slice a l.length c/\lN w a l.length l:=by
 rcases bU h with⟨rfl,h0,_⟩|⟨g,c,rfl,_⟩
 ·exact⟨none,0,by rw[h0],rfl,hm,0,0,fun q=>by omega,fun i hi=>by omega⟩
 ·exact⟨_,c,rfl,rfl,hm,g,0,fun _=>⟨rfl,bJ h⟩,fun i hi=>by
   rw[Nat.zero_add];exact aH h (by unfold nT;rw[List.getElem?_map,List.getD_eq_getElem?_getD,List.getElem?_eq_getElem hi];rfl)⟩
theorem lN.one {w:World}{k:Nat}{x:Int}(h:aF w k [.int .u64 x]):lN w (some ⟨k,0,none⟩) 1 [x] :=
 ⟨rfl,(show 1<=maxLen by decide),k,0,fun _=>⟨rfl,h.1⟩,fun i hi=>by
  obtain rfl:i=0:=oz
  exact h.2.1 0 _ rfl⟩
theorem aRw {l1 l2:List Int}{k:Nat}(h:l1.take k=l2.take k) (h1:k<l1.length) (h2:k<l2.length) (he:l1.getD k 0=l2.getD k 0):l1.take (k+1)=l2.take (k+1):=by
 rw[List.take_add_one,List.take_add_one,h];rw[List.getD_eq_getElem?_getD,List.getD_eq_getElem?_getD,List.getElem?_eq_getElem h1,List.getElem?_eq_getElem h2]at he;rw[List.getElem?_eq_getElem h1,List.getElem?_eq_getElem h2];have:l1[k]=l2[k]:=he;rw[this]
theorem vH (a1 a2:Option Addr) (n1 n2 c1 c2:Nat) (l1 l2:List Int) (w:World) (h1:lN w a1 n1 l1) (h2:lN w a2 n2 l2) :
 Calls Tryz.prog 10 #[.slice a1 n1 c1,.slice a2 n2 c2] w fun e w'=>e=.returned (.bool (decide (l1=l2)))/\Below w.heap.size w w':=by
 obtain⟨R,hR⟩:∃ q,decide (l1=l2)=q:=⟨_,rfl⟩
 rw[hR];have HR:=qd hR;clear hR;have H1:=qd h1;have H2:=qd h2;obtain⟨e1,m1,-⟩:=h1;obtain⟨e2,m2,-⟩:=h2;unfold maxLen at m1 m2;have E1:=qd e1;have E2:=qd e2;clear e1 e2;go_enter Tryz.func10,Tryz.ntmps10;by_cases hl:n1=n2
 ·subst hl;have q:((n1:Int)!=(n1:Int))=false:=si
  go_wp2;go_loopw [5] (fun i wr=>∃ k:Nat,k<=n1/\i=.int .i64 k/\Below w.heap.size w wr/\Hid (l1.take k=l2.take k)) (fun i _=>n1-(intOf i).toNat)
  case atStart=>exact⟨0,Nat.zero_le _,rfl,Below.refl _ _,qd rfl⟩
  case round =>
   obtain⟨k,hk,rfl,hbel,HT⟩:=hrel;have hz:=hbel.size;by_cases hlt:k<n1
   ·have d2:(k:Int)<(n1:Int):=oz
    obtain⟨-,-,b1,o1,x1,y1⟩:=H1.out.below hbel;obtain⟨-,-,b2,o2,x2,y2⟩:=H2.out.below hbel;obtain⟨rfl,z1⟩:=x1 oz;obtain⟨rfl,z2⟩:=x2 oz;have r1:=y1 k hlt;have r2:=y2 k hlt;clear x1 x2 y1 y2;have hwk:IntKind.i64.wrap ((k:Int)+1)=(k:Int)+1:=IntWalk.i64_in _ oz;have hx:Hid (l1.getD k 0=l2.getD k 0->l1.take (k+1)=l2.take (k+1)):=qd (fun h=>aRw HT.out (by rw[E1.out];exact hlt) (by rw[E2.out];exact hlt) h);have hy:Hid (l1.getD k 0≠l2.getD k 0->R=false):=qd (fun h=>by
     rw[<-HR.out,decide_eq_false_iff_not];intro e;rw[e]at h;exact h rfl)
    generalize l1.getD k 0=p1 at *;generalize l2.getD k 0=p2 at *;by_cases hp:p1=p2
    ·subst hp;have q2:(p1 != p1)=false:=si
     go_wp2;refine bC 8 kr kr ?_;simp only[TD];repeat(refine bS (fun K hK=>?_);go_simp;refine hK _ ?_;clear hK K)
     refine cF ?_;go_wp2;refine⟨⟨k+1,oz,si,bel,qd (by first|exact hx.out rfl|exact hx.out trivial)⟩,?_⟩;go_light;exact ml
    ·have q2:(p1 != p2)=true:=by simpa using hp
     have hRf:=hy.out hp;go_wp2;refine bC 8 kr kr ?_;simp only[TD];repeat(refine bS (fun K hK=>?_);go_simp;refine hK _ ?_;clear hK K)
     refine cF ?_;go_wp2
     try rw[Exit.noGoto_ret]
     go_ret;exact⟨by rw[hRf];rfl,bel⟩
   ·have d2:¬(k:Int)<(n1:Int):=oz
    obtain rfl:k=n1:=oz
    have hRt:R=true:=by
     rw[<-HR.out,decide_eq_true_eq];have h:=HT.out;rw[List.take_of_length_le (by rw[E1.out];exact Nat.le_refl _),List.take_of_length_le (by rw[E2.out];exact Nat.le_refl _)]at h;exact h
    go_wp2;go_ret;exact⟨by first|(rw[hRt];rfl)|rfl,bel⟩
 ·have q:((n1:Int)!=(n2:Int))=true:=by simp;omega
  have hRf:R=false:=by
   rw[<-HR.out,decide_eq_false_iff_not];intro e;exact hl (by rw[<-E1.out,<-E2.out,e])
  go_wp2
  try rw[Exit.noGoto_ret]
  go_ret;exact⟨by rw[hRf];rfl,Below.refl _ _⟩
def aU2 (lo hi:Int):List Value:=[.int .i64 1,.int .i64 0,.int .i64 0,.int .i64 0,.int .i64 lo,.int .i64 1,.int .i64 1,.int .i64 0,.int .i64 0,.int .i64 hi,.int .i64 17,.int .i64 0,.int .i64 1,.int .i64 0,.int .i64 4,.int .i64 18,.int .i64 0,.int .i64 0,.int .i64 0,.int .i64 2,.int .i64 0,.int .i64 0,.int .i64 0,.int .i64 0,.int .i64 0]
theorem aVd {W:World}{B cb fb:Nat}{lo hi:Int}(hlo:aM lo) (hhi:aM hi) (o1:aF W cb (aU2 lo hi)) (o2:aF W fb [.string ⟨#[102]⟩,.slice none 0 0,.int .i64 2,.int .i64 0,.slice (some ⟨cb,0,none⟩) 5 5]) (h1:cb<B) (h2:fb<B) :
 cP B W (.agg #[.slice none 0 0,.slice (some ⟨fb,0,none⟩) 1 1]) (mM ⟨#[102]⟩ lo hi):=by
 obtain⟨_,f0,f1,f2,f3,f4,_⟩:=aX o2;refine⟨_,_,_,_,_,_,rfl,⟨rfl,dc,0,0,fun h=>absurd h dc,fun i h=>absurd h (Nat.not_lt_zero i)⟩,rfl,dc,fb,0,fun _=>⟨rfl,h2⟩,fun _=>⟨none,0,0,some ⟨cb,0,none⟩,5,5⟩,fun i hi=>?_⟩;obtain rfl:i=0:=oz
 refine⟨⟨f0,f1,f2,f3,f4⟩,(show 1<=maxLen by decide),⟨rfl,Nat.zero_le _,0,0,fun h=>absurd h (Nat.lt_irrefl 0),fun i h=>absurd h (Nat.not_lt_zero i)⟩,⟨rfl,(by decide:5<=maxLen),cb,0,fun _=>⟨rfl,h1⟩,fun j hj=>?_⟩,(show aM 2 from⟨dc,dc⟩),(show aM 0 from⟨dc,dc⟩)⟩;have hj:j<5:=hj;have c:=o1.2.1;rcases(show j=0\/j=1\/j=2\/j=3\/j=4 by omega)with rfl|rfl|rfl|rfl|rfl
 ·exact⟨⟨c 0 _ rfl,c 1 _ rfl,c 2 _ rfl,c 3 _ rfl,c 4 _ rfl⟩,(show aM 1 from⟨dc,dc⟩),(show aM 0 from⟨dc,dc⟩),(show aM 0 from⟨dc,dc⟩),(show aM 0 from⟨dc,dc⟩),hlo⟩
 ·exact⟨⟨c 5 _ rfl,c 6 _ rfl,c 7 _ rfl,c 8 _ rfl,c 9 _ rfl⟩,(show aM 1 from⟨dc,dc⟩),(show aM 1 from⟨dc,dc⟩),(show aM 0 from⟨dc,dc⟩),(show aM 0 from⟨dc,dc⟩),hhi⟩
 ·exact⟨⟨c 10 _ rfl,c 11 _ rfl,c 12 _ rfl,c 13 _ rfl,c 14 _ rfl⟩,(show aM 17 from⟨dc,dc⟩),(show aM 0 from⟨dc,dc⟩),(show aM 1 from⟨dc,dc⟩),(show aM 0 from⟨dc,dc⟩),(show aM 4 from⟨dc,dc⟩)⟩
 ·exact⟨⟨c 15 _ rfl,c 16 _ rfl,c 17 _ rfl,c 18 _ rfl,c 19 _ rfl⟩,(show aM 18 from⟨dc,dc⟩),(show aM 0 from⟨dc,dc⟩),(show aM 0 from⟨dc,dc⟩),(show aM 0 from⟨dc,dc⟩),(show aM 2 from⟨dc,dc⟩)⟩
 ·exact⟨⟨c 20 _ rfl,c 21 _ rfl,c 22 _ rfl,c 23 _ rfl,c 24 _ rfl⟩,(show aM 0 from⟨dc,dc⟩),(show aM 0 from⟨dc,dc⟩),(show aM 0 from⟨dc,dc⟩),(show aM 0 from⟨dc,dc⟩),(show aM 0 from⟨dc,dc⟩)⟩
theorem oL (lo hi:Int) (hlo:aM lo) (hhi:aM hi) (w:World):Calls Tryz.prog 34 #[.int .i64 lo,.int .i64 hi] w fun e w'=>∃ fb,e=.returned (.agg #[.slice none 0 0,.slice (some ⟨fb,0,none⟩) 1 1])/\cP w'.heap.size w' (.agg #[.slice none 0 0,.slice (some ⟨fb,0,none⟩) 1 1]) (mM ⟨#[102]⟩ lo hi)/\Below w.heap.size w w':=by
 go_enter Tryz.func34,Tryz.ntmps34;go_wp2;generalize hW:World.alloc _ _=W;have O0:aF W w.heap.size [.slice none 0 0,.slice (some ⟨w.heap.size+1+1,0,none⟩) 1 1]:=by rw[<-hW];exact((aF.new _ _ _).alloc _).alloc _
 have O1:aF W (w.heap.size+1) (aU2 lo hi):=by rw[<-hW];exact(aF.new' _ (aU2 lo hi) _ _ si).alloc _
 have O2:aF W (w.heap.size+1+1) [.string ⟨#[102]⟩,.slice none 0 0,.int .i64 2,.int .i64 0,.slice (some ⟨w.heap.size+1,0,none⟩) 5 5]:=by rw[<-hW];exact aF.new' _ _ _ _ si
 have hb:Below w.heap.size w W:=by rw[<-hW];exact bel
 have c2:=aD O0;clear hW;refine bodyPost_ret (v:=.agg #[.slice none 0 0,.slice (some ⟨w.heap.size+1+1,0,none⟩) 1 1]) (by simp[results,Tryz.results34,go_sem,c2]) rfl ?_;exact⟨w.heap.size+1+1,rfl,aVd hlo hhi O1 O2 O1.1 O2.1,hb⟩
theorem aJn (lo hi:Int):(dS (mM ⟨#[102]⟩ lo hi)).e=0:=kr
/-- trips.Of of a counting function -/
theorem aOt (lo hi:Int) (hlo:aM lo) (hhi:aM hi) (fb:Nat) (w:World) (hm:cP w.heap.size w (.agg #[.slice none 0 0,.slice (some ⟨fb,0,none⟩) 1 1]) (mM ⟨#[102]⟩ lo hi)) (hr:eO w) :
 Calls Tryz.prog 6 #[.agg #[.slice none 0 0,.slice (some ⟨fb,0,none⟩) 1 1],.int .i64 0] w fun e w'=>∃ a c,e=.returned (.tuple #[.slice a 1 c,.int .i64 0])/\lN w' a 1 [kI ⟨lo,lo⟩ ⟨hi,hi⟩]/\Below w.heap.size w w':=by
 have h:=aMu w.heap.size (mM ⟨#[102]⟩ lo hi) 0 none (some ⟨fb,0,none⟩) 0 0 1 1 w lr hr.1 hm hr (aJn lo hi) (by show 0<1;decide);refine h.mono ?_;rintro e w' ⟨s,v,hruns,rfl,hrow,hb⟩;have ht:=aKl ⟨#[102]⟩ lo hi s hruns;have hf:bX (mM ⟨#[102]⟩ lo hi) 0=dE ⟨#[102]⟩ lo hi:=rfl;rw[hf,ht]at hrow;obtain⟨a,c,rfl,hu⟩:=lN.ofRow hrow (show 1<=maxLen by decide);exact⟨a,c,by rw[hf,ht];rfl,hu,hb⟩
theorem aEq (w:World) (hr:eO w):Calls Tryz.prog 9 #[] w fun e w'=>e=.returned (.bool true)/\Below w.heap.size w w':=by
 have i0:aM 0:=⟨dc,dc⟩
 have i1:aM 1:=⟨dc,dc⟩
 have i10:aM 10:=⟨dc,dc⟩
 have i4:aM (-4):=⟨dc,dc⟩
 have HC1:=qd (oL 0 10 i0 i10);have HC2:=qd (oL 0 (-4) i0 i4);have HC3:=qd (oL 0 1 i0 i1);have HO1:=qd (aOt 0 10 i0 i10);have HO2:=qd (aOt 0 (-4) i0 i4);have HO3:Hid (∀ fb (w:World),cP w.heap.size w (.agg #[.slice none 0 0,.slice (some ⟨fb,0,none⟩) 1 1]) (mM ⟨#[102]⟩ 0 1)->eO w->Calls Tryz.prog 6 #[.agg #[.slice none 0 0,.slice (some ⟨fb,0,none⟩) 1 1],.int .i64 1] w fun e w'=>e=.returned (.tuple #[.slice none 0 0,.int .i64 1])/\Below w.heap.size w w'):=qd (fun fb w hm hr=>aCl w.heap.size (mM ⟨#[102]⟩ 0 1) 1 none (some ⟨fb,0,none⟩) 0 0 1 1 w lr hr.1 hm hr (aJn 0 1) (.inr dc));have e10:kI ⟨0,0⟩ ⟨10,10⟩=10:=dc
 have e4:kI ⟨0,0⟩ ⟨-4,-4⟩=0:=dc
 rw[e10]at HO1;rw[e4]at HO2;clear i0 i1 i10 i4 e10 e4;have HR:=qd hr;clear hr;go_enter Tryz.func9,Tryz.ntmps9;go_upto_region 2 with(first|(go_at_call 34;refine(HC1.out _).mono ?_;rintro e w1 ⟨fb1,rfl,hm1,hb1⟩;have r1:=HR.out.same (aQ.of hb1 lr) HR.out.1 hb1.size;have HO:=qd (HO1.out fb1 w1 hm1 r1);have HR1:=qd r1;clear hm1 r1 HC1 HO1)|(go_at_call 6;refine HO.out.mono ?_;rintro e w2 ⟨a1,c1,rfl,hu1,hb2⟩;have hb12:=hb1.trans (hb2.mono hb1.size);have HU1:=qd hu1;clear hu1 HO hb1 hb2 HR1)|fail)
 have HR2:=qd (HR.out.same (aQ.of hb12 lr) HR.out.1 hb12.size);go_upto_region 3 with(first|(go_at_call 34;refine(HC2.out _).mono ?_;rintro e w3 ⟨fb2,rfl,hm3,hb3⟩;have r3:=HR2.out.same (aQ.of hb3 lr) HR2.out.1 hb3.size;have HO:=qd (HO2.out fb2 w3 hm3 r3);have HR3:=qd r3;clear hm3 r3 HC2 HO2)|(go_at_call 6;refine HO.out.mono ?_;rintro e w4 ⟨a2,c2,rfl,hu2,hb4⟩;have hb34:=hb3.trans (hb4.mono hb3.size);have HU2:=qd hu2;have HU1b:=qd (HU1.out.below hb34);clear hu2 HO hb3 hb4 HU1)|fail)
 have HR4:=qd (HR2.out.same (aQ.of hb34 lr) HR2.out.1 hb34.size);go_upto_region 4 with(first|(go_at_call 34;refine(HC3.out _).mono ?_;rintro e w5 ⟨fb3,rfl,hm5,hb5⟩;have r5:=HR4.out.same (aQ.of hb5 lr) HR4.out.1 hb5.size;have HO:=qd (HO3.out fb3 w5 hm5 r5);clear hm5 r5 HC3 HO3)|(go_at_call 6;refine HO.out.mono ?_;rintro e w6 ⟨rfl,hb6⟩;have hb56:=hb5.trans (hb6.mono hb5.size);clear HO hb5 hb6)|fail)
 have U1:=qd (HU1b.out.below hb56);have U2:=qd (HU2.out.below hb56);have hbw6:Below w.heap.size w w6:=(hb12.trans (hb34.mono hb12.size)).trans (hb56.mono (by have:=hb12.size;have:=hb34.size;omega));clear hb12 hb34 hb56 HR2 HR3 HR4 HU1b HU2;go_wp2_with (first|(go_at_call 10;first|(refine(vH a1 _ 1 1 c1 1 [10] [10] _ (U1.out.below eN) (lN.one (aF.new _ _ _))).mono ?_;rintro e w7 ⟨rfl,hb7⟩;have hb67:Below w6.heap.size w6 w7:=eN.trans (hb7.mono si);clear U1)|(refine(vH a2 _ 1 1 c2 1 [0] [0] _ ((U2.out.below hb67).below eN) (lN.one (aF.new _ _ _))).mono ?_;rintro e w8 ⟨rfl,hb8⟩))|fail)
 have hb78:Below w7.heap.size w7 w8:=eN.trans (hb8.mono si);have hz1:=hbw6.size;have hz2:=hb67.size;go_ret;exact⟨rfl,(hbw6.trans (hb67.mono hz1)).trans (hb78.mono oz)⟩
end Go.Proofs.YteebpnbdihcfmaaGreatDoor
