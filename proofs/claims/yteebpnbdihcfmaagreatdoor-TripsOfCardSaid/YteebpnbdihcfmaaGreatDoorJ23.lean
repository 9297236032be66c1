/- R14 -/
import Derived.Test.YteebpnbdihcfmaaGreatDoorJ19
set_option linter.unusedVariables false
set_option linter.unusedSimpArgs false
set_option maxRecDepth 100000
set_option maxHeartbeats 20000000
namespace Go.Proofs.YteebpnbdihcfmaaGreatDoor
open Go.RowKit
theorem aT1 {p:Prop}(h:p:=by
 refine bC 27 kr kr ?_;simp only[TD];repeat(refine bS (fun K hK=>?_);go_simp;refine hK _ ?_;clear hK K)
 refine cF ?_;go_wp2;have hft:Below wr.heap.size wr wr.drew:=(Below.refl _ _).drew;refine⟨⟨k+1,L,oz,si,qd (by first|exact hL.out.below hft|exact hL.out.below hft.drew|exact hL.out),qd (by rw[hL0.out,HPS.out]),hLl,qd (by first|exact hbx.out.trans (hft.mono hbx.out.size)|exact hbx.out.trans (hft.drew.mono hbx.out.size)|exact hbx.out)⟩,?_⟩;go_light;exact ml):p:=h
/-- append of what an own row holds, in a region that draws its order -/
theorem aBl {P:Program}{w:World}{ops:Array Oper}{o:Oper}{a:Act}{K:Act->World->Prop}{Q:Exit->Act->World->Prop}{E:Prop}(hgd:o.guard=none) (s x:Operand) (t e size bytes:Nat) (z:Value)
 (ho:o.op=.call { callee:=.builtin .append,args:=#[s,x],argTypes:=#[t,t] }) (ht:P.underlying t=some (.slice e)) (hinfo:(P.info? e).map (fun i=>(i.zero,i.size,i.bytes))=some (some z,size,bytes)) (hzs:z.cells.size=size) (hsz:0<size)
 (v:Value) (n:Nat) (xs:List Value) (hs:a.eval s=v) (hown:w.ownsRow 0 e size v n xs)
 (y:Value) (m:Nat) (news:List Value) (hx:a.eval x=y) (hy:w.ownsRow 0 e size y m news) (h1:∀ u∈news,u.oneCell'=true)
 (h63:n+m<=maxLen) (hbytes:(n+m)*bytes<=140737488355328)
 (h:∀ v' w',w'.ownsRow 0 e size v' (n+m) (xs++news)->aG (fun k=>v.ownBlock=some k) w w'->(∀ k,v'.ownBlock=some k->v.ownBlock=some k\/k=w.heap.size)->K (a.put o.dst v') w'):if Region.wanted o (yielded ops a.tmps)=true then o.wp P a w K Q else E:=by
 obtain⟨i0,hi,iz0,iz1,iz2⟩:=info_parts hinfo;have hw:Region.wanted o (yielded ops a.tmps)=true:=by simp[Region.wanted,hgd]
 rw[if_pos hw];rcases bU hy with⟨rfl,rfl,rfl⟩|⟨g,c,rfl,_⟩
 ·have hr:=run_append_owned_none (P:=P) w 0 t o.type e i0 size ht hi v n xs hown;unfold Oper.wp execOp;simp only[ho,resolve,invoke,builtin,Sem.run_bind,Sem.run_pure,Result.andThen_ok,List.map_toArray,List.map_cons,List.map_nil,hs,hx,hr];exact aRp
 ·refine sK w s x t ho e i0 z size bytes ht hi iz0 iz1 iz2 hzs hsz v n xs hs hown ⟨g,0,none⟩ m c news hx hy.1 (fun j u hu=>hy.cells (g:=g) rfl j u hu) h1 h63 hbytes ?_;intro v' w' h2 h3 h4;refine h v' w' h2 (jT h3) (fun k hk=>?_);rcases h4 with e|⟨e,_⟩
  ·left;rw[<-e];exact hk
  ·right;rw[e]at hk;exact(Option.some.inj hk).symm
theorem aId (a b:List (Nat×Int)):rQ (a++b)=rQ a++rQ b:=by simp[rQ]
theorem pK {w:World}{e size n:Nat}{v:Value}{xs:List Value}(h:w.ownsRow 0 e size v n xs):∃ a c,v=.slice a n c:=by
 rcases bU h with⟨rfl,rfl,_⟩|⟨g,c,rfl,_⟩
 ·exact⟨none,0,rfl⟩
 ·exact⟨_,c,rfl⟩
theorem aNi {p:Prop}(h:p:=by
 go_upto_region 35 with(fail)
 refine bC 14 kr kr ?_;simp only[TD];repeat(refine bS (fun K hK=>?_);go_simp;refine hK _ ?_;clear hK K)
 refine cF ?_;go_upto_region 36 with(first|(go_at_call 14;refine(HDq.out _ (Below.refl _ _).drew).mono ?_;rintro e w3 ⟨rfl,rfl⟩)|fail)
 exact aT1):p:=h
theorem aUt {p:Prop}(h:p:=by
 go_upto_region 35 with(fail)
 refine bC 14 kr kr ?_;simp only[TD];repeat(refine bS (fun K hK=>?_);go_simp;refine hK _ ?_;clear hK K)
 refine cF ?_;go_upto_region 36 with(first|(go_at_call 14;refine(HDq.out _ (Below.refl _ _).drew).mono ?_;rintro e w3 ⟨rfl,rfl⟩)|fail)
 refine bC 27 kr kr ?_;simp only[TD];repeat(refine bS (fun K hK=>?_);go_simp;refine hK _ ?_;clear hK K)
 refine cF ?_;go_wp2;have hft:Below wr.heap.size wr wr.drew:=(Below.refl _ _).drew;have hLp:∀ W:World,Below wr.heap.size wr W->bR (W.setCell ⟨g,a*4+1,none⟩ (.int .i64 (k:Int))) (.slice (some ⟨g,0,none⟩) nl lc) (L.set a (oO Ti (k:Int))):=fun W hW=>by
  have h1:bR W (.slice (some ⟨g,0,none⟩) L.length lc) L:=by rw[hLl];exact hL.out.below hW
  have h2:=h1.par hTi (k:Int);rw[hLl]at h2;exact h2
 refine⟨⟨k+1,L.set a (oO Ti (k:Int)),oz,si,qd (by first|exact hLp _ hft|exact hLp _ hft.drew|exact hLp _ (Below.refl _ _)),qd (by rw[aJ4 L a k Ti hTi,hTi2,hL0.out,HYS.out]),by rw[List.length_set];exact hLl,qd (by first|exact(hbx.out.trans (hft.mono hbx.out.size)).setCell (p:=⟨g,a*4+1,none⟩) hgw _|exact(hbx.out.trans (hft.drew.mono hbx.out.size)).setCell (p:=⟨g,a*4+1,none⟩) hgw _)⟩,?_⟩;go_light;exact ml):p:=h
theorem aLb (B:Nat) (hh:HF) (f:aC) (w:World) (hB:B<=w.heap.size) (hf:aZ B w hh f) (hn0:0<f.code.length) (hn:f.code.length<=1024) :
 Calls Tryz.prog 12 #[aI hh f] w (qP f w):=by
 have HFP:Hid (jI f=match iG f.code.length (eG (GL f))with
  | some v=>([],70,(v:Int))
  | none=>match (cG f).find? (fun l=>decide ((cS f l).1≠0))with
   | some l=>([],cS f l)
   | none=>(yK (cG f),0,0)):=qd (by unfold jI;rw[if_neg (by omega)];rfl)
 have HSp:=qd (fun w' (h:Below w.heap.size w w')=>aGk B hh f w' (Nat.le_trans hB h.size) (hf.same (aQ.of h hB)) hn0 hn);have HFo:=qd hf;have hel:=jV f;have hsl:=aMo f;have HN1:=qd (aB4 f).1;have HN2:=qd (aB4 f).2;have hal:(eJ f (aW f)).length<=2048:=oz
 have hbl:(fK f (aW f)).length<=2048:=oz
 have HN3:Hid (∀ x∈eJ f (aW f)++fK f (aW f),∃ v:Nat,x.2=v/\v<f.code.length/\x.1<f.code.length):=qd (fun x hx=>by
  rcases List.mem_append.1 hx with h|h
  ·exact HN1.out x h
  ·exact HN2.out x h)
 have HFROM:Hid (aTz f=bW (eJ f (aW f)++fK f (aW f)) true):=qd rfl;have HOF:Hid (bW (fK f (aW f)) true=GL f 2):=qd (funext (aE2 f));have HRC:=qd (fun(v:Nat) (b:Bool) (h:b=true↔Cl (fun x=>bW (eJ f (aW f)) false x.toNat) (fun _=>false) (bW (eJ f (aW f)) false v) v)=>aEf h);generalize eJ f (aW f)=EA at *;generalize fK f (aW f)=EB at *;obtain⟨pa,pl,pc,ca,cl,cc⟩:=hh;obtain⟨h1,h2,⟨hcl,hcm,hcx⟩,h4,h5⟩:=hf;dsimp only at *;subst hcl;clear h2 hcm hcx h1 h4 h5 hsl;unfold aI at *;dsimp only at *;have q1:¬(1024:Int)<(f.code.length:Int):=oz
 go_enter Tryz.func12,Tryz.ntmps12;go_upto_region 4 with(first|(go_at_call 37;refine(HSp.out _ bel).mono ?_;rintro e w1 ⟨va,vb,rfl,hb1,hra,hrb,hva,hvb,hvd⟩)|fail)
 have OB1:=qd ((aF.new w [.string f.name,.slice pa pl pc,.int .i64 f.regs,.int .i64 f.words,.slice ca f.code.length cc] 42).below hb1);have hbw1:Below w.heap.size w w1:=eN.trans (hb1.mono si);have hz1:w.heap.size<w1.heap.size:=OB1.out.1;obtain⟨aa,ac,rfl⟩:=pK hra;obtain⟨ba,bc,rfl⟩:=pK hrb;have HRA:=qd hra;have HRB:=qd hrb;have f5:=aX OB1.out;have HL1:=qd (fun w' (h:Below w1.heap.size w1 w')=>sC f.code.length EA false aa ac w' (aA h HRA.out) HN1.out oz hn0 hn);have HL2:=qd (fun w' (h:Below w1.heap.size w1 w')=>sC f.code.length EB true ba bc w' (aA h HRB.out) HN2.out oz hn0 hn);have HL3:=qd (fun w' (e3:Option Addr) (c3:Nat) (h:w'.ownsRow 0 77 2 (.slice e3 (EA++EB).length c3) (EA++EB).length (rQ (EA++EB)))=>sC f.code.length (EA++EB) true e3 c3 w' h HN3.out (by rw[List.length_append];omega) hn0 hn);clear hra hrb hb1 HSp hva hvb hvd;go_upto_region 5 with(first|(go_at_call 38;refine(HL1.out _ (Below.refl _ _)).mono ?_;rintro e w2 ⟨wb,S1,rfl,hb2,hwl,hF1,hN1⟩)|fail)
 have hbw2:=hbw1.trans (hb2.mono oz);have hz2:=hb2.size;have HF1:=qd hF1;have HNa:=qd hN1;have HB12:=qd hb2;have HGb:=qd (fun v x (hx:x∈bW EA false v)=>yW (n:=f.code.length) HN1.out hx);have HGl:=qd (fun v=>Nat.le_trans (sJ EA false v) (show EA.length<=4096 by omega));clear hF1 hN1 f5 hb2 HL1;go_wp2;go_loopw [8] (fun i wr=>∃ j:Nat,j<=f.code.length/\i=.int .i64 j/\Hid (∀ i,i<j->eG (GL f) i=false)/\Hid (Below w2.heap.size w2 wr)) (fun i _=>f.code.length-(intOf i).toNat)
 case atStart=>exact⟨0,Nat.zero_le _,rfl,qd (fun i hi=>by omega),qd (Below.refl _ _)⟩
 case round =>
  obtain⟨j,hj,rfl,hno,hbr⟩:=hrel;have hzr:=hbr.out.size;have hb1r:=HB12.out.trans (hbr.out.mono hz2);have f5:=aX (OB1.out.below hb1r);by_cases hjt:j<f.code.length
  ·have d2:(j:Int)<(f.code.length:Int):=oz
   have hwj:IntKind.i64.wrap ((j:Int)+1)=(j:Int)+1:=IntWalk.i64_in _ oz;have HRo:=qd (aHn f.code.length (wb+1) wb j (bW EA false) S1 wr (HF1.out.below hbr.out) HNa.out HGb.out HGl.out hjt hn);go_upto_region 9 with(first|(go_at_call 39;refine HRo.out.mono ?_;rintro e w3 ⟨b,rfl,hbi,hb3⟩)|fail)
   have hcb:=HRC.out j b hbi;have hb13:=hb1r.trans (hb3.mono oz);have HB23:=qd (hbr.out.trans (hb3.mono hzr));have hbw3:=hbw1.trans (hb13.mono oz);clear hbi f5 HRo hb3;cases b
   ·go_wp2;refine⟨⟨j+1,oz,si,qd (fun i hi=>?_),HB23⟩,?_⟩
    ·by_cases e:i=j
     ·subst e;exact hcb.symm
     ·exact hno.out i oz
    ·go_light;exact ml
   ·have hfi:=eA f.code.length (eG (GL f)) j hjt hcb.symm hno.out;have HE:=HFP.out;rw[hfi]at HE;have HE2:=qd HE;clear HE hfi hcb;go_wp2
    try rw[Exit.noGoto_ret]
    refine bodyPost_ret (v:=.tuple #[.slice none 0 0,.int .i64 70,.int .i64 j]) (by simp[results,Tryz.results12,go_sem]) rfl ?_;exact⟨_,[],by rw[HE2.out],hbw3,bR.nil _,by rw[HE2.out];rfl⟩
  ·obtain rfl:j=f.code.length:=oz
   have d2:¬(f.code.length:Int)<(f.code.length:Int):=oz
   have hfi:=eB f.code.length (eG (GL f)) hno.out;rw[hfi]at HFP;have HX:=HFP.out;dsimp only at HX;have HFQ:=qd HX;clear HX HFP hfi hno HF1 HNa HGb HGl HRC;have HRA2:=qd (aA hb1r HRA.out);have HRB2:=qd (aA hb1r HRB.out);have HSS:Hid (∀ w',Below wr.heap.size wr w'->w'.cell? ⟨w.heap.size,4,none⟩=some (.slice ca f.code.length cc)/\True):=qd (fun w' h=>⟨(h.cell (show w.heap.size<_ by omega)).trans f5.2.2.2.2.2.1,trivial⟩);obtain⟨w3,hw3⟩:∃ w3:World,w3=wr:=⟨_,rfl⟩
   subst hw3;have hbw3:=hbw1.trans (hb1r.mono oz);go_upto_region 11 with(fail)
   clear f5 hbr;refine aE (fun w'=>Below w3.heap.size w3 w') kr ((Below.refl _ w3).drew) ?_;intro K0 hK0 hHeld
   (refine fH 0 rfl ?_ (by intro w' hSw;obtain⟨s0,-⟩:=HSS.out w' hSw;go_simp;(try with_reducible rfl));try simp only[Act.put,SU])
   (refine fH 1 rfl ?_ (by intro w' hSw;obtain⟨s0,-⟩:=HSS.out w' hSw;go_simp;(try with_reducible rfl));try simp only[Act.put,SU])
   (refine fH 2 rfl ?_ (by intro w' hSw;obtain⟨s0,-⟩:=HSS.out w' hSw;go_simp;(try with_reducible rfl));try simp only[Act.put,SU])
   (refine fH 4 rfl ?_ (by intro w' hSw;obtain⟨s0,-⟩:=HSS.out w' hSw;go_simp;(try with_reducible rfl));try simp only[Act.put,SU])
   (refine fH 6 rfl ?_ (by intro w' hSw;obtain⟨s0,-⟩:=HSS.out w' hSw;go_simp;(try with_reducible rfl));try simp only[Act.put,SU])
   (refine wpAnyH_ready (rs:=[3]) kr si ?_;refine iB rfl (fun K hK=>?_) AllReadyH.nil)
   go_simp
   refine hK.out _ _ ?_ (fun hHeld=>?_);(focus((try dsimp only);any_goals (exact eN.drew)));clear hK K;try simp only[Act.put,SU]
   have T0:(w3.alloc (.cells #[] 77)).drew.ownsRow 0 77 2 (.slice (some ⟨w3.heap.size,0,none⟩) 0 0) 0 []:=aA (Below.refl _ _).drew (eE w3 _ 2 rfl);have hb4:Below w3.heap.size w3 (w3.alloc (.cells #[] 77)).drew:=eN.drew;generalize hW4:(w3.alloc (.cells #[] 77)).drew=W4 at T0 hb4 hHeld ⊢
   (refine wpAnyH_ready (rs:=[5]) kr si ?_;refine iB rfl (fun K hK=>?_) AllReadyH.nil)
   refine aBl rfl (.tmp 51) (.tmp 52) 73 77 2 16 (.agg #[.int .i64 0,.int .i64 0]) rfl Tryz.underlying73 Tryz.infoEg rfl dc (.slice (some ⟨w3.heap.size,0,none⟩) 0 0) 0 [] rfl T0 (.slice aa EA.length ac) EA.length (rQ EA) rfl (aA hb4 HRA2.out) (tE _) bH oz ?_;intro v5 w5 hr5 hc5 hg5;rw[Nat.zero_add,List.nil_append]at hr5;have hb5:Below w3.heap.size w3 w5:=hb4.trans (hc5.below w3.heap.size hb4.size (fun q hq e=>by have e2:w3.heap.size=q:=eL e;omega));have hv5:∀ k,v5.ownBlock=some k->w3.heap.size<=k:=fun k hk=>by
    rcases hg5 k hk with e|e
    ·have e2:w3.heap.size=k:=eL e
     omega
    ·have:=hb4.size;omega
   refine hK.out _ _ ?_ (fun hHeld=>?_);(focus((try dsimp only);any_goals (exact hb5)));clear hK K;try simp only[Act.put,SU]
   (refine wpAnyH_ready (rs:=[7]) kr si ?_;refine iB rfl (fun K hK=>?_) AllReadyH.nil)
   refine aBl rfl (.tmp 53) (.tmp 54) 73 77 2 16 (.agg #[.int .i64 0,.int .i64 0]) rfl Tryz.underlying73 Tryz.infoEg rfl dc v5 EA.length (rQ EA) rfl hr5 (.slice ba EB.length bc) EB.length (rQ EB) rfl (aA hb5 HRB2.out) (tE _) bH oz ?_;intro v6 w6 hr6 hc6 hg6;rw[<-List.length_append,<-aId]at hr6;have hb6:Below w3.heap.size w3 w6:=hb5.trans (hc6.below w3.heap.size hb5.size (fun q hq e=>by have:=hv5 q e;omega));obtain⟨e3,c3,rfl⟩:=pK hr6;refine hK.out _ _ ?_ (fun hHeld=>?_);(focus((try dsimp only);any_goals (exact hb6)));clear hK K;try simp only[Act.put,SU]
   (refine wpAnyH_ready (rs:=[8]) kr si ?_;refine iB rfl (fun K hK=>?_) AllReadyH.nil)
   have hcf:∀ (args:Array Value) (w:World),(callFunc 38 args).run Tryz.prog w=.ok (.enter 38 args) w:=fun _ _=>rfl;refine aP rfl 38 [.tmp 50,.tmp 55,.const (.bool true)] #[3,73,4] rfl hcf [.int .i64 f.code.length,.slice e3 (EA++EB).length c3,.bool true] rfl (fun v w2=>∃ fb S,v=.slice (some ⟨fb,0,none⟩) f.code.length f.code.length/\Below w6.heap.size w6 w2/\w6.heap.size<=fb/\cK w2 (fb+1) fb f.code.length (bW (EA++EB) true) S/\uI (bW (EA++EB) true) S) ((HL3.out w6 e3 c3 hr6).mono (by rintro e w2 ⟨fb,S,rfl,h1,h2,h3,h4⟩;exact⟨_,rfl,fb,S,rfl,h1,h2,h3,h4⟩)) ?_;rintro v w7 ⟨fb,SF,rfl,hb67,hfl,hF3,hN3⟩;have hb7:Below w3.heap.size w3 w7:=hb6.trans (hb67.mono hb6.size);refine hK.out _ _ ?_ (fun hHeld=>?_);(focus((try dsimp only);any_goals (exact hb7)));clear hK K;try simp only[Act.put,SU]
   (refine wpAnyH_ready (rs:=[9]) kr si ?_;refine iB rfl (fun K hK=>?_) AllReadyH.nil)
   go_simp
   refine hK.out _ _ ?_ (fun hHeld=>?_);(focus((try dsimp only);any_goals (exact hb7)));clear hK K;try simp only[Act.put,SU]
   refine aO kr ?_;refine hK0.out _ _ ?_;have HF7:=qd hF3;have HN7:=qd hN3;have hz7:=hb7.size;have hb17:=hb1r.trans (hb7.mono oz);have f5:=aX (OB1.out.below hb17);clear hF3 hN3 hb67 hr6 hc6 hg6 hr5 hc5 hg5 hv5 hb4 hb5 hb6 hW4 T0 hHeld hK0 HSS HRA2 HRB2;go_upto_region 13 with(first|(go_at_call 38;refine(HL2.out _ hb17).mono ?_;rintro e w8 ⟨ob,SO,rfl,hb8,hol,hF4,hN4⟩)|fail)
   rw[HOF.out]at hF4 hN4;have hb18:=hb17.trans (hb8.mono hb17.size);have OB8:=qd (OB1.out.below hb18);have hbw8:Below w.heap.size w w8:=hbw1.trans (hb18.mono oz);have hz8:=hb8.size;have HFr:=qd (HF7.out.below hb8);have HOt:=qd hF4;have HON:=qd hN4;have HFc:=qd (HFo.out.same (aQ.of hbw8 hB));have hzw:w.heap.size<w8.heap.size:=oz
   have hfb:=bJ HFr.out.row;have hobl:=bJ hF4.row;have HG2:=qd (fun x (hx:x∈GL f 2 x.toNat->True)=>hx);clear HG2 hF4 hN4 hb8 HF7 f5 hb17 hb7 hb18 hb1r hbw3 hbw2 hbw1 HL2 HL3 HB12;go_upto_region 14 with(fail)
   generalize hW9:World.alloc _ _=W9;have hb89:Below w8.heap.size w8 W9:=by rw[<-hW9];exact eN
   have A0:bR W9 (.slice (some ⟨w8.heap.size,0,none⟩) 0 0) []:=⟨by rw[<-hW9];exact eE w8 _ 4 rfl,fun t ht=>by simp at ht,fun t ht=>by simp at ht⟩
   clear hW9;go_wp2;go_loopw [12,13] (fun v i wx=>∃ (h:Nat) (L:List jR),h<=f.code.length/\i=.int .i64 h/\Hid (bR wx v L)/\Hid (L.map (fun t=>t.1)=iY f h)/\Hid (∀ l∈iY f h,(cS f l).1=0)/\Hid (Below w8.heap.size w8 wx)/\(∀ k,v.ownBlock=some k->w8.heap.size<=k)) (fun _ i _=>f.code.length-(intOf i).toNat)
   case atStart=>exact⟨0,[],Nat.zero_le _,rfl,qd A0,qd rfl,qd (fun l hl=>by simp[iY,dQ]at hl),qd hb89,fun k hk=>by
    have e:w8.heap.size=k:=eL hk
    omega⟩
   case round =>
    clear A0 hb89;obtain⟨h,L,hh,rfl,HL,HM,HC0,hbx,hvb⟩:=hrel;have hzx:=hbx.out.size;have f5:=aX (OB8.out.below hbx.out);by_cases hht:h<f.code.length
    ·have d3:(h:Int)<(f.code.length:Int):=oz
     have hwh:IntKind.i64.wrap ((h:Int)+1)=(h:Int)+1:=IntWalk.i64_in _ oz;obtain⟨s,hs⟩:=HOt.out.at hht;have c0:=(HOt.out.below hbx.out).cell hs;obtain⟨sa,sc,rfl⟩:=HOt.out.form hs;have HSR:=qd (HOt.out.each h _ hs);have HSN:=qd (HON.out h _ hs);clear hs;obtain⟨la,lc,hlv⟩:=HL.out.form;subst hlv;by_cases h0:(GL f 2 h).length=0
     ·have q0:(((GL f 2 h).length:Int)==0)=true:=by rw[h0];rfl
      have hno:=aLr (List.eq_nil_of_length_eq_zero h0);clear h0;go_wp2;refine⟨⟨h+1,L,oz,si,HL,qd (by rw[hno];exact HM.out),qd (by rw[hno];exact HC0.out),hbx,hvb⟩,?_⟩;go_light;exact ml
     ·have q0:(((GL f 2 h).length:Int)==0)=false:=by simp;intro e;exact h0 (by rw[e];rfl)
      have hne:GL f 2 h≠[]:=fun e=>h0 (by rw[e];rfl);have HNE:=qd hne;clear h0 hne;obtain⟨wA,hwA⟩:∃ wo:World,wo=wr:=⟨_,rfl⟩
      subst hwA;go_upto_region 19 with(fail)
      generalize hWa:World.alloc _ _=Wa;have hba:Below wA.heap.size wA Wa:=by rw[<-hWa];exact eN
      have OL0:aF Wa wA.heap.size [.int .i64 h,.int .i64 (-1),.slice none 0 0,.slice sa (GL f 2 h).length sc]:=by rw[<-hWa];exact aF.new _ _ _
      have hza:wA.heap.size<Wa.heap.size:=OL0.1;have h8a:=hbx.out.trans (hba.mono hzx);have f5a:=aX (OB8.out.below h8a);have c0a:=(hba.cell (p:=⟨ob,h,none⟩) (by show ob<_;omega)).trans c0;have HMe:=qd (fun w' (hw:Below Wa.heap.size Wa w')=>aDq f.code.length (fb+1) fb h (bW (EA++EB) true) SF (GL f 2 h) (.slice sa (GL f 2 h).length sc) w' ((HFr.out.below h8a).below hw) HN7.out (fun v x hx=>yW HN3.out hx) (fun v=>Nat.le_trans (sJ _ true v) (by rw[List.length_append];omega)) hht hn (aA hw (aA h8a HSR.out)) HSN.out (fun x hx=>by
       obtain⟨k,hk,hkl,_⟩:=pG f 2 h x hx;exact⟨k,hk,hkl⟩) (by have:=(aHb f hn).ln 2 h;exact this))
      have OL1:=qd OL0;clear hWa OL0 c0 f5;refine bC 9 kr kr ?_;simp only[TD];repeat(refine bS (fun K hK=>?_);go_simp;refine hK _ ?_;clear hK K)
      refine cF ?_;go_upto_region 20 with(first|(go_at_call 40;refine(HMe.out _ ((Below.refl _ Wa).drew)).mono ?_;rintro e w10 ⟨been,rfl,hbn,hb10,hmk⟩)|fail)
      have hbe:been=gS (GL f) h:=aLo (by rw[HFROM.out];exact hbn);subst hbe;have hb10':Below Wa.heap.size Wa w10:=(Below.refl _ Wa).drew.trans hb10;have hzm:Wa.heap.size<w10.heap.size:=bJ hmk;obtain⟨mb,hmb⟩:∃ mb,Wa.heap.size=mb:=⟨_,rfl⟩
      have hmk':w10.ownsRow 0 4 1 (.slice (some ⟨mb,0,none⟩) f.code.length f.code.length) f.code.length (bQ (mkL f.code.length (gS (GL f) h))):=by rw[<-hmb];exact hmk
      have OL10:=qd (OL1.out.below hb10');have hbA0:=hba.trans (hb10'.mono oz);have hmbz:wA.heap.size<mb:=oz
      have HMK:=qd hmk';have HBA:=qd hbA0;have hmbl:mb<w10.heap.size:=oz
      have HPL:=qd (qF f hn h);have HLP:Hid ((bD f h).members=dQ f.code.length (gS (GL f) h)):=qd rfl;have hml:(dQ f.code.length (gS (GL f) h)).length<=1024:=Nat.le_trans (rL _ _) hn;have HPK:=qd (fun k=>mH k (gS (GL f) h));have HPKl:=qd (fun k=>rL k (gS (GL f) h));have hmbs:Wa.drew.heap.size=mb:=hmb;clear hbn hmk hmk' hb10 hb10' hbA0 hba f5a c0a HMe OL1 HSN h8a
      first|rw[hmbs]|rw[hmb]|skip
      go_wp2;go_loopw [16] (fun i wx=>∃ (k:Nat) (ms:Value),k<=f.code.length/\i=.int .i64 k/\Hid (aF wx wA.heap.size [.int .i64 h,.int .i64 (-1),ms,.slice sa (GL f 2 h).length sc])/\Hid (wx.ownsRow 0 3 1 ms (dQ k (gS (GL f) h)).length (aR (dQ k (gS (GL f) h))))/\(∀ q,ms.ownBlock=some q->mb<q)/\Hid (wx.ownsRow 0 4 1 (.slice (some ⟨mb,0,none⟩) f.code.length f.code.length) f.code.length (bQ (mkL f.code.length (gS (GL f) h))))/\Hid (Below wA.heap.size wA wx)) (fun i _=>f.code.length-(intOf i).toNat)
      case atStart=>exact⟨0,.slice none 0 0,Nat.zero_le _,rfl,OL10,qd (World.ownsRow_nil _ _ _ _),fun q hq=>by simp[Value.ownBlock]at hq,HMK,HBA⟩
      case round =>
       clear OL10 HMK HBA hzm hmbl;obtain⟨k,ms,hk,rfl,OL,HMs,hmv,HMK,HBA⟩:=hrel;have l4:=hU OL.out;have hzb:=HBA.out.size;by_cases hkt:k<f.code.length
       ·have d4:(k:Int)<(f.code.length:Int):=oz
        have hwk:IntKind.i64.wrap ((k:Int)+1)=(k:Int)+1:=IntWalk.i64_in _ oz;have ck:=aH HMK.out (j:=k) (u:=.bool (gS (GL f) h k)) (by unfold bQ;rw[List.getElem?_map,pJ _ hkt];rfl);have hps:=HPK.out k;have hkl:=HPKl.out k;have hmbr:=bJ HMK.out;cases hp:gS (GL f) h (k:Int)
        ·rw[hp]at ck hps;rw[if_neg (by simp)]at hps;have HPS:=qd hps;clear hps hp;go_wp2;refine⟨⟨k+1,ms,oz,si,OL,by rw[HPS.out];exact HMs,hmv,HMK,HBA⟩,?_⟩;go_light;exact ml
        ·rw[hp]at ck hps;rw[if_pos rfl]at hps;have HPS:=qd hps;clear hps hp;obtain⟨ma,mc,rfl⟩:=pK HMs.out;go_wp2_with (first|(at_builtin;refine bO rfl (.tmp 103) (.tmp 105) 50 3 1 8 (.int .i64 0) rfl Tryz.underlying50 Tryz.infoI rfl dc (.slice ma (dQ k (gS (GL f) h)).length mc) _ _ rfl (aA eN HMs.out) ⟨wr.heap.size,0,none⟩ 1 1 (aR [(k:Int)]) rfl rfl (cC (aF.new' _ _ _ _ rfl)) (bZ _) bH oz dc ?_;intro g6 c6 w6 hr6 hc6 hg6;have hcA:aG (fun q=>(Value.slice ma (dQ k (gS (GL f) h)).length mc).ownBlock=some q) wr w6:=(aG.of eN).trans hc6;have OL6:=hcA.own OL.out (fun e=>by have:=hmv _ e;omega);have l46:=hU OL6;clear l4 ck)|fail)
         have hz6:=hcA.size;have hg7:mb<g6:=by
          rcases hg6 with e|e
          ·exact hmv g6 e
          ·simp at e;omega
         have hst:aG (fun q=>q=wA.heap.size) w6 (w6.setCell ⟨wA.heap.size,2,none⟩ (.slice (some ⟨g6,0,none⟩) ((dQ k (gS (GL f) h)).length+1) c6)):=aG.setCell (S:=fun q=>q=wA.heap.size) (aG.refl _ _) (p:=⟨wA.heap.size,2,none⟩) (.inl rfl) _;refine⟨⟨k+1,.slice (some ⟨g6,0,none⟩) ((dQ k (gS (GL f) h)).length+1) c6,oz,si,qd (OL6.set 2 _ si),qd (by
          rw[HPS.out,List.length_append,bK];exact aN hst hr6 (fun q hq e=>by have e2:g6=q:=eL hq;omega)),fun q hq=>(by have e2:g6=q:=eL hq;omega),qd (aN hst (aN hcA HMK.out (fun q hq e=>by have e2:mb=q:=eL hq;have:=hmv q e;omega)) (fun q hq e=>by have e2:mb=q:=eL hq;omega)),qd ((HBA.out.trans (hcA.below wA.heap.size hzb (fun q hq e=>by have:=hmv q e;omega))).trans (hst.below wA.heap.size oz (fun q hq e=>by omega)))⟩,?_⟩
         go_light;exact ml
       ·obtain rfl:k=f.code.length:=oz
        have d4:¬(f.code.length:Int)<(f.code.length:Int):=oz
        obtain⟨ma,mc,rfl⟩:=pK HMs.out;have hbxr:=hbx.out.trans (HBA.out.mono hzx);have f5:=aX (OB8.out.below hbxr);have hr2:=aA hbxr HSR.out;obtain⟨hl1,hl2⟩:=HPL.out;obtain⟨ma',mc',e1,n1⟩:=cI.ofRow (B:=wr.heap.size) HMs.out (fun x hx=>(hl1 x hx).1) (fun i hi=>cA HMs.out hi);obtain⟨sa',sc',e2,n2⟩:=cI.ofRow (B:=wr.heap.size) hr2 (fun x hx=>(hl2 x hx).1) (fun i hi=>cA hr2 hi);cases e1;cases e2;have HFr2:aZ wr.heap.size wr ⟨pa,pl,pc,ca,f.code.length,cc⟩ f:=(HFc.out.same (aQ.of hbxr oz)).mono oz;have HCn:Hid (Calls Tryz.prog 41 #[.agg #[.string f.name,.slice pa pl pc,.int .i64 f.regs,.int .i64 f.words,.slice ca f.code.length cc],.agg #[.int .i64 h,.int .i64 (-1),.slice ma (dQ f.code.length (gS (GL f) h)).length mc,.slice sa (GL f 2 h).length sc]] wr fun e w'=>e=.returned (.tuple #[.int .i64 (cS f (bD f h)).1,.int .i64 (cS f (bD f h)).2])/\Below wr.heap.size wr w') :=
         qd (aEp wr.heap.size ⟨pa,pl,pc,ca,f.code.length,cc⟩ f (bD f h) ma sa mc sc wr lr HFr2 n1 n2 hht (fun x hx=>(hl1 x hx).2) (fun x hx=>(hl2 x hx).2) hn)
        have HFD:=qd (fun e=>aEo (f:=f) (h:=h) hht HNE.out HC0.out e);have hLl:L.length<=1024:=by
         have h1:=congrArg List.length HM.out;rw[List.length_map]at h1;have:=aAd f h;omega
        have hyes:=aH7 (f:=f) (h:=h) HNE.out;have HYES:=qd hyes;clear HFr2 n1 n2 hl1 hl2 hr2 HPK HPKl hyes;obtain⟨ce,hce⟩:∃ ce,ce=cS f (bD f h):=⟨_,rfl⟩
        rw[<-hce]at HCn HFD;have HCE:=qd hce;clear hce;obtain⟨ce1,ce2⟩:=ce;dsimp only at HCn;by_cases hc0:ce1=0
        ·subst hc0;go_upto_region 26 with(first|(go_at_call 41;refine HCn.out.mono ?_;rintro e w12 ⟨rfl,hb12⟩)|fail)
         have hz12:=hb12.size;have OL12:=OL.out.below hb12;have k4:=hU OL12;have hL12:=qd ((HL.out.below HBA.out).below hb12);have hm12:=qd (aA hb12 HMs.out);have hbA12:=HBA.out.trans (hb12.mono hzb);have hs12:=qd (aA (hbx.out.trans (hbA12.mono hzx)) HSR.out);clear l4 f5;go_wp2_with (first|(at_builtin;refine bO rfl (.tmp 118) (.tmp 120) 43 52 4 64 (.agg #[.int .i64 0,.int .i64 0,.slice none 0 0,.slice none 0 0]) rfl Tryz.underlying43 Tryz.infoL rfl dc (.slice la L.length lc) _ _ rfl (aA eN hL12.out.row) ⟨w12.heap.size,0,none⟩ 1 1 (gT (bD f h,.slice ma (dQ f.code.length (gS (GL f) h)).length mc,.slice sa (GL f 2 h).length sc)) rfl rfl (cC (aF.new' _ _ _ _ rfl)) aOh bH oz dc ?_;intro g4 c4 w4 hr4 hc4 hg4)|fail)
         have hc5:aG (fun i=>(Value.slice la L.length lc).ownBlock=some i) w12 w4:=(aG.of eN).trans hc4;have hz5:=hc5.size;have hvl:∀ i,(Value.slice la L.length lc).ownBlock=some i->w8.heap.size<=i/\i<wA.heap.size:=fun i hi=>⟨hvb i hi,cA HL.out.row hi⟩
         have hnb:∀ i,(Value.slice (some ⟨g4,0,none⟩) (L.length+1) c4).ownBlock=some i->(Value.slice la L.length lc).ownBlock=some i\/w12.heap.size<=i:=fun i hi=>by
          exact aO2
         have hP:=hL12.out.push (t:=(bD f h,.slice ma (dQ f.code.length (gS (GL f) h)).length mc,.slice sa (GL f 2 h).length sc)) hr4 hc5 hnb hm12.out hs12.out (fun i hi=>by
          have h1:=hvl i hi;exact⟨fun e=>by have:=hmv i e;omega,fun e=>by have:=cA HSR.out e;omega⟩)
         have HP:=qd hP;refine⟨⟨h+1,_,oz,si,HP,qd ?_,qd ?_,qd ((hbx.out.trans (hbA12.mono hzx)).trans (hc5.below w8.heap.size oz (fun i hi e=>by have:=hvl i e;omega))),fun i hi=>?_⟩,?_⟩
         ·rw[List.map_append,HM.out,HYES.out];rfl
         ·rw[HYES.out];intro l hl;rcases List.mem_append.1 hl with hl|hl
          ·exact HC0.out l hl
          ·obtain rfl:l=bD f h:=by simpa using hl
           rw[<-HCE.out]
         ·exact aOz
         ·go_light;exact ml
        ·have q7:(ce1==0)=false:=by simpa using hc0
         have q8:(ce1 != 0)=true:=by simpa using hc0
         go_wp2_with (first|(go_at_call 41;refine HCn.out.mono ?_;rintro e w12 ⟨rfl,hb12⟩)|fail)
         try rw[Exit.noGoto_ret]
         refine bodyPost_ret (v:=.tuple #[.slice none 0 0,.int .i64 ce1,.int .i64 ce2]) (by simp[results,Tryz.results12,go_sem]) rfl ?_;have e:=HFD.out hc0;have e3:=HFQ.out;rw[e]at e3;dsimp only at e3;rw[<-HCE.out]at e3;exact⟨_,[],by rw[e3],hbw8.trans ((hbx.out.trans ((HBA.out.trans (hb12.mono hzb)).mono hzx)).mono oz),bR.nil _,by rw[e3];rfl⟩
    ·obtain rfl:h=f.code.length:=oz
     have d3:¬(f.code.length:Int)<(f.code.length:Int):=oz
     have hfin:jI f=(yK (cG f),0,0):=by rw[HFQ.out,aFj HC0.out]
     rw[zG]at HM;have hlm:∀ x∈cG f,x.parent = -1/\((∀ y∈x.members,aM y)/\∀ y∈x.backs,aM y)/\(x.members.length:Int)<=1024:=fun x hx=>by
      unfold cG at hx;obtain⟨z,hz,rfl⟩:=List.mem_map.1 hx;obtain⟨l1,l2⟩:=qF f hn z.toNat;refine⟨rfl,⟨fun y hy=>(l1 y hy).1,fun y hy=>(l2 y hy).1⟩,?_⟩;have:(bD f z.toNat).members.length<=f.code.length:=rL _ _;omega
     have hlg:∀ i,i<(cG f).length->(cG f).getD i default∈cG f:=fun i hi=>by
      exact aP4
     have HPAR:=qd (fun i hi=>(hlm _ (hlg i hi)).1);have H64:=qd (fun x hx=>(hlm x hx).2.1);have HMM:=qd (fun i hi=>(hlm _ (hlg i hi)).2.2);have hll:L.length=(cG f).length:=by rw[<-HM.out,List.length_map]
     have hlb:(cG f).length<=1024:=Nat.le_trans (aAd f f.code.length) hn;have HFIN:=qd hfin;have hL0:Hid (L.map (fun t=>t.1)=lP (cG f) 0 0):=qd (by rw[HM.out,aBp _ HPAR.out]);obtain⟨la,lc,hlv⟩:=HL.out.form;subst hlv;clear hfin hlm hlg HC0 HM HFQ;generalize cG f=ls at *;obtain⟨nl,hnl⟩:∃ nl,nl=L.length:=⟨_,rfl⟩
     rw[<-hnl]at hll hvb HL ⊢;have HHL:=qd hll.symm;have hlb':nl<=1024:=oz
     have hLl:=hnl.symm;clear hnl hll;go_wp2;go_loopw [19] (fun i wx=>∃ (a:Nat) (L:List jR),a<=nl/\i=.int .i64 a/\Hid (bR wx (.slice la nl lc) L)/\Hid (L.map (fun t=>t.1)=lP ls a 0)/\L.length=nl/\Hid (Below w8.heap.size w8 wx)) (fun i _=>nl-(intOf i).toNat)
     case atStart=>exact⟨0,L,Nat.zero_le _,rfl,HL,hL0,hLl,hbx⟩
     case round =>
      clear HL hL0 hLl hbx hzx d3;obtain⟨a,L,ha,rfl,hL,hL0,hLl,hbx⟩:=hrel;by_cases hat:a<nl
      ·have d3:(a:Int)<(nl:Int):=oz
       have hwa:IntKind.i64.wrap ((a:Int)+1)=(a:Int)+1:=IntWalk.i64_in _ oz;obtain⟨g,cap,hv,hc1,hc2,-⟩:=bB hL.out.row oz;rw[hLl]at hv;cases hv;have hgw:w8.heap.size<=g:=hvb g rfl;obtain⟨wA,hwA⟩:∃ wA:World,wA=wr:=⟨_,rfl⟩
       subst hwA;go_wp2;go_loopw [20] (fun i wx=>∃ (k:Nat) (L:List jR),k<=nl/\i=.int .i64 k/\Hid (bR wx (.slice (some ⟨g,0,none⟩) nl lc) L)/\Hid (L.map (fun t=>t.1)=lP ls a k)/\L.length=nl/\Hid (Below w8.heap.size w8 wx)) (fun i _=>nl-(intOf i).toNat)
       case atStart=>exact⟨0,L,Nat.zero_le _,rfl,hL,hL0,hLl,hbx⟩
       case round =>
        clear hL hL0 hLl hbx d3;obtain⟨k,L,hk,rfl,hL,hL0,hLl,hbx⟩:=hrel;by_cases hkt:k<nl
        ·have d3:(k:Int)<(nl:Int):=oz
         have d4:(a:Int)<(nl:Int):=oz
         have hwk:IntKind.i64.wrap ((k:Int)+1)=(k:Int)+1:=IntWalk.i64_in _ oz;have hla:a<ls.length:=by rw[HHL.out];omega
         have hlk:k<ls.length:=by rw[HHL.out];omega
         obtain⟨ti,hti,e1,e2,e3,e4⟩:=aBq ls a k hla;obtain⟨tk,htk,f1,f2,f3⟩:=rE ls a k hlk;have hti':=hti;rw[<-hL0.out,List.getElem?_map]at hti htk;obtain⟨Ti,hTi,hTi2⟩:=Option.map_eq_some_iff.1 hti;obtain⟨Tk,hTk,hTk2⟩:=Option.map_eq_some_iff.1 htk;have hL':bR wr (.slice (some ⟨g,0,none⟩) L.length lc) L:=by rw[hLl];exact hL.out
         have h64':∀ t∈L,(∀ x∈t.1.members,aM x)/\∀ x∈t.1.backs,aM x:=fun t ht=>by
          exact aNw
         obtain⟨i0,i1,-,-⟩:=hL'.cells hTi;have hrdk:=hL'.rd h64' hTk;rw[hTi2]at i0 i1;rw[hTk2]at hrdk;rw[e1]at i0;rw[e4]at i1;have hgl2:g<wr.heap.size:=cA hL.out.row rfl;have zg:=hL'.row.frozenAt (a*4+1);obtain⟨ma,mc,ba2,bc2,c0,c1,c2,-,n1,-⟩:=hrdk;rw[f2]at c2 n1;have HDq:=qd (fun w' (hw:Below wr.heap.size wr w')=>aCb wr.heap.size ma (ls.getD k default).members.length mc (ls.getD k default).members ((ls.getD a default).head:Int) w' (n1.same (aQ.of hw lr)) hw.size);have hmk:=HMM.out k hlk;have HRD:=qd (fun(q:Nat) (hq:q<nl)=>show ∃ mq cq,wr.cell? ⟨g,q*4+2,none⟩=some (.slice mq (ls.getD q default).members.length cq)from(by
          obtain⟨tq,htq,u1,u2,u3⟩:=rE ls a k (j:=q) (by rw[HHL.out];exact hq);rw[<-hL0.out,List.getElem?_map]at htq;obtain⟨Tq,hTq,hTq2⟩:=Option.map_eq_some_iff.1 htq;obtain⟨mq,cq,_,_,_,_,h2,_⟩:=hL'.rd h64' hTq;rw[hTq2,u2]at h2;exact⟨mq,cq,h2⟩))
         obtain⟨hda,eha⟩:∃ x:Nat,(ls.getD a default).head=x:=⟨_,rfl⟩
         obtain⟨lk,elk⟩:∃ x:Nat,(ls.getD k default).members.length=x:=⟨_,rfl⟩
         rw[eha]at i0 HDq;rw[elk]at c2 HDq hmk;have HEH:=qd eha;have HEK:=qd elk;clear eha elk;have HBD:=qd (uZ ls a k);have HHI:=qd hti';have hlaH:=qd hla;clear c0 c1 e1 e2 e3 e4 f1 f2 f3 htk hti hti' hTk2 hTk hla hlk h64' n1;by_cases hak:a=k
         ·have q1:((k:Int)!=(a:Int))=false:=by simp[hak]
          have HPS:=qd (qU ls a k (fun h=>h.1 hak));clear hak;go_upto_region 35 with(fail)
          refine bC 16 kr kr ?_;simp only[TD];repeat(refine bS (fun K hK=>?_);go_simp;refine hK _ ?_;clear hK K)
          refine cF ?_;go_upto_region 36 with(fail)
          exact aT1
         ·have q1:((k:Int)!=(a:Int))=true:=by simp;omega
          have HAK:=qd hak;clear hak;by_cases hct:(ls.getD k default).members.contains (hda:Int)=true
          ·rw[hct]at HDq;have HCT:=qd hct;rcases HBD.out with hcur|⟨q,hq,hcur⟩
           ·have HYS:=qd (tQ ls a k hlaH.out ⟨HAK.out,by rw[HEH.out];exact HCT.out,.inl (by rw[hcur];decide)⟩ HHI.out);rw[hcur]at i1;clear hcur hct;exact aUt
           ·have hqn:q<nl:=oz
            have d6:(q:Int)<(nl:Int):=oz
            obtain⟨mq,cq,cq2⟩:=HRD.out q hqn;have q9:¬(q:Int)<0:=oz
            obtain⟨lq,elq⟩:∃ x:Nat,(ls.getD q default).members.length=x:=⟨_,rfl⟩
            rw[elq]at cq2;have HEQ:=qd elq;clear elq;have hcq:(jH ls a k).toNat=q:=by rw[hcur];simp
            rw[hcur]at i1;by_cases hlt:lk<lq
            ·have HYS:=qd (tQ ls a k hlaH.out ⟨HAK.out,by rw[HEH.out];exact HCT.out,.inr (by rw[hcq,HEK.out,HEQ.out];exact hlt)⟩ HHI.out);have hlt2:(lk:Int)<(lq:Int):=oz
             clear hcur hct hcq hlt;exact aUt
            ·have HPS:=qd (qU ls a k (fun h=>by have h3:=h.2.2;rw[hcq,hcur,HEK.out,HEQ.out]at h3;omega));have hlt2:¬(lk:Int)<(lq:Int):=oz
             clear hcur hct hcq hlt;exact aNi
          ·have HPS:=qd (qU ls a k (fun h=>hct (by rw[<-HEH.out];exact h.2.1)));have hcf:(ls.getD k default).members.contains (hda:Int)=false:=by cases e:(ls.getD k default).members.contains (hda:Int)with|true=>exact absurd e hct|false=>rfl
           rw[hcf]at HDq;clear hct hcf;exact aNi
        ·exact aTx
      ·have haa:nl=a:=oz
       subst haa;have d3:¬(nl:Int)<(nl:Int):=oz
       go_wp2
       try rw[Exit.noGoto_ret]
       refine bodyPost_ret (v:=.tuple #[.slice la nl lc,.int .i64 0,.int .i64 0]) (by simp[results,Tryz.results12,go_sem]) rfl ?_;refine⟨_,L,by rw[HFIN.out],hbw8.trans (hbx.out.mono hbw8.size),hL.out,?_⟩;rw[hL0.out,HFIN.out,<-HHL.out];exact aFy ls
end Go.Proofs.YteebpnbdihcfmaaGreatDoor
