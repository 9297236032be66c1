/- R16; R17 -/
import Derived.Test.YteebpnbdihcfmaaGreatDoorJ30
import Derived.Test.YteebpnbdihcfmaaGreatDoorJ29
import Derived.Test.YteebpnbdihcfmaaGreatDoorJ23
set_option linter.unusedVariables false
set_option linter.unusedSimpArgs false
set_option maxRecDepth 100000
set_option maxHeartbeats 20000000
namespace Go.Proofs.YteebpnbdihcfmaaGreatDoor
open Go.RowKit
theorem aPp (B:Nat) (m:bA) (fn:Int) (ta fa:Option Addr) (tl tc fl fc:Nat) (w:World) (hB:B<=w.heap.size) (hB0:0<B) (hmo:cP B w (.agg #[.slice ta tl tc,.slice fa fl fc]) m) (he:(dS m).e≠0) :
 Calls Tryz.prog 26 #[.agg #[.slice ta tl tc,.slice fa fl fc],.int .i64 fn] w fun e w'=>e=.returned (.tuple #[.agg #[.slice none 0 0,.slice none 0 0],.int .i64 (dS m).e])/\Below w.heap.size w w':=by
 have HM:=qd hmo;have HMay:=qd (fun w' hw=>aAn B (.agg #[.slice ta tl tc,.slice fa fl fc]) m w' hw hB0);obtain⟨fe,hfe⟩:∃ q,(dS m).e=q:=⟨_,rfl⟩
 rw[hfe]at he HMay ⊢;have hq:(fe != 0)=true:=by simpa using he
 have HFE:=qd hfe;clear hfe hmo;go_enter Tryz.func26,Tryz.ntmps26;go_upto_region 1 with(fail)
 generalize hW0:World.alloc _ _=W0;have hb0:Below w.heap.size w W0:=by rw[<-hW0];exact bel
 have OM:aF W0 w.heap.size [.slice ta tl tc,.slice fa fl fc]:=mR
 have OA:aF W0 (w.heap.size+1) [.slice none 0 0,.slice none 0 0]:=lG
 have hz0':w.heap.size+2<=W0.heap.size:=by rw[<-hW0];simp
 have m2:=aD OM;have HC:=qd (HMay.out W0 oz (HM.out.same (aQ.of hb0 hB)));clear hW0 HMay;have hfd:∀ (x y:Int) (w:World),(Instr.field 37 (.agg #[.int .i64 fe,.int .i64 x,.int .i64 y]) 0).run Tryz.prog w=.ok (.int .i64 fe) w:=by
  exact aHq
 go_upto_region 3 with(first|(go_at_call 11;refine HC.out.mono ?_;rintro e w1 ⟨rfl,hb1⟩;have m2b:=aD (OM.below hb1);have OA1:=OA.below hb1;clear m2)|fail)
 have hbe:Below w.heap.size w w1:=hb0.trans (hb1.mono oz);have hz1:=hb1.size;generalize hW2:World.alloc _ _=W2;obtain⟨hb2,OF2,hz2⟩:=aJh hW2;have OA2:=OA1.below hb2;have a2:=aD OA2;have sa:=cQ OA2;have q5:=gV OF2;have hbw2:=hbe.trans (hb2.mono hbe.size);have OA9:aF ((W2.setCell ⟨w.heap.size+1,0,none⟩ (.slice none 0 0)).setCell ⟨w.heap.size+1,1,none⟩ (.slice none 0 0)) (w.heap.size+1) [.slice none 0 0,.slice none 0 0]:=qR OA2;have hb9:Below w.heap.size w ((W2.setCell ⟨w.heap.size+1,0,none⟩ (.slice none 0 0)).setCell ⟨w.heap.size+1,1,none⟩ (.slice none 0 0)):=(hbw2.setCell (p:=⟨w.heap.size+1,0,none⟩) xH _).setCell (p:=⟨w.heap.size+1,1,none⟩) xH _;have hS9:((W2.setCell ⟨w.heap.size+1,0,none⟩ (.slice none 0 0)).setCell ⟨w.heap.size+1,1,none⟩ (.slice none 0 0)).cell? ⟨w1.heap.size,0,none⟩=some (.int .i64 fe):=(gV ((OF2.setOther (p:=⟨w.heap.size+1,0,none⟩) _ aCx).setOther (p:=⟨w.heap.size+1,1,none⟩) _ aCx)).2.1;have HSS:Hid (∀ w':World,w'.cell? ⟨w1.heap.size,0,none⟩=some (.int .i64 fe)->w'.cell? ⟨w1.heap.size,0,none⟩=some (.int .i64 fe)):=qd (fun _ h=>h);clear hW2 HC OM OA OA1 OF2 m2b HM;generalize hA0:(Act.mk _ _:Act)=a0;have Ee:a0.eval (.tmp 4)=.pointer (some ⟨w.heap.size+1,0,none⟩)/\a0.eval (.tmp 6)=.pointer (some ⟨w1.heap.size,0,none⟩)/\a0.tmps.size=165:=qB
 refine aE (fun w'=>w'.cell? ⟨w1.heap.size,0,none⟩=some (.int .i64 fe)) kr (q5.2.1) ?_;intro K0 hK0 hHeld
 try dsimp only at hHeld
 refine aL 0 rfl ?_;refine aL 1 rfl ?_;refine aL 2 rfl ?_;generalize hA1:(Act.put _ _ _:Act)=a1;replace Ee:a1.eval (.tmp 4)=.pointer (some ⟨w.heap.size+1,0,none⟩)/\a1.eval (.tmp 24)=.agg #[.slice none 0 0,.slice none 0 0]/\a1.eval (.tmp 26)=.int .i64 fe/\a1.tmps.size=165:=oZ;refine fD 3 rfl fun K hK=>?_;refine pA ?_;have h9:(((W2.drew).setCell ⟨w.heap.size+1,0,none⟩ (.slice none 0 0)).setCell ⟨w.heap.size+1,1,none⟩ (.slice none 0 0)).cell? ⟨w1.heap.size,0,none⟩=some (.int .i64 fe):=hS9;refine hK.out _ _ (hS9) fun hHeld=>?_;clear hK K;refine aL 4 rfl ?_;refine aO kr ?_;refine hK0.out _ _ ?_;subst hA1;subst hA0;clear Ee;simp only[GE,Act.put,SU];go_wp2
 try rw[Exit.noGoto_ret]
 have a9:=aD OA9;refine bodyPost_ret (v:=.tuple #[.agg #[.slice none 0 0,.slice none 0 0],.int .i64 fe]) (by simp[results,Tryz.results26,go_sem,a9.2.1,a9.2.2.1]) rfl ?_;refine⟨rfl,?_⟩
 first|exact hb9|exact hb9.drew
theorem aNe (B:Nat) (m:bA) (fn:Int) (ta fa:Option Addr) (tl tc fl fc:Nat) (w:World) (hB:B<=w.heap.size) (hB0:0<B) (hmo:cP B w (.agg #[.slice ta tl tc,.slice fa fl fc]) m) (he:(dS m).e=0) (hfn:fn<0\/(m.funcs.length:Int)<=fn) :
 Calls Tryz.prog 26 #[.agg #[.slice ta tl tc,.slice fa fl fc],.int .i64 fn] w fun e w'=>e=.returned (.tuple #[.agg #[.slice none 0 0,.slice none 0 0],.int .i64 1])/\Below w.heap.size w w':=by
 have HM:=qd hmo;have HMay:=qd (fun w' hw=>aAn B (.agg #[.slice ta tl tc,.slice fa fl fc]) m w' hw hB0);rw[he]at HMay;obtain⟨_,_,_,_,_,_,hv,⟨htl,htm,-⟩,hfs⟩:=hmo;cases hv;obtain⟨hfl1,hfl2,-⟩:=hfs;obtain⟨qq,hqq⟩:∃ q:Bool,decide (fn<0)=q:=⟨_,rfl⟩
 have hq1:qq=false->decide ((fl:Int)<=fn)=true/\¬fn<0:=fun h=>by rw[h]at hqq;have hh:¬fn<0:=(by simpa using hqq);exact⟨by simp;omega,hh⟩
 have hq2:qq=true->fn<0:=fun h=>by rw[h]at hqq;simpa using hqq
 go_enter Tryz.func26,Tryz.ntmps26;go_upto_region 1 with(fail)
 generalize hW0:World.alloc _ _=W0;have hb0:Below w.heap.size w W0:=by rw[<-hW0];exact bel
 have OM:aF W0 w.heap.size [.slice ta tl tc,.slice fa fl fc]:=mR
 have OA:aF W0 (w.heap.size+1) [.slice none 0 0,.slice none 0 0]:=lG
 have hz0':w.heap.size+2<=W0.heap.size:=by rw[<-hW0];simp
 have m2:=aD OM;have HC:=qd (HMay.out W0 oz (HM.out.same (aQ.of hb0 hB)));clear hW0 HMay HM;cases qq
 all_goals
  first|have hh1:=(hq1 rfl).1|skip
  first|have hh2:=(hq1 rfl).2|skip
  first|have hh3:=hq2 rfl|skip
  clear hq1 hq2 hfn;go_upto_region 5 with(first|(go_at_call 11;refine HC.out.mono ?_;rintro e w1 ⟨rfl,hb1⟩;have m2b:=aD (OM.below hb1);have a2b:=aD (OA.below hb1);clear m2)|fail)
  go_wp2
  try rw[Exit.noGoto_ret]
  have hbe:Below w.heap.size w w1:=hb0.trans (hb1.mono oz);have hz1:=hb1.size;refine bodyPost_ret (v:=.tuple #[.agg #[.slice none 0 0,.slice none 0 0],.int .i64 1]) (by simp[results,Tryz.results26,go_sem,a2b.1,a2b.2.1,a2b.2.2.1]) rfl ?_;refine⟨rfl,?_⟩;exact((hbe.setCell (p:=⟨w.heap.size+1,0,none⟩) xH _).setCell (p:=⟨w.heap.size+1,1,none⟩) xH _).alloc (by have:=hbe.size;simpa using this) _
section
structure TAt (W:World) (ib ic n rg:Nat) (iv:Nat->Option (Nat×Nat)) (s:fF):Prop where
 ri:W.ownsRow 0 39 1 (.slice (some ⟨ib,0,none⟩) n ic) n (fS n rg iv)
 sp:∀ v,v<n->(iv v=none/\s.inn.getD v []=[])\/∃ b c,iv v=some (b,c)/\kA W b rg c (s.inn.getD v [])
structure TS (mb ab fx:Nat) (mv av fv:List Value) (v:Value) (L:List jR) (ev:Value) (es:List (Nat×Int)) (ib ic n rg:Nat) (iv:Nat->Option (Nat×Nat)) (s:fF) (W:World):Prop where
 cm:aF W mb mv
 ca:aF W ab av
 cf:aF W fx fv
 l:bR W v L
 e:W.ownsRow 0 77 2 ev es.length (rQ es)
 a:TAt W ib ic n rg iv s
section
variable {mb ab fx : Nat} {mv av fv : List Value} {v : Value} {L : List jR} {ev : Value} {es : List (Nat × Int)} {ib ic n rg : Nat} {iv : Nat -> Option (Nat × Nat)} {s : fF} {W W' : World}
theorem TAt.below (h:TAt W ib ic n rg iv s) (hb:Below W.heap.size W W'):TAt W' ib ic n rg iv s :=
 ⟨aA hb h.ri,fun v hv=>(h.sp v hv).imp id fun⟨b,c,h1,h2⟩=>⟨b,c,h1,aA hb h2⟩⟩
theorem TS.below (h:TS mb ab fx mv av fv v L ev es ib ic n rg iv s W) (hb:Below W.heap.size W W'):TS mb ab fx mv av fv v L ev es ib ic n rg iv s W' :=
 ⟨h.cm.below hb,h.ca.below hb,h.cf.below hb,h.l.below hb,aA hb h.e,h.a.below hb⟩
end
def LH (W:World) (zl zh:Nat) (lh:aB×aB):Prop:=aF W zl (sI lh.1)/\aF W zh (sI lh.2)
theorem aUx {W:World}{zl zh:Nat}{a b c d:Value}(h1:aF W zl [a,b]) (h2:aF W zh [c,d]) (hne:zl≠zh) (p q:aB):LH ((((W.setCell ⟨zl,0,none⟩ (.int .i64 p.lo)).setCell ⟨zl,1,none⟩ (.int .i64 p.hi)).setCell ⟨zh,0,none⟩ (.int .i64 q.lo)).setCell ⟨zh,1,none⟩ (.int .i64 q.hi)) zl zh (p,q)/\aG (fun x=>x=zl\/x=zh) W ((((W.setCell ⟨zl,0,none⟩ (.int .i64 p.lo)).setCell ⟨zl,1,none⟩ (.int .i64 p.hi)).setCell ⟨zh,0,none⟩ (.int .i64 q.lo)).setCell ⟨zh,1,none⟩ (.int .i64 q.hi)):=by
 have c1:=jX W zl 0 1 (.int .i64 p.lo) (.int .i64 p.hi);have h3:=c1.own h2 (fun e=>hne e.symm);have c2:=jX ((W.setCell ⟨zl,0,none⟩ (.int .i64 p.lo)).setCell ⟨zl,1,none⟩ (.int .i64 p.hi)) zh 0 1 (.int .i64 q.lo) (.int .i64 q.hi);exact⟨⟨c2.own ((h1.set 0 _ si).set 1 _ si) hne,(h3.set 0 _ si).set 1 _ si⟩,(c1.mono fun _ _ e=>.inl e).trans (c2.mono fun _ _ e=>.inr e)⟩
def iL (m:bA) (f:aC) (inn:List (List aB)) (l:cE) (es:List (Nat×Int)) (k:Nat):aB×aB:=(es.take k).foldl (gB m f inn l) (jE f l)
theorem aHa (m:bA) (f:aC) (inn:List (List aB)) (l:cE) (es:List (Nat×Int)) {k:Nat}{e:Nat×Int}(hk:es[k]? = some e):iL m f inn l es (k+1)=gB m f inn l (iL m f inn l es k) e:=by
 unfold iL;rw[List.take_add_one,hk,List.foldl_append];rfl
theorem aKb (m:bA) (f:aC) (inn:List (List aB)) (l:cE):wH (iL m f inn l (aW f) (aW f).length)=kK m f inn l:=by
 unfold iL kK sL;rw[List.take_length]
theorem aOx {m:bA}{f:aC}{inn:List (List aB)}{l:cE}{lh:aB×aB}{u:Nat}{t:Int}(h1:t=(l.head:Int)) (h2:l.members.contains (u:Int)=false) (h3:¬inn.getD u []=[]) :
 (gP m f u t (inn.getD u [])=none->gB m f inn l lh (u,t)=lh)/\∀ q,gP m f u t (inn.getD u [])=some q->gB m f inn l lh (u,t)=tY (f.code.getD l.head default) lh q:=by
 have h4:¬((u,t).2≠(l.head:Int)\/l.members.contains ((u,t).1:Int)=true\/inn.getD (u,t).1 []=[]):=by
  rintro(h|h|h)
  ·exact h h1
  ·rw[h2]at h;cases h
  ·exact h3 h
 refine⟨fun h=>?_,fun q h=>?_⟩
 ·unfold gB;rw[if_neg h4];dsimp only;rw[h]
 ·unfold gB;rw[if_neg h4];dsimp only;rw[h]
theorem zP (f:aC):∀ k,∀ e∈eU f k,e.1<k
 | 0,e,h=>by simp[eU]at h
 | k+1,e,h=>by
  rw[dT,List.mem_append]at h;rcases h with h|h
  ·have:=zP f k e h;omega
  ·split at h
   ·obtain⟨v,-,rfl⟩:=List.mem_map.1 h;exact Nat.lt_succ_self _
   ·simp at h
theorem aHt {n v:Nat}(rg:Nat) (iv:Nat->Option (Nat×Nat)) (hv:v<n):(fS n rg iv)[v]? = some (jF rg (iv v)):=by unfold fS;rw[List.getElem?_map,List.getElem?_range hv];rfl
theorem aIx (a:aB):cJ rP a=a:=by unfold cJ rP;rw[if_pos (by decide)]
theorem aKd (B:Nat) (pa ca:Option Addr) (pl pc cl cc rg:Nat) (f:aC) (w:World) (hB:B<=w.heap.size) (hf:aZ B w ⟨pa,pl,pc,ca,cl,cc⟩ f) (hrg:f.regs=rg) (hn0:0<f.code.length) (hn:f.code.length<=1024) :
 Calls Tryz.prog 27 #[.agg #[.string f.name,.slice pa pl pc,.int .i64 rg,.int .i64 f.words,.slice ca cl cc]] w fun e w'=>∃ a c,e=.returned (.slice a (aW f).length c)/\Below w.heap.size w w'/\w'.ownsRow 0 77 2 (.slice a (aW f).length c) (aW f).length (rQ (aW f)):=by
 have h0:=yN B _ f w hB hf hn0 hn;unfold aI at h0;rw[hrg]at h0;refine h0.mono ?_;rintro e w' ⟨v,rfl,h1,h2,-⟩;obtain⟨a,c,rfl⟩:=pK h2;exact⟨a,c,rfl,h1,h2⟩
theorem aP0 (B:Nat) (pa ca:Option Addr) (pl pc cl cc rg:Nat) (f:aC) (w:World) (hB:B<=w.heap.size) (hf:aZ B w ⟨pa,pl,pc,ca,cl,cc⟩ f) (hrg:f.regs=rg) (hn0:0<f.code.length) (hn:f.code.length<=1024) :
 Calls Tryz.prog 12 #[.agg #[.string f.name,.slice pa pl pc,.int .i64 rg,.int .i64 f.words,.slice ca cl cc]] w (qP f w):=by
 have h0:=aLb B _ f w hB hf hn0 hn;unfold aI at h0;rw[hrg]at h0;exact h0
theorem zD (B:Nat) (m:bA) (fn E:Int) (ta fa:Option Addr) (tl tc fl fc:Nat) (w:World) (hB:B<=w.heap.size) (hmo:cP B w (.agg #[.slice ta tl tc,.slice fa fl fc]) m) (hE:E≠0)
 (hr:∀ w',B<=w'.heap.size->cP B w' (.agg #[.slice ta tl tc,.slice fa fl fc]) m->Calls Tryz.prog 26 #[.agg #[.slice ta tl tc,.slice fa fl fc],.int .i64 fn] w' fun e w2=>e=.returned (.tuple #[.agg #[.slice none 0 0,.slice none 0 0],.int .i64 E])/\Below w'.heap.size w' w2) :
 Calls Tryz.prog 7 #[.agg #[.slice ta tl tc,.slice fa fl fc],.int .i64 fn] w fun e w'=>e=.returned (.tuple #[.slice none 0 0,.int .i64 E])/\Below w.heap.size w w':=by
 have hq:(E != 0)=true:=by simpa using hE
 have HR:=qd hr;have HM:=qd hmo;clear hr hmo hE;go_enter Tryz.func7,Tryz.ntmps7;go_upto_region 1 with(fail)
 generalize hW0:World.alloc _ _=W0;have hb0:Below w.heap.size w W0:=by rw[<-hW0];exact bel
 have OM:aF W0 w.heap.size [.slice ta tl tc,.slice fa fl fc]:=uS
 have m2:=aD OM;have hz0:=hb0.size;have HC:=qd (HR.out W0 oz (HM.out.same (aQ.of hb0 hB)));clear hW0;go_wp2_with (first|(go_at_call 26;refine HC.out.mono ?_;rintro e w1 ⟨rfl,hb1⟩)|fail)
 try rw[Exit.noGoto_ret]
 refine bodyPost_ret (v:=.tuple #[.slice none 0 0,.int .i64 E]) (by simp[results,Tryz.results7,go_sem]) rfl ?_;exact⟨rfl,(hb0.trans (hb1.mono hz0)).alloc (by have:=hb1.size;omega) _⟩
end
theorem aPw {p:Prop}(h:p:=by
 go_upto_region 24 with(fail)
 refine bC 26 kr kr ?_;simp only[TD];repeat(refine bS (fun K hK=>?_);go_simp;refine hK _ ?_;clear hK K)
 refine cF ?_;go_wp2;refine⟨⟨k+1,oz,si,qd (by rw[HSK.out];exact⟨aF.drew HLH2.out.1,aF.drew HLH2.out.2⟩),hC2.trans (aG.of (Below.refl _ _).drew)⟩,?_⟩;go_light;exact ml):p:=h
theorem aL7 (B:Nat) (m:bA) (fn:Nat) (ta fa:Option Addr) (tl tc fl fc:Nat) (w:World) (hB:B<=w.heap.size) (hB0:0<B) (hmo:cP B w (.agg #[.slice ta tl tc,.slice fa fl fc]) m) (he:(dS m).e=0) (hfn:fn<m.funcs.length) :
 Calls Tryz.prog 7 #[.agg #[.slice ta tl tc,.slice fa fl fc],.int .i64 fn] w (nM m fn w):=by
 have HM:=qd hmo;have HRun:=qd (fun w' hB hmo=>aTm B m fn ta fa tl tc fl fc w' hB hB0 hmo he hfn);obtain⟨_,_,_,_,_,_,hv,⟨htl,htm,-⟩,hfs⟩:=hmo;cases hv;obtain⟨hfl1,hfl2,fb,fo,hfb,H,hH⟩:=hfs;obtain⟨rfl,hfbB⟩:=hfb oz;obtain⟨hcells,hfo⟩:=hH fn oz;have hfine:=nE he;have hff1:=hfine.fn fn hfn;have hfe:m.funcs.getD fn default=bX m fn:=rfl;rw[hfe]at hcells hfo;generalize H fn=hh at *;obtain⟨f,hf⟩:∃ f,bX m fn=f:=⟨_,rfl⟩
 unfold nM;rw[hf]at hcells hfo hff1 ⊢;obtain⟨pa,pl,pc,ca,cl,cc⟩:=hh;have hcl:f.code.length=cl:=hfo.2.2.1.1;subst hcl;obtain⟨g0,g1,g2,g3,g4⟩:=hcells;dsimp only at g0 g1 g2 g3 g4;obtain⟨rg,hrg⟩:∃ rg:Nat,f.regs=rg:=⟨f.regs.toNat,by have:=hff1.r1;omega⟩
 have hrg0:0<rg:=by have:=hff1.r1;omega
 have hrg64:rg<=64:=by have:=hff1.r2;omega
 have hn0:0<f.code.length:=hff1.c1;have hn1:f.code.length<=1024:=hff1.c2;rw[hrg]at g2;have hfnl:(fn:Int)<(fl:Int):=oz
 have HRG:=qd hrg;have HFF:=qd hff1;have HFE:=qd hf;have HFI:=qd hfine;have HE:=qd he;have HFO:=qd hfo;clear hfine hff1 hfe hrg hf hH hfb hfo;go_enter Tryz.func7,Tryz.ntmps7;go_upto_region 1 with(fail)
 generalize hW0:World.alloc _ _=W0;have hb0:Below w.heap.size w W0:=by rw[<-hW0];exact bel
 have OM:aF W0 w.heap.size [.slice ta tl tc,.slice (some ⟨fb,fo,none⟩) fl fc]:=uS
 have m2:=aD OM;have hz0:=hb0.size;have HC:=qd (HRun.out W0 oz (HM.out.same (aQ.of hb0 hB)));clear hW0 HRun;unfold aC3 at HC;rw[HFE.out]at HC;go_upto_region 2 with(first|(go_at_call 26;refine HC.out.mono ?_;rintro e w1 ⟨rg',s,ib,ic,qb,qc,iv,hrg',hso,hruns,rfl,hri,hsp,hb1⟩)|fail)
 have hrr:rg'=rg:=by have h1:=HRG.out;rw[h1]at hrg';omega
 subst hrr;generalize hW2:World.alloc _ _=W2;have hz1:=hb1.size;have hb12:Below w1.heap.size w1 W2:=by rw[<-hW2];exact eN
 have OA:aF W2 w1.heap.size [.slice (some ⟨ib,0,none⟩) f.code.length ic,.slice (some ⟨qb,0,none⟩) f.code.length qc]:=uR
 have hb2:Below w.heap.size w W2:=(hb0.trans (hb1.mono oz)).trans (hb12.mono oz);have OM2:=(OM.below hb1).below hb12;have HA2:Hid (TAt W2 ib ic f.code.length rg' iv s):=qd ((TAt.mk hri hsp).below hb12);have HSO:=qd hso;have HRU:=qd hruns;have m2':=aD OM2;have sm:=aQ.of hb2 hB;rw[<-sm _ _ (by show fb<B;omega)]at g0 g1 g2 g3 g4;have hz2:=hb12.size;have hfbL:fb<W2.heap.size:=oz
 clear hW2 HC m2 OM hso hruns hrg' sm hri hsp;go_upto_region 5 with(fail)
 generalize hW3:World.alloc _ _=W3;have hb23:Below W2.heap.size W2 W3:=by rw[<-hW3];exact eN
 have OF:aF W3 W2.heap.size [.string f.name,.slice pa pl pc,.int .i64 rg',.int .i64 f.words,.slice ca f.code.length cc]:=by rw[<-hW3];exact aF.new _ _ _
 have hz3:=hb23.size;have hb3:Below w.heap.size w W3:=hb2.trans (hb23.mono oz);have f5:=aX OF;have OM3:=OM2.below hb23;have OA3:=OA.below hb23;have HA3:=qd (HA2.out.below hb23);have HFL:=qd (aP0 B pa ca pl pc f.code.length cc rg' f W3 oz (HFO.out.same (aQ.of hb3 hB)) HRG.out hn0 hn1);unfold qP at HFL;clear hW3 g0 g1 g2 g3 g4 OM2 OA m2' hb12 HA2;obtain⟨fd,hfd⟩:∃ q,jI f=q:=⟨_,rfl⟩
 rw[hfd]at HFL;have HFD:=qd hfd;clear hfd;obtain⟨ls,fe,fat⟩:=fd;dsimp only at HFL;by_cases hfe0:fe=0
 ·subst hfe0;go_upto_region 8 with(first|(go_at_call 12;refine HFL.out.mono ?_;rintro e w4 ⟨v4,L,rfl,hb4,hL,hLm⟩;have f5b:=aX (OF.below hb4);clear f5)|fail)
  have hz4:=hb4.size;have hbw4:Below w.heap.size w w4:=hb3.trans (hb4.mono oz);obtain⟨la,lc,hlv⟩:=hL.form;have hLm2:L.map (fun t=>t.1)=ls:=hLm;have hLl:L.length=ls.length:=by rw[<-hLm2,List.length_map]
  rw[hLl]at hlv;subst hlv;have htp:gW m f s.inn=(ls.map (kK m f s.inn),0):=by unfold gW;rw[HFD.out];rfl
  have HTP:=qd htp;have HLM:=qd hLm2;have hlm:(ls.length:Int)<=1048576:=by
   have h:=yO f;rw[HFD.out]at h;dsimp only at h;omega
  have HMem:=qd (fun(l:cE) (hl:l∈ls)=>aE5 hn1 (l:=l) (by rw[HFD.out];exact hl));have HED:=qd (aKd B pa ca pl pc f.code.length cc rg' f w4 (by have:=hbw4.size;omega) (HFO.out.same (aQ.of hbw4 hB)) HRG.out hn0 hn1);have HEE:=qd (fun(e:Nat×Int) (he:e∈aW f)=>zP f f.code.length e he);have hel:=jV f;have HTN:=qd (fun(l:cE)=>aKb m f s.inn l);have HL4:=qd hL;obtain⟨es,hes⟩:∃ es,aW f=es:=⟨_,rfl⟩
  rw[hes]at HED HEE hel HTN;clear htp hLm2 hLm hes hL HFL;go_upto_region 9 with(first|(go_at_call 27;refine HED.out.mono ?_;rintro e w5 ⟨ea,ec,rfl,hb5,he5⟩)|fail)
  have hz5:=hb5.size;have hbw5:Below w.heap.size w w5:=hbw4.trans (hb5.mono oz);have HTS5:Hid (TS w.heap.size w1.heap.size W2.heap.size [.slice ta tl tc,.slice (some ⟨fb,fo,none⟩) fl fc] [.slice (some ⟨ib,0,none⟩) f.code.length ic,.slice (some ⟨qb,0,none⟩) f.code.length qc] [.string f.name,.slice pa pl pc,.int .i64 rg',.int .i64 f.words,.slice ca f.code.length cc] (.slice la ls.length lc) L (.slice ea es.length ec) es ib ic f.code.length rg' iv s w5):=qd ⟨(OM3.below hb4).below hb5,(OA3.below hb4).below hb5,(OF.below hb4).below hb5,HL4.out.below hb5,he5,(HA3.out.below hb4).below hb5⟩;have T0:(w5.alloc (.cells #[] 34)).ownsRow 0 34 1 (.slice (some ⟨w5.heap.size,0,none⟩) 0 0) 0 []:=eE w5 _ 1 rfl;have hb6:Below w5.heap.size w5 (w5.alloc (.cells #[] 34)):=eN;have hzo:w.heap.size<w5.heap.size/\w1.heap.size<w5.heap.size/\W2.heap.size<w5.heap.size:=⟨HTS5.out.cm.1,HTS5.out.ca.1,HTS5.out.cf.1⟩
  obtain⟨zm,hzm⟩:∃ z,w.heap.size=z:=⟨_,rfl⟩
  clear OM3 OA3 OF HA3 HL4 HED f5b he5 hb4 hb5 hb23 hb0 hb1 hb2 hb3 hbw4 hzm;go_upto_region 11 with(fail)
  go_loopw [13,14] (fun v13 v14 wr=>∃ (j:Nat) (vo:Value),j<=ls.length/\vo=v13/\v14=.int .i64 j/\Hid (wr.ownsRow 0 34 1 vo j (nT ((ls.take j).map (kK m f s.inn))))/\Hid (∀ k,vo.ownBlock=some k->w5.heap.size<=k)/\Below w5.heap.size w5 wr) (fun _ v _=>ls.length-(intOf v).toNat)
  case atStart=>exact⟨0,_,Nat.zero_le _,rfl,rfl,qd T0,qd (fun k hk=>Nat.le_of_eq (eL hk)),hb6⟩
  case round =>
   clear T0 hb6;obtain⟨j,vo,hj,rfl,rfl,HO,HOV,hbO⟩:=hrel;obtain⟨wO,hwO⟩:∃ wO:World,wO=wr:=⟨_,rfl⟩
   subst hwO;have hzO:=hbO.size;by_cases hjt:j<ls.length
   ·have d3:(j:Int)<(ls.length:Int):=oz
    have hwj:IntKind.i64.wrap ((j:Int)+1)=(j:Int)+1:=IntWalk.i64_in _ oz;have HTO:=qd (HTS5.out.below hbO);obtain⟨g,gc,hgv,hg1,hg2,hgl⟩:=bB HTO.out.l.row oz;rw[hLl]at hgv;cases hgv;obtain⟨T,hT⟩:∃ T,L[j]? = some T:=⟨_,List.getElem?_eq_getElem oz⟩
    have hlj:ls[j]? = some T.1:=by rw[<-HLM.out,List.getElem?_map,hT];rfl
    have hmem:=HMem.out T.1 (List.mem_of_getElem? hlj);have hrm:=(HTO.out.l.each T (List.mem_of_getElem? hT)).1;obtain⟨ma,mc,hmv,hnm⟩:=cI.ofRow (B:=wO.heap.size) hrm hmem.2 (fun k hk=>cA hrm hk);have HLC:Hid (∀ W,Below wO.heap.size wO W->(W.cell? ⟨g,j*4,none⟩=some (.int .i64 T.1.head)/\W.cell? ⟨g,j*4+2,none⟩=some (.slice ma T.1.members.length mc))/\cI wO.heap.size W ma T.1.members.length T.1.members):=qd (fun W hW=>by
     have hLg:bR wO (.slice (some ⟨g,0,none⟩) L.length lc) L:=by rw[hLl];exact HTO.out.l
     obtain⟨t0,t1,t2,t3⟩:=hLg.cells hT;rw[hmv]at t2;exact⟨⟨(hW.cell (p:=⟨g,j*4,none⟩) hgl).trans t0,(hW.cell (p:=⟨g,j*4+2,none⟩) hgl).trans t2⟩,hnm.same (aQ.of hW lr)⟩)
    have HTK:Hid (ls.take (j+1)=ls.take j++[T.1]):=qd (by rw[List.take_add_one,hlj];rfl);have hhd:=hmem.1;have hhd2:(T.1.head:Int)<(f.code.length:Int):=oz
    clear hlj hrm hmv hnm hmem hT;generalize T.1=l at *;have cd:=(HFO.out.same (aQ.of (hbw5.trans (hbO.mono hbw5.size)) hB)).2.2.1;obtain⟨-,-,cbb,cbo,hcb,hcc⟩:=cd;obtain⟨hca,hcbB⟩:=hcb oz;dsimp only at hca;subst hca;obtain⟨⟨x0,x1,x2,x3,x4⟩,-⟩:=hcc l.head hhd;have HIF:=qd (HFI.out.ins fn l.head hfn (by rw[HFE.out];exact hhd));rw[HFE.out]at HIF;obtain⟨x,hx⟩:∃ x,f.code.getD l.head default=x:=⟨_,rfl⟩
    rw[hx]at x0 x1 x2 x3 x4 HIF;obtain⟨xo,xa,xb,xc,xn⟩:=x;have hxa0:=HIF.out.a0;have hxa1:=HIF.out.a1;have hxb0:=HIF.out.b0;have hxb1:=HIF.out.b1;rw[HRG.out]at hxa1 hxb1;dsimp only at hxa0 hxa1 hxb0 hxb1;obtain⟨ka,rfl⟩:=Int.eq_ofNat_of_zero_le hxa0;obtain⟨kb,rfl⟩:=Int.eq_ofNat_of_zero_le hxb0;have HX:=qd hx;dsimp only at x0 x1 x2 x3 x4;have hcw:cbb<wO.heap.size:=by have:=hbw5.size;omega
    have f5:=aX HTO.out.cf;have HSS:Hid (∀ w',Below wO.heap.size wO w'->w'.cell? ⟨W2.heap.size,4,none⟩=some (.slice (some ⟨cbb,cbo,none⟩) f.code.length cc)/\w'.cell? ⟨g,j*4,none⟩=some (.int .i64 l.head)/\w'.cell? ⟨cbb,cbo+l.head*5,none⟩=some (.int .i64 xo)/\w'.cell? ⟨cbb,cbo+l.head*5+1,none⟩=some (.int .i64 ka)/\w'.cell? ⟨cbb,cbo+l.head*5+2,none⟩=some (.int .i64 kb)/\w'.cell? ⟨cbb,cbo+l.head*5+3,none⟩=some (.int .i64 xc)/\w'.cell? ⟨cbb,cbo+l.head*5+4,none⟩=some (.int .i64 xn)):=qd (fun w' hw =>
     ⟨(hw.cell (p:=⟨W2.heap.size,4,none⟩) f5.1).trans f5.2.2.2.2.2.1,(HLC.out w' hw).1.1,(hw.cell (p:=⟨cbb,_,none⟩) hcw).trans x0,(hw.cell (p:=⟨cbb,_,none⟩) hcw).trans x1,(hw.cell (p:=⟨cbb,_,none⟩) hcw).trans x2,(hw.cell (p:=⟨cbb,_,none⟩) hcw).trans x3,(hw.cell (p:=⟨cbb,_,none⟩) hcw).trans x4⟩)
    clear hcb hcc hxa0 hxb0 hx x0 x1 x2 x3 x4 f5 hcbB hg1 hg2;go_upto_region 13 with(fail)
    go_cut [15,57,58,59,60,61,62,63,64,65] (fun v15 y1 y2 y3 y4 y5 y6 y7 y8 y9 wx=>v15=.pointer (some ⟨wO.heap.size,0,none⟩)/\Hid (aF wx wO.heap.size [.int .i64 xo,.int .i64 ka,.int .i64 kb,.int .i64 xc,.int .i64 xn])/\Below wO.heap.size wO wx)
    case first =>
     as_aux_lemma =>
      generalize hA0:(Act.mk _ _:Act)=a0;have Ee:a0.eval (.tmp 8)=.pointer (some ⟨W2.heap.size,0,none⟩)/\a0.eval (.tmp 9)=.slice (some ⟨g,0,none⟩) ls.length lc/\a0.eval (.tmp 14)=.int .i64 j/\a0.tmps.size=182:=vD
      refine aE (fun w'=>Below wO.heap.size wO w') kr ((Below.refl _ wO).drew) ?_;intro K0 hK0 hHeld
      try dsimp only at hHeld
      refine aL 0 rfl ?_;refine aL 1 rfl ?_;refine aL 2 rfl ?_;refine aL 3 rfl ?_;refine aL 4 rfl ?_;refine aL 5 rfl ?_;refine aL 6 rfl ?_;refine aL 7 rfl ?_;refine aL 8 rfl ?_;generalize hA1:(Act.put _ _ _:Act)=a1;replace Ee:a1.eval (.tmp 65)=.agg #[.int .i64 xo,.int .i64 ka,.int .i64 kb,.int .i64 xc,.int .i64 xn]/\a1.tmps.size=182:=oZ;refine fD 9 rfl fun K hK=>?_;refine sX ?_;refine hK.out _ _ (bel) fun hHeld=>?_;clear hK K;generalize hA2:(Act.put _ _ _:Act)=a2;replace Ee:a2.eval (.tmp 15)=.pointer (some ⟨wO.heap.size,0,none⟩)/\a2.eval (.tmp 65)=.agg #[.int .i64 xo,.int .i64 ka,.int .i64 kb,.int .i64 xc,.int .i64 xn]/\a2.tmps.size=182:=mQ;refine fD 10 rfl fun K hK=>?_;refine pA ?_;refine hK.out _ _ (bel) fun hHeld=>?_;clear hK K;refine aO kr ?_;refine hK0.out _ _ ?_;subst hA2;subst hA1;subst hA0
      try clear Ee
      simp only[GE,Act.put,SU];go_wp2;go_meet;exact⟨rfl,qd (aF.drew (aF.new wO [.int .i64 xo,.int .i64 ka,.int .i64 kb,.int .i64 xc,.int .i64 xn] 55)),bel⟩
    case rest =>
     obtain⟨rfl,HOC,hb13⟩:=hcut;obtain⟨W13,hW13⟩:∃ W:World,W=wc:=⟨_,rfl⟩
     subst hW13;have hzc:=HOC.out.1;clear HSS;have t13:=(HLC.out W13 hb13).1.1;have hg13:g<W13.heap.size:=oz
     go_upto_if 73 with(fail)
     generalize hW16:World.alloc _ _=W16;obtain⟨zl,hzl⟩:∃ z,W13.heap.size=z:=⟨_,rfl⟩
     obtain⟨zh,hzh⟩:∃ z,W13.heap.size+1=z:=⟨_,rfl⟩
     have hb16:Below W13.heap.size W13 W16:=by rw[<-hW16];exact bel
     have OL:aF W16 zl [.int .i64 1,.int .i64 0]:=by rw[<-hW16,<-hzl];exact(aF.new _ _ _).alloc _
     have OH:aF W16 zh [.int .i64 1,.int .i64 0]:=by rw[<-hW16,<-hzh];exact aF.new' _ _ _ _ si
     have HOC16:=qd (HOC.out.below hb16);have hbO16:Below wO.heap.size wO W16:=hb13.trans (hb16.mono oz);have hzlh:zl<zh:=oz
     have hzcl:wO.heap.size<zl:=oz
     rw[hzh,hzl];clear hW16 t13 HOC;go_cut [18,74,75,76,77,78,79,80,81,82,83,84,85] (fun y1 y2 y3 y4 y5 y6 y7 y8 y9 y10 y11 y12 y13 wx=>Hid (LH wx zl zh (jE f l))/\Hid (aF wx wO.heap.size [.int .i64 xo,.int .i64 ka,.int .i64 kb,.int .i64 xc,.int .i64 xn])/\Below wO.heap.size wO wx)
     case first =>
      as_aux_lemma =>
       by_cases hh0:l.head=0
       ·have q1:(l.head:Int)=0:=oz
        have q2:((l.head:Int)==0)=true:=by rw[q1];rfl
        have hTB0:Hid (jE f l=((cL f).getD ka default,(cL f).getD kb default)):=qd (by unfold jE;rw[if_pos hh0,HX.out];unfold tY;simp only[aIx];rfl);have HBG:=qd (aBm B pa (some ⟨cbb,cbo,none⟩) pl pc f.code.length cc rg' f W16 (by have:=hbw5.size;have:=hbO16.size;omega) (HFO.out.same (aQ.of (hbw5.trans ((hbO.trans (hbO16.mono hzO)).mono hbw5.size)) hB)) HRG.out HFF.out.r1 HFF.out.r2 HFF.out.np);have f16:=aX (HTO.out.below hbO16).cf;clear hh0;go_upto_region 18 with(first|(go_at_call 28;refine HBG.out.mono ?_;rintro e w17 ⟨v,rfl,gb,gq,rfl,hgr,hgn,hb17⟩)|fail)
        have c17:=aX (HOC16.out.below hb17);have OL17:=OL.below hb17;have OH17:=OH.below hb17;have l17:=aD OL17;have h17:=aD OH17;obtain⟨a0,a1,-,-⟩:=hgr.row.cells (show ka<rg' by omega);obtain⟨b0,b1,-,-⟩:=hgr.row.cells (show kb<rg' by omega);have n1:gb≠zl:=by have:=OL.1;omega
        have n2:zl≠gb:=fun e=>n1 e.symm;have n3:zl≠zh:=oz
        have n4:zh≠zl:=oz
        have n5:wO.heap.size≠zl:=oz
        have n6:zl≠wO.heap.size:=oz
        have hgb:=hgr.row.lt;have HP:Hid (LH ((((w17.setCell ⟨zl,0,none⟩ (.int .i64 ((cL f).getD ka default).lo)).setCell ⟨zl,1,none⟩ (.int .i64 ((cL f).getD ka default).hi)).setCell ⟨zh,0,none⟩ (.int .i64 ((cL f).getD kb default).lo)).setCell ⟨zh,1,none⟩ (.int .i64 ((cL f).getD kb default).hi)) zl zh (jE f l)/\aG (fun x=>x=zl\/x=zh) w17 ((((w17.setCell ⟨zl,0,none⟩ (.int .i64 ((cL f).getD ka default).lo)).setCell ⟨zl,1,none⟩ (.int .i64 ((cL f).getD ka default).hi)).setCell ⟨zh,0,none⟩ (.int .i64 ((cL f).getD kb default).lo)).setCell ⟨zh,1,none⟩ (.int .i64 ((cL f).getD kb default).hi))):=qd (by
         rw[hTB0.out];exact aUx OL17 OH17 n3 _ _)
        generalize (cL f).getD ka default=pa1 at *;generalize (cL f).getD kb default=pb1 at *;obtain⟨palo,pahi⟩:=pa1;obtain⟨pblo,pbhi⟩:=pb1;dsimp only at a0 a1 b0 b1;have hz17:=hb17.size;have hia:(ka:Int)<(rg':Int):=oz
        have hib:(kb:Int)<(rg':Int):=oz
        clear f16 OL OH HBG OL17 OH17 hgr hTB0;go_wp2;go_meet;exact⟨qd HP.out.1,qd (HP.out.2.own (HOC16.out.below hb17) oz),(hbO16.trans (hb17.mono hbO16.size)).trans (HP.out.2.below _ (by have:=hbO16.size;omega) (fun k hk e=>by omega))⟩
       ·have q1:¬(l.head:Int)=0:=oz
        have q2:((l.head:Int)==0)=false:=by simpa using q1
        have HTB0:Hid (jE f l=(rP,rP)):=qd (by unfold jE;rw[if_neg hh0]);have HLH:Hid (LH W16 zl zh (jE f l)):=qd (by rw[HTB0.out];exact⟨OL,OH⟩);clear hh0 OL OH HTB0;go_wp2;go_meet;exact⟨HLH,HOC16,hbO16⟩
     case rest =>
      obtain⟨HLH0,HOC0,hb20⟩:=hcut;obtain⟨W20,hW20⟩:∃ W:World,W=wc:=⟨_,rfl⟩
      subst hW20;have hz20:=hb20.size;have hlz:zl<W20.heap.size/\zh<W20.heap.size:=⟨HLH0.out.1.1,HLH0.out.2.1⟩
      clear OL OH HOC16 hbO16 hb16 hb13;go_upto_region 21 with(fail)
      go_loopw [19] (fun v wr=>∃ k:Nat,k<=es.length/\v=.int .i64 k/\Hid (LH wr zl zh (iL m f s.inn l es k))/\aG (fun x=>x=zl\/x=zh) W20 wr) (fun v _=>es.length-(intOf v).toNat)
      case atStart=>exact⟨0,Nat.zero_le _,rfl,HLH0,aG.refl _ _⟩
      case round =>
       clear HLH0;obtain⟨k,hk,rfl,HLH,hC⟩:=hrel;have hzr:=hC.size;have hbX:Below wO.heap.size wO wr:=hb20.trans (hC.below _ hz20 (fun k hk e=>by omega));have HTX:=qd (HTO.out.below hbX);have HOCX:=qd (hC.own HOC0.out (fun e=>by have e2:wO.heap.size=zl\/wO.heap.size=zh:=e;omega));by_cases hkt:k<es.length
       ·have d4:(k:Int)<(es.length:Int):=oz
        have hwk:IntKind.i64.wrap ((k:Int)+1)=(k:Int)+1:=IntWalk.i64_in _ oz;obtain⟨-,eb,rfl⟩:=aG7 HTX.out.e oz;obtain⟨u,t,hek⟩:∃ u t,es[k]? = some (u,t):=⟨es[k].1,es[k].2,by rw[List.getElem?_eq_getElem hkt]⟩
        have hu:u<f.code.length:=HEE.out (u,t) (List.mem_of_getElem? hek);have hu2:(u:Int)<(f.code.length:Int):=oz
        obtain⟨e0,e1⟩:=aHe hek;have y0:=aH HTX.out.e e0;have y1:=aH HTX.out.e e1;dsimp only at y0 y1;have HTE:=qd (aHa m f s.inn l es hek);have heb:=bJ HTX.out.e;have lx:=HLC.out wr hbX;have hg2:g<wr.heap.size:=oz
        have HHas:=qd (aCb wO.heap.size ma l.members.length mc l.members (u:Int) wr.drew (lx.2.same (aQ.of' (((Below.refl _ wr).drew).mono oz))) oP);obtain⟨lx1,lx2⟩:=lx.1;clear lx e0 e1 hek;generalize hmu:l.members.contains (u:Int)=inr at *;have HMU:=qd hmu;clear hmu;go_upto_region 23 with(fail)
        go_cut [20,92,93,94,95,96,97,98,99,100,101,102] (fun v20 y1 y2 y3 y4 y5 y6 y7 y8 y9 y10 y11 wx=>v20=.bool inr/\Below wr.heap.size wr wx)
        case first =>
         as_aux_lemma =>
          refine bC 10 kr kr ?_;simp only[TD];repeat(refine bS (fun K hK=>?_);go_simp;refine hK _ ?_;clear hK K)
          refine cF ?_;go_wp2_with (first|(go_at_call 14;refine HHas.out.mono ?_;rintro e w9 ⟨rfl,rfl⟩)|fail)
          go_meet;exact⟨rfl,(Below.refl _ wr).drew⟩
        case rest =>
         obtain⟨rfl,hb23⟩:=hcut;obtain⟨W23,hW23⟩:∃ W:World,W=wc:=⟨_,rfl⟩
         subst hW23;have hz23:=hb23.size;have hbX23:Below wO.heap.size wO W23:=hbX.trans (hb23.mono oz);have HTX2:=qd (HTX.out.below hb23);have HLH2:Hid (LH W23 zl zh (iL m f s.inn l es k)):=qd ⟨HLH.out.1.below hb23,HLH.out.2.below hb23⟩;have HOC2:=qd (HOCX.out.below hb23);have hC2:aG (fun x=>x=zl\/x=zh) W20 W23:=hC.trans (aG.of hb23);have z0:W23.cell? ⟨eb,k*2,none⟩=some (.int .i64 u):=(hb23.cell (p:=⟨eb,k*2,none⟩) heb).trans y0;have z1:W23.cell? ⟨eb,k*2+1,none⟩=some (.int .i64 t):=(hb23.cell (p:=⟨eb,k*2+1,none⟩) heb).trans y1;have l23:=(HLC.out W23 hbX23).1.1;have a23:=aD HTX2.out.ca;have heb2:eb<W23.heap.size:=oz
         have hg3:g<W23.heap.size:=oz
         have hin:=HTX2.out.a.sp u hu;have hic:=aH HTX2.out.a.ri (aHt rg' iv hu);have hib:=bJ HTX2.out.a.ri;clear y0 y1 lx1 lx2 heb hg2 HHas HTX HLH HOCX hC;by_cases c1:t=(l.head:Int)
         ·have q1:(t != (l.head:Int))=false:=by simpa using c1
          by_cases c2:inr=true
          ·as_aux_lemma =>
            subst c2;have HSK:Hid (iL m f s.inn l es (k+1)=iL m f s.inn l es k):=qd (by rw[HTE.out];unfold gB;rw[if_pos (.inr (.inl HMU.out))]);clear HTE hin hic c1;exact aPw
          ·obtain rfl:inr=false:=by simpa using c2
           by_cases c3:s.inn.getD u []=[]
           ·as_aux_lemma =>
             have hiu:iv u=none:=by
              rcases hin with h|⟨b,c,-,h⟩
              ·exact h.1
              ·have:=h.row.len;rw[c3]at this;simp at this;omega
             rw[hiu]at hic;have hic2:W23.cell? ⟨ib,u,none⟩=some (.slice none 0 0):=hic;have HSK:Hid (iL m f s.inn l es (k+1)=iL m f s.inn l es k):=qd (by rw[HTE.out];unfold gB;rw[if_pos (.inr (.inr c3))]);clear HTE hin hic c3 hiu c1;exact aPw
           ·obtain⟨nb,nc,hiu,hrn⟩:∃ b c,iv u=some (b,c)/\kA W23 b rg' c (s.inn.getD u []):=by
             rcases hin with h|h
             ·exact absurd h.2 c3
             ·exact h
            rw[hiu]at hic;have hic2:W23.cell? ⟨ib,u,none⟩=some (.slice (some ⟨nb,0,none⟩) rg' nc):=hic;have q5:¬(rg':Int)=0:=oz
            have q6:((rg':Int)==0)=false:=by simpa using q5
            have HTG:=qd (aOx (m:=m) (f:=f) (lh:=iL m f s.inn l es k) c1 HMU.out c3);have HLO:Hid (gU rg' (s.inn.getD u [])):=qd ((HSO.out.inn u hu).resolve_left c3);have HRN:=qd hrn;clear hin hic c3 hiu hrn c1;go_upto_region 24 with(fail)
            refine bC 26 kr kr ?_;simp only[TD];repeat(refine bS (fun K hK=>?_);go_simp;refine hK _ ?_;clear hK K)
            refine cF ?_;go_upto_region 25 with(fail)
            generalize hW24:World.drew _=W24;have hb24:Below W23.heap.size W23 W24:=by rw[<-hW24];exact(Below.refl _ _).drew
            have hz24:=hb24.size;have HT24:=qd (HTX2.out.below hb24);have hbw:Below w.heap.size w W24:=hbw5.trans ((hbO.trans ((hbX23.trans (hb24.mono oz)).mono hzO)).mono hbw5.size);have hi24:W24.cell? ⟨ib,u,none⟩=some (.slice (some ⟨nb,0,none⟩) rg' nc):=(hb24.cell (p:=⟨ib,u,none⟩) hib).trans hic2;have y0:W24.cell? ⟨eb,k*2,none⟩=some (.int .i64 u):=(hb24.cell (p:=⟨eb,k*2,none⟩) heb2).trans z0;have y1:W24.cell? ⟨eb,k*2+1,none⟩=some (.int .i64 t):=(hb24.cell (p:=⟨eb,k*2+1,none⟩) heb2).trans z1;have HWA:=qd (fun w' (hw:Below W24.heap.size W24 w')=>aJj (t:=t) (W:=W24) (by have:=hbw.size;omega) (HM.out.same (aQ.of hbw hB)) HE.out hfn HFE.out (HFO.out.same (aQ.of hbw hB)) HRG.out hu (aA hb24 HRN.out) HLO.out hw);have HSS:Hid (∀ w',Below W24.heap.size W24 w'->w'.cell? ⟨w.heap.size,0,none⟩=some (.slice ta tl tc)/\w'.cell? ⟨w.heap.size,1,none⟩=some (.slice (some ⟨fb,fo,none⟩) fl fc)/\w'.cell? ⟨W2.heap.size,0,none⟩=some (.string f.name)/\w'.cell? ⟨W2.heap.size,1,none⟩=some (.slice pa pl pc)/\w'.cell? ⟨W2.heap.size,2,none⟩=some (.int .i64 rg')/\w'.cell? ⟨W2.heap.size,3,none⟩=some (.int .i64 f.words)/\w'.cell? ⟨W2.heap.size,4,none⟩=some (.slice (some ⟨cbb,cbo,none⟩) f.code.length cc)/\w'.cell? ⟨eb,k*2,none⟩=some (.int .i64 u)/\w'.cell? ⟨eb,k*2+1,none⟩=some (.int .i64 t)/\w'.cell? ⟨w1.heap.size,0,none⟩=some (.slice (some ⟨ib,0,none⟩) f.code.length ic)/\w'.cell? ⟨ib,u,none⟩=some (.slice (some ⟨nb,0,none⟩) rg' nc)):=qd (fun w' hw=>by
             have h:=HT24.out.below hw;have x:=aD h.cm;have y:=aX h.cf;have z:=aD h.ca;exact⟨x.2.1,x.2.2.1,y.2.1,y.2.2.1,y.2.2.2.1,y.2.2.2.2.1,y.2.2.2.2.2.1,(hw.cell (p:=⟨eb,k*2,none⟩) (by show eb<_;omega)).trans y0,(hw.cell (p:=⟨eb,k*2+1,none⟩) (by show eb<_;omega)).trans y1,z.2.1,(hw.cell (p:=⟨ib,u,none⟩) (by show ib<_;omega)).trans hi24⟩)
            have hcf:∀ (args:Array Value) (w:World),(callFunc 29 args).run Tryz.prog w=.ok (.enter 29 args) w:=fun _ _=>rfl;have HLH3:Hid (LH W24 zl zh (iL m f s.inn l es k)):=qd ⟨HLH2.out.1.below hb24,HLH2.out.2.below hb24⟩;have HOC3:=qd (HOC2.out.below hb24);have hC3:aG (fun x=>x=zl\/x=zh) W20 W24:=hC2.trans (aG.of hb24);clear hW24 z0 z1 l23 a23 hic2 y0 y1 hi24 HTX2 HLH2 HOC2 hC2;go_cut [21,22,130,131,132,133,134,135,136,137,138,139,140,141,142,143,144,145,146,147,148,149,150,151,152,153,154] (fun v1 v2 y1 y2 y3 y4 y5 y6 y7 y8 y9 y10 y11 y12 y13 y14 y15 y16 y17 y18 y19 y20 y21 y22 y23 y24 y25 wx=>∃ sv b,v1=sv/\v2=.bool b/\Below W24.heap.size W24 wx/\Hid (aRr W24.heap.size rg' (gP m f u t (s.inn.getD u [])) sv b wx))
            case first =>
             as_aux_lemma =>
              generalize hA0:(Act.mk _ _:Act)=a0;have Ee:a0.eval (.tmp 2)=.pointer (some ⟨w.heap.size,0,none⟩)/\a0.eval (.tmp 8)=.pointer (some ⟨W2.heap.size,0,none⟩)/\a0.eval (.tmp 6)=.pointer (some ⟨w1.heap.size,0,none⟩)/\a0.eval (.tmp 12)=.slice (some ⟨eb,0,none⟩) es.length ec/\a0.eval (.tmp 19)=.int .i64 k/\a0.tmps.size=182:=by rw[<-hA0];exact⟨rfl,rfl,rfl,rfl,rfl,rfl⟩
              refine aE (fun w'=>Below W24.heap.size W24 w') kr ((Below.refl _ W24).drew) ?_;intro K0 hK0 hHeld
              try dsimp only at hHeld
              refine aL 0 rfl ?_;refine aL 1 rfl ?_;refine aL 2 rfl ?_;refine aL 3 rfl ?_;refine aL 4 rfl ?_;refine aL 5 rfl ?_;refine aL 6 rfl ?_;refine aL 7 rfl ?_;refine aL 8 rfl ?_;refine aL 9 rfl ?_;refine aL 10 rfl ?_;refine aL 11 rfl ?_;refine aL 12 rfl ?_;refine aL 13 rfl ?_;refine aL 14 rfl ?_;refine aL 15 rfl ?_;refine aL 16 rfl ?_;refine aL 17 rfl ?_;refine aL 18 rfl ?_;refine aL 19 rfl ?_;refine aL 20 rfl ?_;generalize hA1:(Act.put _ _ _:Act)=a1;replace Ee:a1.eval (.tmp 131)=.agg #[.slice ta tl tc,.slice (some ⟨fb,fo,none⟩) fl fc]/\a1.eval (.tmp 132)=.agg #[.string f.name,.slice pa pl pc,.int .i64 rg',.int .i64 f.words,.slice (some ⟨cbb,cbo,none⟩) f.code.length cc]/\a1.eval (.tmp 137)=.int .i64 u/\a1.eval (.tmp 142)=.int .i64 t/\a1.eval (.tmp 151)=.slice (some ⟨nb,0,none⟩) rg' nc/\a1.tmps.size=182:=oZ;refine fD 21 rfl fun K hK=>?_;refine aP rfl 29 [.tmp 131,.tmp 132,.tmp 137,.tmp 142,.tmp 151] #[25,42,3,3,39] rfl hcf [.agg #[.slice ta tl tc,.slice (some ⟨fb,fo,none⟩) fl fc],.agg #[.string f.name,.slice pa pl pc,.int .i64 rg',.int .i64 f.words,.slice (some ⟨cbb,cbo,none⟩) f.code.length cc],.int .i64 u,.int .i64 t,.slice (some ⟨nb,0,none⟩) rg' nc] iD _ (HWA.out _ hHeld) ?_;rintro v wM ⟨sv,b,rfl,hbM,hx⟩;have hwM:Below W24.heap.size W24 wM:=hHeld.trans (hbM.mono hHeld.size);have hzM:=hwM.size;have HXX:=qd hx;clear hx;refine hK.out _ _ (hwM) fun hHeld=>?_;clear hK K;refine aL 22 rfl ?_;refine aL 23 rfl ?_;refine aL 24 rfl ?_;generalize hA2:(Act.put _ _ _:Act)=a2;replace Ee:a2.eval (.tmp 153)=sv/\a2.eval (.tmp 154)=.bool b/\a2.tmps.size=182:=mQ;refine aL 25 rfl ?_;refine aL 26 rfl ?_;refine aO kr ?_;refine hK0.out _ _ ?_;subst hA2;subst hA1;subst hA0
              try clear Ee
              simp only[GE,Act.put,SU];go_wp2;go_meet;exact⟨sv,b,rfl,rfl,hwM,HXX⟩
            case rest =>
             obtain⟨sv,b,rfl,rfl,hb25,HX25⟩:=hcut;obtain⟨W25,hW25⟩:∃ W:World,W=wc:=⟨_,rfl⟩
             subst hW25;have hz25:=hb25.size;clear HSS HWA hcf;have HLH4:Hid (LH W25 zl zh (iL m f s.inn l es k)):=qd ⟨HLH3.out.1.below hb25,HLH3.out.2.below hb25⟩;have HOC4:=qd (HOC3.out.below hb25);have hC4:aG (fun x=>x=zl\/x=zh) W20 W25:=hC3.trans (aG.of hb25);clear HLH3 HOC3 hC3;rcases HX25.out with⟨rfl,hno⟩|⟨q,ob,oc,rfl,hyes,rfl,hob,hox⟩
             ·have HSK:Hid (iL m f s.inn l es (k+1)=iL m f s.inn l es k):=qd (HTE.out.trans (HTG.out.1 hno));clear HX25 hno HTG HTE;go_wp2;refine⟨⟨k+1,oz,si,qd (by rw[HSK.out];exact HLH4.out),hC4⟩,?_⟩;go_light;exact ml
             ·have htg:=HTE.out.trans (HTG.out.2 q hyes);rw[HX.out]at htg;have hcm:iL m f s.inn l es (k+1)=(cJ (iL m f s.inn l es k).1 (q.getD ka default),cJ (iL m f s.inn l es k).2 (q.getD kb default)):=htg;have HCM:=qd hcm;clear HX25 htg hcm hyes HTG HTE;generalize iL m f s.inn l es k=lh at *;have HQX:=qd hox;obtain⟨a0,a1,-,-⟩:=hox.row.cells (show ka<rg' by omega);obtain⟨b0,b1,-,-⟩:=hox.row.cells (show kb<rg' by omega);have hobl:=hox.row.lt;have HJ1:=qd (fun w=>uC lh.1 (q.getD ka default) w);have HJ2:=qd (fun w=>uC lh.2 (q.getD kb default) w);generalize cJ lh.1 (q.getD ka default)=j1 at *;generalize cJ lh.2 (q.getD kb default)=j2 at *;generalize q.getD ka default=pa1 at *;generalize q.getD kb default=pb1 at *;obtain⟨⟨llo,lhi⟩,⟨hlo,hhi⟩⟩:=lh;obtain⟨palo,pahi⟩:=pa1;obtain⟨pblo,pbhi⟩:=pb1;obtain⟨j1lo,j1hi⟩:=j1;obtain⟨j2lo,j2hi⟩:=j2;dsimp only at a0 a1 b0 b1 HJ1 HJ2;have l4:=aD (show aF W25 zl [.int .i64 llo,.int .i64 lhi]from HLH4.out.1);have h4:=aD (show aF W25 zh [.int .i64 hlo,.int .i64 hhi]from HLH4.out.2);have c4:=aX HOC4.out;have hia:(ka:Int)<(rg':Int):=oz
              have hjb:(kb:Int)<(rg':Int):=oz
              have n1:ob≠zl:=oz
              have n3:zh≠zl:=oz
              have n5:wO.heap.size≠zl:=oz
              clear hox;go_upto_region 27 with(fail)
              go_cut [156,157,158,159,160,161,162] (fun y1 y2 y3 y4 y5 y6 y7 wx=>∃ wy,Below W25.heap.size W25 wy/\wx=(wy.setCell ⟨zl,0,none⟩ (.int .i64 j1lo)).setCell ⟨zl,1,none⟩ (.int .i64 j1hi))
              case first =>
               as_aux_lemma =>
                refine bI 7 kr kr (fun T F hF hall=>?_);simp only[TD];have hFc:=fun t=>(bT (hF t)).1;have hFf:=fun t=>(bT (hF t)).2;have hFs:=fun t=>(hF t).size;have hNE:Nonempty T:=(hall _ (Below.refl _ _)).elim fun t _=>⟨t⟩;repeat(refine aU (fun K hK=>?_);go_simp;refine hK _ ?_;clear hK K)
                (refine aU (fun K hK=>?_);go_simp;refine⟨_,fun t=>bE (hF t) hall (HJ1.out (F t)),hK _ ?_⟩;clear hK K)
                repeat(refine aU (fun K hK=>?_);go_simp;refine hK _ ?_;clear hK K)
                refine gX (fun t=>?_);have hft:=hF t;go_wp2;go_meet;exact⟨_,hft,rfl⟩
              case rest =>
               obtain⟨wy,hby,hwx⟩:=hcut;have hc1:aG (fun x=>x=zl) wy wc:=by rw[hwx];exact jX _ _ _ _ _ _
               have OL5:aF wc zl [.int .i64 j1lo,.int .i64 j1hi]:=by
                rw[hwx];exact((HLH4.out.1.below hby).set 0 _ (by simp[sI])).set 1 _ (by simp[sI])
               obtain⟨W26,hW26⟩:∃ W:World,W=wc:=⟨_,rfl⟩
               subst hW26;have hcW:aG (fun x=>x=zl) W25 W26:=(aG.of hby).trans hc1;have hz26:=hcW.size;have OH5:aF W26 zh [.int .i64 hlo,.int .i64 hhi]:=hcW.own HLH4.out.2 n3;have c5:=aX (hcW.own HOC4.out n5);have h5:=aD OH5;have b2:W26.cell? ⟨ob,kb*2,none⟩=some (.int .i64 pblo):=(hcW.cellAt _ hobl n1).trans b0;have b3:W26.cell? ⟨ob,kb*2+1,none⟩=some (.int .i64 pbhi):=(hcW.cellAt _ hobl n1).trans b1;have hob6:ob<W26.heap.size:=oz
               clear hwx hc1 hby l4 h4 c4 a0 a1 b0 b1 HJ1 n1 hobl;go_upto_region 28 with(fail)
               refine bI 7 kr kr (fun T F hF hall=>?_);simp only[TD];have hFc:=fun t=>(bT (hF t)).1;have hFf:=fun t=>(bT (hF t)).2;have hFs:=fun t=>(hF t).size;have hNE:Nonempty T:=(hall _ (Below.refl _ _)).elim fun t _=>⟨t⟩;repeat(refine aU (fun K hK=>?_);go_simp;refine hK _ ?_;clear hK K)
               (refine aU (fun K hK=>?_);go_simp;refine⟨_,fun t=>bE (hF t) hall (HJ2.out (F t)),hK _ ?_⟩;clear hK K)
               repeat(refine aU (fun K hK=>?_);go_simp;refine hK _ ?_;clear hK K)
               refine gX (fun t=>?_);have hft:=hF t;go_wp2;refine⟨⟨k+1,oz,si,qd (by rw[HCM.out];exact⟨(jX _ zh _ _ _ _).own (OL5.below hft) oz,((OH5.below hft).set 0 _ si).set 1 _ si⟩),(hC4.trans (hcW.mono fun _ _ e=>.inl e)).trans ((aG.of hft).trans ((jX _ zh _ _ _ _).mono fun _ _ e=>.inr e))⟩,?_⟩;go_light;exact ml
         ·as_aux_lemma =>
           have q1:(t != (l.head:Int))=true:=by simpa using c1
           have HSK:Hid (iL m f s.inn l es (k+1)=iL m f s.inn l es k):=qd (by rw[HTE.out];unfold gB;rw[if_pos (.inl c1)]);clear c1 HTE hin hic;exact aPw
       ·as_aux_lemma =>
         obtain rfl:k=es.length:=oz
         have d4:¬(es.length:Int)<(es.length:Int):=oz
         have HTNl:=HTN.out l;generalize iL m f s.inn l es es.length=lh at *;obtain⟨⟨plo,phi⟩,⟨qlo,qhi⟩⟩:=lh;have OLX:aF wr zl [.int .i64 plo,.int .i64 phi]:=HLH.out.1;have OHX:aF wr zh [.int .i64 qlo,.int .i64 qhi]:=HLH.out.2;have p2:=aD OLX;have p3:=aD OHX;obtain⟨tn,htn⟩:∃ x,kK m f s.inn l=x:=⟨_,rfl⟩
         rw[htn]at HTNl;have HNN:=qd HTNl;have HTN2:=qd htn;have hno:=iQ ⟨plo,phi⟩;have hle:=aEm ⟨plo,phi⟩ ⟨qlo,qhi⟩;obtain⟨em,hem⟩:∃ b,dU ⟨plo,phi⟩=b:=⟨_,rfl⟩
         rw[hem]at hno;have HEM:=qd hem;unfold aJ at hno hle;dsimp only at hno hle;have HNO:=qd hno;have HLE:=qd hle;have HO9:=qd (aA hbX HO.out);have hcT9:Hid (nT ((ls.take (j+1)).map (kK m f s.inn))=nT ((ls.take j).map (kK m f s.inn))++nT [tn]):=qd (by rw[HTK.out,List.map_append,<-HTN2.out];unfold nT;rw[List.map_append];rfl);clear HTNl htn hno hle hem HLH HOCX HTX;go_upto_if 173 with(first|(go_at_call 31;refine(HNO.out _).mono ?_;rintro e w7 ⟨rfl,hb7⟩;have p28:=aD (OLX.below hb7);have p38:=aD (OHX.below hb7);clear p2 p3)|fail)
         have hz7:=hb7.size;go_cut [23,174,175,176] (fun v y1 y2 y3 wx=>v=.int .u64 tn/\Below w7.heap.size w7 wx)
         case first =>
          cases em
          ·have hlp:plo<=phi:=by have:=HEM.out;unfold dU at this;simpa using this
           have hv:kI ⟨plo,phi⟩ ⟨qlo,qhi⟩=tn:=by rw[<-HNN.out];unfold wH;rw[if_pos hlp]
           have HV:=qd hv;clear hv hlp;go_wp2_with (first|(go_at_call 32;refine(HLE.out _).mono ?_;rintro e w9 ⟨rfl,hb9⟩)|fail)
           go_meet;exact⟨by rw[HV.out],hb9⟩
          ·have hlp:¬plo<=phi:=by have:=HEM.out;unfold dU at this;simp at this;omega
           have hv:(0:Int)=tn:=by rw[<-HNN.out];unfold wH;rw[if_neg hlp]
           have HV:=qd hv;clear hv hlp;go_wp2;go_meet;exact⟨by rw[HV.out],Below.refl _ _⟩
         case rest =>
          obtain⟨rfl,hb8⟩:=hcut;obtain⟨w8,hw8⟩:∃ wb:World,wb=wc:=⟨_,rfl⟩
          subst hw8;have hz8:=hb8.size;clear p28 p38 OLX OHX;have hro8:=qd (aA hb8 (aA hb7 HO9.out));have hbO8:Below w5.heap.size w5 w8:=hbO.trans (((hbX.trans (hb7.mono oz)).trans (hb8.mono oz)).mono hzO);go_wp2_with (first|(at_builtin;refine bO rfl (.tmp 177) (.tmp 179) 27 34 1 8 (.int .u64 0) rfl Tryz.underlying27 kr rfl dc _ _ _ rfl (aA eN hro8.out) ⟨w8.heap.size,0,none⟩ 1 1 (nT [tn]) rfl rfl (cC (aF.new' _ _ _ _ rfl)) (aCp _) bH oz dc ?_;intro g4 c4 w9 hr9 hc9 hg9)|fail)
          have hcA:aG (fun k=>vo.ownBlock=some k) w8 w9:=(aG.of eN).trans hc9;refine⟨⟨j+1,.slice (some ⟨g4,0,none⟩) (j+1) c4,oz,rfl,si,qd (by rw[hcT9.out];exact hr9),qd (fun k hk=>?_),hbO8.trans (hcA.below _ hbO8.size (fun k hk e=>by have:=HOV.out k e;omega))⟩,?_⟩
          ·have e:g4=k:=eL hk
           subst e;rcases hg9 with h|h
           ·exact HOV.out _ h
           ·simp at h;have:=hbO8.size;omega
          ·go_light;exact ml
   ·obtain rfl:j=ls.length:=oz
    have d3:¬(ls.length:Int)<(ls.length:Int):=oz
    rw[List.take_length]at HO;go_wp2
    try rw[Exit.noGoto_ret]
    refine bodyPost_ret (v:=.tuple #[vo,.int .i64 0]) (by simp[results,Tryz.results7,go_sem]) rfl ?_;refine⟨s,HRU.out,vo,by rw[HTP.out],?_,hbw5.trans (hbO.mono hbw5.size),fun k hk=>Nat.le_trans hbw5.size (HOV.out k hk)⟩;rw[HTP.out];dsimp only;rw[List.length_map];exact HO.out
 ·have q7:(fe==0)=false:=by simpa using hfe0
  have q8:(fe != 0)=true:=by simpa using hfe0
  go_wp2_with (first|(go_at_call 12;refine HFL.out.mono ?_;rintro e w4 ⟨v4,L,rfl,hb4,hL,hLm⟩)|fail)
  try rw[Exit.noGoto_ret]
  have htp:gW m f s.inn=([],fe):=by unfold gW;rw[HFD.out];dsimp only;rw[if_neg hfe0]
  refine bodyPost_ret (v:=.tuple #[.slice none 0 0,.int .i64 fe]) (by simp[results,Tryz.results7,go_sem]) rfl ?_;refine⟨s,.slice none 0 0,HRU.out,?_,?_,?_,fun k hk=>by simp[Value.ownBlock]at hk⟩
  ·rw[htp]
  ·rw[htp];exact World.ownsRow_nil _ _ _ _
  ·exact hb3.trans (hb4.mono oz)
end Go.Proofs.YteebpnbdihcfmaaGreatDoor
