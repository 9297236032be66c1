/- bounds; bounds; trips; bounds; trips; trips -/
import Derived.Test.YteebpnbdihcfmaaGreatDoorJ13
import Derived.Test.YteebpnbdihcfmaaGreatDoorJ27
import Derived.Test.YteebpnbdihcfmaaGreatDoorJ12
import Derived.Test.YteebpnbdihcfmaaGreatDoorJ06
import Derived.Deep.RegionLawGrows
import Derived.Test.YteebpnbdihcfmaaGreatDoorJ08
import Derived.Test.YteebpnbdihcfmaaGreatDoorJ11
import Derived.Test.YteebpnbdihcfmaaGreatDoorJ01
set_option linter.unusedVariables false
set_option linter.unusedSimpArgs false
set_option maxRecDepth 100000
set_option maxHeartbeats 20000000
namespace Go.Proofs.YteebpnbdihcfmaaGreatDoor
open Go.RowKit
section
attribute [local go_sem] Oper.semAt_some
theorem chgR (W:World) (b:Nat) (u v:Value):Chg (· = b) W ((W.setCell ⟨b,0,none⟩ u).setCell ⟨b,1,none⟩ v) :=
 Chg.setCell (S:=(· = b)) (Chg.setCell (S:=(· = b)) (Chg.refl _ _) (p:=⟨b,0,none⟩) (Or.inl rfl) _) (p:=⟨b,1,none⟩) (Or.inl rfl) _
/-- what Run hands back, where nothing is wrong: the spans that stand when no mark is left -/
def RunOk (m:PMod) (fn:Nat) (w:World) (e:Ending) (w':World):Prop:=∃ (N rg:Nat) (A:BAd) (s:PBS),(fnAt m fn).regs=rg/\RunsS m (fnAt m fn) (startS (fnAt m fn)) s /\
 e=.returned (.tuple #[.agg #[.slice (some ⟨A.ib,0,none⟩) (fnAt m fn).code.length A.ic,.slice (some ⟨A.cb,0,none⟩) (fnAt m fn).code.length A.cc],.int .i64 0])/\BAt N w' A (fnAt m fn).code.length rg s/\SOk (fnAt m fn).code.length rg s/\w.heap.size<=N/\Below w.heap.size w w'
theorem run_ok (B:Nat) (m:PMod) (fn:Nat) (ta fa:Option Addr) (tl tc fl fc:Nat) (w:World) (hB:B<=w.heap.size) (hB0:0<B) (hmo:ModAt B w (.agg #[.slice ta tl tc,.slice fa fl fc]) m) (hr:RowsAt w) (he:(mayP m).e=0) (hfn:fn<m.funcs.length) :
 Calls Tryz.prog 16 #[.agg #[.slice ta tl tc,.slice fa fl fc],.int .i64 fn] w (RunOk m fn w):=by
 have HM:=qd hmo;have HRW:=qd hr;have HMay:=qd (fun w' hw hr'=>may_any B (.agg #[.slice ta tl tc,.slice fa fl fc]) m w' hw hB0 hr');rw[he]at HMay;obtain⟨_,_,_,_,_,_,hv,⟨htl,htm,-⟩,hfs⟩:=hmo;cases hv;obtain⟨hfl1,hfl2,fb,fo,hfb,H,hH⟩:=hfs;obtain⟨rfl,hfbB⟩:=hfb oz;obtain⟨hcells,hfo⟩:=hH fn oz;generalize H fn=hh at *;generalize hff:m.funcs.getD fn default=f at *;obtain⟨pa,pl,pc,ca,cl,cc⟩:=hh;have hcl:f.code.length=cl:=hfo.2.2.1.1;subst hcl;obtain⟨g0,g1,g2,g3,g4⟩:=hcells;dsimp only at g0 g1 g2 g3 g4;have hfnl:(fn:Int)<(fl:Int):=oz
 have q1:¬(fn:Int)<0:=oz
 have q2:decide ((fl:Int)<=(fn:Int))=false:=by simp;omega
 have q3:decide ((fn:Int)<0)=false:=si
 have hfine:=fine_of he;have hff1:=hfine.fn fn hfn;have hfe:fnAt m fn=f:=hff;rw[hfe]at hff1;obtain⟨rg,hrg⟩:∃ rg:Nat,f.regs=rg:=⟨f.regs.toNat,by have:=hff1.r1;omega⟩
 have hrg0:0<rg:=by have:=hff1.r1;omega
 have hrg64:rg<=64:=by have:=hff1.r2;omega
 have hn0:0<f.code.length:=hff1.c1;have hn1:f.code.length<=1024:=hff1.c2;have hpl:f.params.length<=rg:=by have:=hff1.np;omega
 rw[hrg]at g2;have HRG:=qd hrg;have HFF:=qd hff1;have HFE:=qd hfe;have HFI:=qd hfine;have HE:=qd he;have HFO:=qd hfo;clear hfine hff1 hfe hrg hff;clear hH hfb hfo;refine(callsIn_wide (n:=3)).1 ?_;refine callsIn_of_wp_marks Tryz.func16 rfl trivial ?_ rfl;refine wpIn_wide.2 ?_;simp only[Tryz.ntmps16,List.size_toArray,List.length_cons,List.length_nil,Nat.reduceAdd,Nat.reduceSub,Array.replicate_succ,Array.replicate_zero,List.push_toArray,List.append_toArray,List.nil_append,List.cons_append];go_wp2;generalize hW0:World.alloc _ _=W0;have hb0:Below w.heap.size w W0:=by rw[<-hW0];exact bel
 have OM:Own W0 w.heap.size [.slice ta tl tc,.slice (some ⟨fb,fo,none⟩) fl fc]:=by rw[<-hW0];exact(Own.new _ _ _).alloc _
 have OA:Own W0 (w.heap.size+1) [.slice none 0 0,.slice none 0 0]:=by rw[<-hW0];exact Own.new' _ _ _ _ si
 have hz0:w.heap.size+2=W0.heap.size:=by rw[<-hW0];simp
 have hz0':w.heap.size+2<=W0.heap.size:=oz
 have m2:=own2 OM;have HC:=qd (HMay.out W0 oz (HM.out.same (Same.of hb0 hB)) (HRW.out.same (Same.of hb0 lr) HRW.out.1 hb0.size));clear hW0 HMay hz0;go_step3;go_upto_region 6 with(first|(go_at_call 44;refine HC.out.mono ?_;rintro e w1 ⟨rfl,hb1⟩;have m2b:=own2 (OM.below hb1);clear m2)|fail)
 have hz1:=hb1.size;generalize hW2:World.alloc _ _=W2;have hbA:Below w1.heap.size w1 W2:=by rw[<-hW2];exact bal
 have hz2:=hbA.size;have hb2:Below w.heap.size w W2:=(hb0.trans (hb1.mono oz)).trans (hbA.mono oz);have OM2:=(OM.below hb1).below hbA;have OA2:=(OA.below hb1).below hbA;have m2':=own2 OM2;have sm:=Same.of hb2 hB;rw[<-sm _ _ (by show fb<B;omega)]at g0 g1 g2 g3 g4;clear hW2 m2b hbA OM OA HC hb1;have hm34:=run_make_row' (P:=Tryz.prog) 58 39 (.slice none 0 0) 24 Tryz.underlying58 kr rfl .i64 .i64 f.code.length oz oz;have hm35:=run_make_row' (P:=Tryz.prog) 59 50 (.slice none 0 0) 24 Tryz.underlying59 kr rfl .i64 .i64 f.code.length oz oz;have hm69:=run_make_row' (P:=Tryz.prog) 89 4 (.bool false) 1 Tryz.underlying89 kr rfl .i64 .i64 f.code.length oz oz;have hm47:=run_make_row' (P:=Tryz.prog) 50 3 (.int .i64 0) 8 Tryz.underlying50 Tryz.infoI rfl .i64 .i64 f.code.length oz oz;have hmc:∀ z:Value,madeCells #[z] f.code.length=(List.replicate f.code.length z).toArray:=madeOne f.code.length;rw[hmc]at hm34 hm35 hm69 hm47;have hml:f.code.length<=maxLen:=by unfold maxLen;omega
 go_upto_region 8 with(fail)
 generalize hW5:World.alloc _ _=W5;have hb5:Below w.heap.size w W5:=by rw[<-hW5];exact bel
 have OF5:Own W5 W2.heap.size [.string f.name,.slice pa pl pc,.int .i64 rg,.int .i64 f.words,.slice ca f.code.length cc]:=by rw[<-hW5];exact Own.new _ _ _
 have OM5:Own W5 w.heap.size [.slice ta tl tc,.slice (some ⟨fb,fo,none⟩) fl fc]:=by rw[<-hW5];exact OM2.alloc _
 have OA5:Own W5 (w.heap.size+1) [.slice none 0 0,.slice none 0 0]:=by rw[<-hW5];exact OA2.alloc _
 have hz5:W2.heap.size+1=W5.heap.size:=by rw[<-hW5];simp
 have hz5':W2.heap.size+1<=W5.heap.size:=oz
 clear hW5 hz5 OM2 OA2 hb2 m2' g0 g1 g2 g3 g4 sm;generalize hA0:(Act.mk _ _:Act)=a0;have e8:a0.eval (.tmp 8)=.int .i64 f.code.length:=by rw[<-hA0];rfl
 have hsz:a0.tmps.size=143:=by rw[<-hA0];rfl
 refine region_frame kr kr kr (by rw[hsz];kernel_rfl) [some 42,some 43,some 44,some 45,some 46,some 47,some 48,some 49,some 50,some 51,some 52,some 9,none] kr kr (fun L V W=>L.size=13/\∃ tg,RunF f.code.length W5 L V W tg) (fun V=>⟨si,_,RunF.start _ _ V (Below.refl _ _).drew⟩) ?_ ?_
 ·intro i o L V ev W ho hlt hne hd hc hcst hun hev hF;obtain⟨hLs,tg,hF⟩:=hF;have e8':ev (.tmp 8)=.int .i64 f.code.length:=(hun 8 (noDst_spec kr)).trans e8;have hi:i<13:=by rw[<-hLs];exact hlt
  obtain rfl|rfl|rfl|rfl|rfl|rfl|rfl|rfl|rfl|rfl|rfl|rfl|rfl:i=0\/i=1\/i=2\/i=3\/i=4\/i=5\/i=6\/i=7\/i=8\/i=9\/i=10\/i=11\/i=12:=oz
  ·cases ho;have hl12:¬L.getD 12 false=true:=fun h=>hne (hc 12 _ rfl h ⟨0,.phase⟩ si rfl);exact .inl ⟨_,W,by simp[execOp,e8',go_sem],by simpa using hLs,tg,hF.s0 hlt hl12⟩
  ·cases ho;have hl12:¬L.getD 12 false=true:=fun h=>hne (hc 12 _ rfl h ⟨1,.phase⟩ si rfl);have d0:L.getD 0 false=true:=hd ⟨0,.data⟩ si rfl;have ed:ev (.tmp 42)=.int .i64 f.code.length:=(hev 0 42 rfl d0).trans (hF.num 0 si d0);have nb4:¬L.getD 4 false=true:=fun h=>hne (hc 4 _ rfl h ⟨1,.data⟩ si rfl);have nb9:¬L.getD 9 false=true:=fun h=>nb4 (hc 9 _ rfl h ⟨4,.data⟩ si rfl);have nb10:¬L.getD 10 false=true:=fun h=>nb9 (hc 10 _ rfl h ⟨9,.data⟩ si rfl);exact .inl ⟨_,_,by unfold execOp;simp only[GE,ed,Sem.run_bind,Sem.run_pure,Result.andThen_ok,hm34],by simpa using hLs,_,hF.s1 hlt hl12 nb9 nb10 nb4 hml⟩
  ·cases ho;have hl12:¬L.getD 12 false=true:=fun h=>hne (hc 12 _ rfl h ⟨2,.phase⟩ si rfl);exact .inl ⟨_,W,by simp[execOp,e8',go_sem],by simpa using hLs,tg,hF.s2 hlt hl12⟩
  ·cases ho;have hl12:¬L.getD 12 false=true:=fun h=>hne (hc 12 _ rfl h ⟨3,.phase⟩ si rfl);have d2:L.getD 2 false=true:=hd ⟨2,.data⟩ si rfl;have ed:ev (.tmp 44)=.int .i64 f.code.length:=(hev 2 44 rfl d2).trans (hF.num 2 si d2);have nb4:¬L.getD 4 false=true:=fun h=>hne (hc 4 _ rfl h ⟨3,.data⟩ si rfl);have nb9:¬L.getD 9 false=true:=fun h=>nb4 (hc 9 _ rfl h ⟨4,.data⟩ si rfl);have nb10:¬L.getD 10 false=true:=fun h=>nb9 (hc 10 _ rfl h ⟨9,.data⟩ si rfl);exact .inl ⟨_,_,by unfold execOp;simp only[GE,ed,Sem.run_bind,Sem.run_pure,Result.andThen_ok,hm35],by simpa using hLs,_,hF.s3 hlt hl12 nb9 nb10 nb4 hml⟩
  ·cases ho;have hl12:¬L.getD 12 false=true:=fun h=>hne (hc 12 _ rfl h ⟨4,.phase⟩ si rfl);have d1:L.getD 1 false=true:=hd ⟨1,.data⟩ si rfl;have d3:L.getD 3 false=true:=hd ⟨3,.data⟩ si rfl;obtain⟨b1,hv1,-,-⟩:=hF.r1 d1;have e1:ev (.tmp 43)=.slice (some ⟨b1,0,none⟩) f.code.length f.code.length:=(hev 1 43 rfl d1).trans hv1;obtain⟨b3,hv3,-,-⟩:=hF.r3 d3;have e3:ev (.tmp 45)=.slice (some ⟨b3,0,none⟩) f.code.length f.code.length:=(hev 3 45 rfl d3).trans hv3;exact .inl ⟨.agg #[V 1,V 3],W,by rw[hv1,hv3];simp[execOp,e1,e3,go_sem],by simpa using hLs,tg,hF.s4 hlt hl12 d1 d3⟩
  ·cases ho;have hl12:¬L.getD 12 false=true:=fun h=>hne (hc 12 _ rfl h ⟨5,.phase⟩ si rfl);exact .inl ⟨_,W,by simp[execOp,e8',go_sem],by simpa using hLs,tg,hF.s5 hlt hl12⟩
  ·cases ho;have hl12:¬L.getD 12 false=true:=fun h=>hne (hc 12 _ rfl h ⟨6,.phase⟩ si rfl);have d5:L.getD 5 false=true:=hd ⟨5,.data⟩ si rfl;have ed:ev (.tmp 47)=.int .i64 f.code.length:=(hev 5 47 rfl d5).trans (hF.num 5 si d5);have nb9:¬L.getD 9 false=true:=fun h=>hne (hc 9 _ rfl h ⟨6,.data⟩ si rfl);have nb10:¬L.getD 10 false=true:=fun h=>nb9 (hc 10 _ rfl h ⟨9,.data⟩ si rfl);exact .inl ⟨_,_,by unfold execOp;simp only[GE,ed,Sem.run_bind,Sem.run_pure,Result.andThen_ok,hm69],by simpa using hLs,_,hF.s6 hlt hl12 nb9 nb10 hml⟩
  ·cases ho;have hl12:¬L.getD 12 false=true:=fun h=>hne (hc 12 _ rfl h ⟨7,.phase⟩ si rfl);exact .inl ⟨_,W,by simp[execOp,e8',go_sem],by simpa using hLs,tg,hF.s7 hlt hl12⟩
  ·cases ho;have hl12:¬L.getD 12 false=true:=fun h=>hne (hc 12 _ rfl h ⟨8,.phase⟩ si rfl);have d7:L.getD 7 false=true:=hd ⟨7,.data⟩ si rfl;have ed:ev (.tmp 49)=.int .i64 f.code.length:=(hev 7 49 rfl d7).trans (hF.num 7 si d7);have nb9:¬L.getD 9 false=true:=fun h=>hne (hc 9 _ rfl h ⟨8,.data⟩ si rfl);have nb10:¬L.getD 10 false=true:=fun h=>nb9 (hc 10 _ rfl h ⟨9,.data⟩ si rfl);exact .inl ⟨_,_,by unfold execOp;simp only[GE,ed,Sem.run_bind,Sem.run_pure,Result.andThen_ok,hm47],by simpa using hLs,_,hF.s8 hlt hl12 nb9 nb10 hml⟩
  ·cases ho;have hl12:¬L.getD 12 false=true:=fun h=>hne (hc 12 _ rfl h ⟨9,.phase⟩ si rfl);have d4:L.getD 4 false=true:=hd ⟨4,.data⟩ si rfl;have d6:L.getD 6 false=true:=hd ⟨6,.data⟩ si rfl;have d8:L.getD 8 false=true:=hd ⟨8,.data⟩ si rfl;have d1:L.getD 1 false=true:=hc 4 _ rfl d4 ⟨1,.data⟩ si rfl;have d3:L.getD 3 false=true:=hc 4 _ rfl d4 ⟨3,.data⟩ si rfl;obtain⟨b1,hv1,-,-⟩:=hF.r1 d1;have e1:ev (.tmp 43)=.slice (some ⟨b1,0,none⟩) f.code.length f.code.length:=(hev 1 43 rfl d1).trans hv1;obtain⟨b3,hv3,-,-⟩:=hF.r3 d3;have e3:ev (.tmp 45)=.slice (some ⟨b3,0,none⟩) f.code.length f.code.length:=(hev 3 45 rfl d3).trans hv3;obtain⟨b6,hv6,-,-⟩:=hF.r6 d6;have e6:ev (.tmp 48)=.slice (some ⟨b6,0,none⟩) f.code.length f.code.length:=(hev 6 48 rfl d6).trans hv6;obtain⟨b8,hv8,-,-⟩:=hF.r8 d8;have e8:ev (.tmp 50)=.slice (some ⟨b8,0,none⟩) f.code.length f.code.length:=(hev 8 50 rfl d8).trans hv8;have e4:ev (.tmp 46)=.agg #[.slice (some ⟨b1,0,none⟩) f.code.length f.code.length,.slice (some ⟨b3,0,none⟩) f.code.length f.code.length]:=by rw[hev 4 46 rfl d4,hF.b4 d4,hv1,hv3]
   exact .inl ⟨.agg #[V 1,V 3,V 6,V 8],W,by rw[hv1,hv3,hv6,hv8];simp[execOp,e4,e6,e8,go_sem],by simpa using hLs,tg,hF.s9 hlt hl12⟩
  ·cases ho;have hl12:¬L.getD 12 false=true:=fun h=>hne (hc 12 _ rfl h ⟨10,.phase⟩ si rfl);have d9:L.getD 9 false=true:=hd ⟨9,.data⟩ si rfl;have d4:L.getD 4 false=true:=hc 9 _ rfl d9 ⟨4,.data⟩ si rfl;have d6:L.getD 6 false=true:=hc 9 _ rfl d9 ⟨6,.data⟩ si rfl;have d8:L.getD 8 false=true:=hc 9 _ rfl d9 ⟨8,.data⟩ si rfl;have d1:L.getD 1 false=true:=hc 4 _ rfl d4 ⟨1,.data⟩ si rfl;have d3:L.getD 3 false=true:=hc 4 _ rfl d4 ⟨3,.data⟩ si rfl;obtain⟨b1,hv1,-,-⟩:=hF.r1 d1;have e1:ev (.tmp 43)=.slice (some ⟨b1,0,none⟩) f.code.length f.code.length:=(hev 1 43 rfl d1).trans hv1;obtain⟨b3,hv3,-,-⟩:=hF.r3 d3;have e3:ev (.tmp 45)=.slice (some ⟨b3,0,none⟩) f.code.length f.code.length:=(hev 3 45 rfl d3).trans hv3;obtain⟨b6,hv6,-,-⟩:=hF.r6 d6;have e6:ev (.tmp 48)=.slice (some ⟨b6,0,none⟩) f.code.length f.code.length:=(hev 6 48 rfl d6).trans hv6;obtain⟨b8,hv8,-,-⟩:=hF.r8 d8;have e8:ev (.tmp 50)=.slice (some ⟨b8,0,none⟩) f.code.length f.code.length:=(hev 8 50 rfl d8).trans hv8;have e9:ev (.tmp 51)=.agg #[.slice (some ⟨b1,0,none⟩) f.code.length f.code.length,.slice (some ⟨b3,0,none⟩) f.code.length f.code.length,.slice (some ⟨b6,0,none⟩) f.code.length f.code.length,.slice (some ⟨b8,0,none⟩) f.code.length f.code.length]:=by rw[hev 9 51 rfl d9,hF.b9 d9,hv1,hv3,hv6,hv8]
   refine .inl ⟨_,_,?_,by simpa using hLs,_,hF.s10 hlt hl12⟩;rw[hv1,hv3,hv6,hv8];simp[execOp,e9,go_sem]
  ·cases ho;have hl12:¬L.getD 12 false=true:=fun h=>hne (hc 12 _ rfl h ⟨11,.phase⟩ si rfl);refine .inl ⟨_,_,?_,by simpa using hLs,_,hF.s11 hlt hl12⟩;simp[execOp,go_sem]
  ·cases ho;have d11:L.getD 11 false=true:=hd ⟨11,.data⟩ si rfl;have d10:L.getD 10 false=true:=hd ⟨10,.data⟩ si rfl;obtain⟨p,hp,-,hown⟩:=hF.pt d11;rw[if_neg hne]at hown;obtain⟨k,hk,-,-⟩:=hF.st d10;have o9:=own1 hown;have e11:ev (.tmp 9)=.pointer (some ⟨p,0,none⟩):=(hev 11 9 rfl d11).trans hp;have e10:ev (.tmp 52)=.pointer (some ⟨k,0,none⟩):=(hev 10 52 rfl d10).trans hk;refine .inr ⟨_,?_,by simpa using hLs,_,hF.s12 hlt hne d11 hp undef⟩;rw[hk];simp[execOp,e11,e10,go_sem,o9.2.1,o9.2.2]
 ·rintro L V W hL ⟨hLs,tg,hF⟩;have l:∀ i,i<13->L.getD i false=true:=hL;obtain⟨b1,v1,r1,t1⟩:=hF.r1 (l 1 dc);obtain⟨b3,v3,r3,t3⟩:=hF.r3 (l 3 dc);obtain⟨b6,v6,r6,t6⟩:=hF.r6 (l 6 dc);obtain⟨b8,v8,r8,t8⟩:=hF.r8 (l 8 dc);obtain⟨k,v10,hst,tk⟩:=hF.st (l 10 dc);obtain⟨p,v11,tp,hpt⟩:=hF.pt (l 11 dc);rw[if_pos (l 12 (by decide)),v10]at hpt;rw[v1,v3,v6,v8]at hst;rw[v1]at r1;rw[v3]at r3;rw[v6]at r6;rw[v8]at r8;have w0:=hF.num 0 si (l 0 dc);have w2:=hF.num 2 si (l 2 dc);have w5:=hF.num 5 si (l 5 dc);have w7:=hF.num 7 si (l 7 dc);have w4:=hF.b4 (l 4 dc);have w9:=hF.b9 (l 9 dc);have hbel:=hF.bel;have hfr:=hF.fr;have hlo:=hF.lo;rw[v1,v3]at w4;rw[v1,v3,v6,v8]at w9;simp only[putsL,Nat.zero_add,Nat.reduceAdd];rw[v1,w0,w2,v3,w4,w5,v6,w7,v8,w9,v10,v11];subst hA0
  try clear Ee
  simp only[GE,Act.put,SU];have hpk:k≠p:=fun e=>by rw[e]at tk;omega
  have hp1:b1≠p:=fun e=>by rw[e]at t1;omega
  have hp3:b3≠p:=fun e=>by rw[e]at t3;omega
  have hp6:b6≠p:=fun e=>by rw[e]at t6;omega
  have hp8:b8≠p:=fun e=>by rw[e]at t8;omega
  have hpl2:=hpt.1;have htg0:∀ x,x<W5.heap.size->updF tg p 0 x=0:=fun x hx=>by
   by_cases e:x=p
   ·subst e;exact updF_self _ _ _
   ·rw[updF_ne _ _ e];exact Classical.byContradiction fun h=>by have:=hlo x h;omega
  have HI:Hid (MInit W5.heap.size W { k:=k,ib:=b1,ic:=f.code.length,cb:=b3,cc:=f.code.length,mb:=b6,mc:=f.code.length,jb:=b8,jc:=f.code.length,iv:=fun _=>none,cv:=fun _=>(0,0),tg:=updF tg p 0 } f.code.length rg 0):=qd (by
   refine⟨hst,r1,?_,r6,r8,fun v hv=>absurd hv (Nat.not_lt_zero v),by dsimp only;rw[updF_ne _ _ hpk];exact tk,by dsimp only;rw[updF_ne _ _ hp1];exact t1,by dsimp only;rw[updF_ne _ _ hp3];exact t3,by dsimp only;rw[updF_ne _ _ hp6];exact t6,by dsimp only;rw[updF_ne _ _ hp8];exact t8,fun b hb=>?_,fun b hb=>?_,Nat.zero_le _⟩
   ·have e:(List.range f.code.length).map (fun v=>if v<0 then cvVal rg ((0:Nat),(0:Nat))else Value.slice none 0 0)=List.replicate f.code.length (.slice none 0 0):=by
     simp[List.eq_replicate_iff]
    dsimp only;rw[e];exact r3
   ·dsimp only;rw[updF_ne _ _ (by omega)];exact hfr b hb
   ·dsimp only at hb;by_cases e:b=p
    ·subst e;rw[updF_self]at hb;omega
    ·rw[updF_ne _ _ e]at hb;exact hlo b hb)
  have HB:Hid (Boxes W (updF tg p 0) w.heap.size (w.heap.size+1) W2.heap.size p k [.slice ta tl tc,.slice (some ⟨fb,fo,none⟩) fl fc] [.string f.name,.slice pa pl pc,.int .i64 rg,.int .i64 f.words,.slice ca f.code.length cc]):=qd ⟨OM5.below hbel,OA5.below hbel,OF5.below hbel,hpt,htg0 _ oz,htg0 _ oz,htg0 _ oz,updF_self _ _ _⟩;have hbW:Below w.heap.size w W:=hb5.trans (hbel.mono hb5.size);have hb5w:=hb5;have hzW:=hbel.size;have HBE:=qd hbel;clear r1 r3 r6 r8 t1 t3 t6 t8 tk tp hst hpt v1 v3 v6 v8 v10 v11 w0 w2 w4 w5 w7 w9 hbel hfr hlo hF l hL hLs hpk hp1 hp3 hp6 hp8 htg0 OM5 OA5 OF5 hb5 hm34 hm35 hm69 hm47 hmc hml e8 hsz;have hm47r:=run_make_row' (P:=Tryz.prog) 50 3 (.int .i64 0) 8 Tryz.underlying50 Tryz.infoI rfl .i64 .i64 rg oz oz;rw[madeOne]at hm47r;go_wp2;go_loopw [54] (fun i wx=>∃ (j:Nat) (cv:Nat->Nat×Nat) (tg':Nat->Nat),j<=f.code.length/\i=.int .i64 j/\Hid (MInit W5.heap.size wx { k:=k,ib:=b1,ic:=f.code.length,cb:=b3,cc:=f.code.length,mb:=b6,mc:=f.code.length,jb:=b8,jc:=f.code.length,iv:=fun _=>none,cv:=cv,tg:=tg' } f.code.length rg j)/\Hid (Boxes wx tg' w.heap.size (w.heap.size+1) W2.heap.size p k [.slice ta tl tc,.slice (some ⟨fb,fo,none⟩) fl fc] [.string f.name,.slice pa pl pc,.int .i64 rg,.int .i64 f.words,.slice ca f.code.length cc])/\Below W5.heap.size W5 wx) (fun i _=>f.code.length-(intOf i).toNat)
  case atStart=>exact⟨0,_,_,Nat.zero_le _,rfl,HI,HB,HBE.out⟩
  case round =>
   clear HI HB;obtain⟨j,cv,tg',hj,rfl,HI,HB,hbx⟩:=hrel;have hzx:=hbx.size;have k4:=own4 HI.out.st;have f5:=own5 HB.out.cf;have p1:=own1 HB.out.cp;by_cases hjt:j<f.code.length
   ·have d3:(j:Int)<(f.code.length:Int):=oz
    have hwj:IntKind.i64.wrap ((j:Int)+1)=(j:Int)+1:=IntWalk.i64_in _ oz;have c0:wr.cell? ⟨b3,j,none⟩=some (.slice none 0 0):=row_cell HI.out.rc (by simp[hjt]);have z0:wr.frozen? ⟨b3,j,none⟩=false:=HI.out.rc.frozenAt _;have hb3L:=row_ltB HI.out.rc;have htc:tg' b3=3:=HI.out.tc;have htk:tg' k=1:=HI.out.tk;have htp:tg' p=0:=HB.out.tp;have htf:tg' W2.heap.size=0:=HB.out.tf;have HSS:Hid (∀ w',Chg (· = b3) wr w'->w'.cell? ⟨p,0,none⟩=some (.pointer (some ⟨k,0,none⟩))/\w'.cell? ⟨k,1,none⟩=some (.slice (some ⟨b3,0,none⟩) f.code.length f.code.length)/\w'.cell? ⟨W2.heap.size,2,none⟩=some (.int .i64 rg)):=qd (fun w' hw=>by
     have k4:=own4 (hw.own HI.out.st (fun e=>by have e':k=b3:=e;rw[e']at htk;omega));have f5:=own5 (hw.own HB.out.cf (fun e=>by rw[e]at htf;omega));have p1:=own1 (hw.own HB.out.cp (fun e=>by rw[e]at htp;omega));exact⟨p1.2.1,k4.2.2.1,f5.2.2.2.1⟩)
    go_upto_region 12 with(fail)
    clear k4 f5 p1;generalize hA0:(Act.mk _ _:Act)=a0;have Ee:a0.eval (.tmp 9)=.pointer (some ⟨p,0,none⟩)/\a0.eval (.tmp 10)=.int .i64 j/\a0.eval (.tmp 7)=.pointer (some ⟨W2.heap.size,0,none⟩)/\a0.tmps.size=143:=by rw[<-hA0];exact⟨rfl,rfl,rfl,rfl⟩
    refine region_held_plain (fun w'=>Chg (· = b3) wr w') kr ((Chg.refl _ wr).drew) ?_;intro K0 hK0 hHeld
    try dsimp only at hHeld
    refine wtk 0 rfl ?_;try simp only[GE]
    refine wtk 1 rfl ?_;try simp only[GE]
    refine wtk 2 rfl ?_;try simp only[GE]
    refine wtk 3 rfl ?_;try simp only[GE]
    refine wtk 4 rfl ?_;try simp only[GE]
    refine wtk 5 rfl ?_;try simp only[GE]
    refine wtk 6 rfl ?_;try simp only[GE]
    refine wtk 7 rfl ?_;try simp only[GE]
    generalize hA1:(Act.put _ _ _:Act)=a1;replace Ee:a1.eval (.tmp 61)=.slice (some ⟨b3,0,none⟩) f.code.length f.code.length/\a1.eval (.tmp 62)=.int .i64 j/\a1.eval (.tmp 64)=.int .i64 rg/\a1.tmps.size=143:=ee1;refine readyH1 8 ?_ kr ?_ ?_;rotate_left
    ·exact rfl
    intro K hK;simp only[GE];refine step_val rfl (.slice (some ⟨wr.heap.size,0,none⟩) rg rg) _ (by unfold execOp;simp only[GE,Ee,Sem.run_bind,Sem.run_pure,Result.andThen_ok,hm47r];rfl) ?_;refine hK.out _ _ (chq) fun hHeld=>?_;clear hK K;try simp only[GE]
    generalize hA2:(Act.put _ _ _:Act)=a2;replace Ee:a2.eval (.tmp 61)=.slice (some ⟨b3,0,none⟩) f.code.length f.code.length/\a2.eval (.tmp 62)=.int .i64 j/\a2.eval (.tmp 65)=.slice (some ⟨wr.heap.size,0,none⟩) rg rg/\a2.tmps.size=143:=ee2;refine wtk 9 rfl ?_;try simp only[GE]
    generalize hA3:(Act.put _ _ _:Act)=a3;replace Ee:a3.eval (.tmp 66)=.pointer (some ⟨b3,j,none⟩)/\a3.eval (.tmp 65)=.slice (some ⟨wr.heap.size,0,none⟩) rg rg/\a3.tmps.size=143:=ee3;refine readyH1 10 ?_ kr ?_ ?_;rotate_left
    ·exact rfl
    intro K hK;simp only[GE];refine sts ?_;refine hK.out _ _ (chq) fun hHeld=>?_;clear hK K;try simp only[GE]
    refine anyH_done kr ?_;refine hK0.out _ _ ?_;subst hA3;subst hA2;subst hA1;subst hA0;clear Ee;simp only[GE,Act.put,SU];generalize hW9':(World.drew _:World)=w9;have hW9:(wr.drew.alloc (.cells (List.replicate rg (Value.int .i64 0)).toArray 3)).setCell ⟨b3,j,none⟩ (.slice (some ⟨wr.heap.size,0,none⟩) rg rg)=w9:=by
     rw[<-hW9']
     go_simp
    have hba:Below wr.heap.size wr (wr.drew.alloc (.cells (List.replicate rg (Value.int .i64 0)).toArray 3)):=(Below.refl _ wr).drew.alloc lr _;have hrow:(wr.drew.alloc (.cells (List.replicate rg (Value.int .i64 0)).toArray 3)).ownsRow 0 3 1 (.slice (some ⟨wr.heap.size,0,none⟩) rg rg) rg (Nums (List.replicate rg 0)):=by
     have:=World.ownsRow_lit wr.drew (base:=0) (e:=3) (size:=1) (List.replicate rg (Value.int .i64 0)).toArray rg (Nat.zero_le _) (by unfold maxLen;omega) si;simpa[Nums]using this
    have hM9:=(HI.out.below hba).row hjt hrow (HI.out.fr _ lr) hzx;have hB9:=HB.out.tag1 ((HB.out.below hba).keep (chgSet _ b3 j (.slice (some ⟨wr.heap.size,0,none⟩) rg rg)) (fun x e=>by have e2:x=b3:=e;rw[e2,htc];decide)) (Nat.le_refl wr.heap.size) (7+2*j);have hbx9:Below W5.heap.size W5 w9:=by rw[<-hW9];exact(hbx.trans (hba.mono hzx)).setCell (p:=⟨b3,j,none⟩) (HI.out.lo b3 (by show tg' b3≠0;rw[htc];decide)) _
    dsimp only at hM9;rw[hW9]at hM9 hB9;have HM9:=qd hM9;have HB9:=qd hB9;clear hM9 hB9 hW9 hW9' hrow;go_wp2;refine⟨⟨j+1,_,_,oz,si,HM9,HB9,hbx9⟩,?_⟩;go_light;exact ml
   ·obtain rfl:j=f.code.length:=oz
    have d3:¬(f.code.length:Int)<(f.code.length:Int):=oz
    have HBt:=qd HI.out.done;have htb1:tg' b1=2:=HI.out.ti;have htk:tg' k=1:=HI.out.tk;have htp:tg' p=0:=HB.out.tp;have htf:tg' W2.heap.size=0:=HB.out.tf;have c0:wr.cell? ⟨b1,0,none⟩=some (.slice none 0 0):=row_cell HI.out.ri (by simp[hn0]);have z0:wr.frozen? ⟨b1,0,none⟩=false:=HI.out.ri.frozenAt _;have hb1L:=row_ltB HI.out.ri;have hb1W:W5.heap.size<=b1:=HI.out.lo b1 (by show tg' b1≠0;rw[htb1];decide);have hbwr:Below w.heap.size w wr:=hb5w.trans (hbx.mono oz);have hsp:=HFO.out.2.1;have hsp2:pl=pl/\∀ i,i<pl->In64 (f.params.getD i default).lo/\In64 (f.params.getD i default).hi:=⟨rfl,fun i hi=>by obtain⟨_,_,_,_,_,hc⟩:=hsp;exact(hc i hi).2.2⟩
    have hplen:f.params.length=pl:=hsp.1;have hrgp:pl+(rg-pl)=rg:=oz
    have hpl64:pl<=64:=oz
    have hws:IntKind.i64.wrap ((rg:Int)-(pl:Int))=((rg-pl:Nat):Int):=by rw[IntWalk.i64_in _ (by omega)];omega
    have hws2:wrap64 ((rg:Int)-(pl:Int))=((rg-pl:Nat):Int):=by rw[wrap64_eq];exact hws
    have hbeg:f.params++List.replicate (rg-pl) (⟨0,0⟩:PSpan)=beginP f:=by unfold beginP;rw[HRG.out,hplen];simp
    have HSR:=qd (spans_src hsp);have HCl:Hid (∀ w',Chg (· = b1) wr w'->Calls Tryz.prog 21 #[.slice pa pl pc] w' fun e w2=>∃ v,e=.returned v/\CloneR pl f.params w' v w2):=qd (fun w' hw=>clone_is pa pl pc f.params w' hplen (fun h0=>by
     obtain⟨b,o,h1,h2,h3⟩:=HSR.out h0;have hbl:b<w.heap.size:=oz
     have hz:=hbwr.size;have hz2:=hw.size;refine⟨b,o,h1,oz,fun j u hu=>?_⟩;exact(hw.cellAt (o+j) (b:=b) oz (by show ¬(b=b1);omega)).trans ((hbwr.cell (p:=⟨b,o+j,none⟩) hbl).trans (h3 j u hu))) hpl64)
    have hcf:∀ (args:Array Value) (w:World),(callFunc 21 args).run Tryz.prog w=.ok (.enter 21 args) w:=fun _ _=>rfl;have hcf2:∀ (args:Array Value) (w:World),(callFunc 20 args).run Tryz.prog w=.ok (.enter 20 args) w:=fun _ _=>rfl;have HSS:Hid (∀ w',Chg (· = b1) wr w'->w'.cell? ⟨p,0,none⟩=some (.pointer (some ⟨k,0,none⟩))/\w'.cell? ⟨k,0,none⟩=some (.slice (some ⟨b1,0,none⟩) f.code.length f.code.length)/\w'.cell? ⟨W2.heap.size,1,none⟩=some (.slice pa pl pc)/\w'.cell? ⟨W2.heap.size,2,none⟩=some (.int .i64 rg)):=qd (fun w' hw=>by
     have k4:=own4 (hw.own HI.out.st (fun e=>by have e':k=b1:=e;rw[e']at htk;omega));have f5:=own5 (hw.own HB.out.cf (fun e=>by rw[e]at htf;omega));have p1:=own1 (hw.own HB.out.cp (fun e=>by rw[e]at htp;omega));exact⟨p1.2.1,k4.2.1,f5.2.2.1,f5.2.2.2.1⟩)
    go_upto_region 14 with(fail)
    clear k4 f5 p1;generalize hA0:(Act.mk _ _:Act)=a0;have Ee:a0.eval (.tmp 9)=.pointer (some ⟨p,0,none⟩)/\a0.eval (.tmp 7)=.pointer (some ⟨W2.heap.size,0,none⟩)/\a0.tmps.size=143:=by rw[<-hA0];exact⟨rfl,rfl,rfl⟩
    refine region_held_plain (fun w'=>Chg (· = b1) wr w') kr ((Chg.refl _ wr).drew) ?_;intro K0 hK0 hHeld
    try dsimp only at hHeld
    refine wtk 0 rfl ?_;try simp only[GE]
    refine wtk 1 rfl ?_;try simp only[GE]
    refine wtk 2 rfl ?_;try simp only[GE]
    refine wtk 3 rfl ?_;try simp only[GE]
    refine wtk 4 rfl ?_;try simp only[GE]
    refine wtk 5 rfl ?_;try simp only[GE]
    refine wtk 6 rfl ?_;try simp only[GE]
    refine wtk 9 rfl ?_;try simp only[GE]
    refine wtk 10 rfl ?_;try simp only[GE]
    refine wtk 11 rfl ?_;try simp only[GE]
    refine wtk 12 rfl ?_;try simp only[GE]
    refine wtk 13 rfl ?_;try simp only[GE]
    refine wtk 14 rfl ?_;try simp only[GE]
    generalize hA1:(Act.put _ _ _:Act)=a1;replace Ee:a1.eval (.tmp 72)=.slice (some ⟨b1,0,none⟩) f.code.length f.code.length/\a1.eval (.tmp 82)=.int .i64 ((rg-pl:Nat):Int)/\a1.eval (.tmp 74)=.slice pa pl pc/\a1.tmps.size=143:=ee1;refine readyH1 7 ?_ kr ?_ ?_;rotate_left
    ·exact rfl
    intro K hK;refine step_callF rfl 21 [.tmp 74] #[39] rfl hcf [.slice pa pl pc] (by simp only[GE,MX,EX,Ee,reduceIte,Nat.reduceEqDiff,Nat.reduceLT,Nat.reduceBEq]) _ (HCl.out _ hHeld) ?_;rintro v wM ⟨va,vc,rfl,hvc1,hvc2,hvn,hvr,hbM⟩;have hwM:Chg (· = b1) wr wM:=hHeld.trans (Chg.of hbM);have hzM:=hwM.size;refine hK.out _ _ (hwM) fun hHeld=>?_;clear hK K;try simp only[GE]
    generalize hA2:(Act.put _ _ _:Act)=a2;replace Ee:a2.eval (.tmp 72)=.slice (some ⟨b1,0,none⟩) f.code.length f.code.length/\a2.eval (.tmp 82)=.int .i64 ((rg-pl:Nat):Int)/\a2.eval (.tmp 75)=.slice va pl vc/\a2.tmps.size=143:=ee2;refine readyH1 8 ?_ kr ?_ ?_;rotate_left
    ·exact rfl
    intro K hK;refine step_callF rfl 20 [.tmp 75] #[39] rfl hcf2 [.slice va pl vc] (by simp only[GE,MX,EX,Ee,reduceIte,Nat.reduceEqDiff,Nat.reduceLT,Nat.reduceBEq]) _ (clip_is va pl vc _ hvc1 hvc2 hvn) ?_;rintro v wN ⟨rfl,hwN⟩;rw[hwN];clear hwN;refine hK.out _ _ (hwM) fun hHeld=>?_;clear hK K;try simp only[GE]
    generalize hA3:(Act.put _ _ _:Act)=a3;replace Ee:a3.eval (.tmp 72)=.slice (some ⟨b1,0,none⟩) f.code.length f.code.length/\a3.eval (.tmp 82)=.int .i64 ((rg-pl:Nat):Int)/\a3.eval (.tmp 76)=.slice va pl pl/\a3.tmps.size=143:=ee3;have⟨_,e3_82,e3_76,_⟩:=Ee;refine readyH1 15 ?_ kr ?_ ?_;rotate_left
    ·exact rfl
    intro K hK;obtain⟨g,cap,wA,hrun,hrA,hbA,hgA⟩:=append_zeros2 wM 39 va pl (rg-pl) f.params hplen (hvr.imp id (fun⟨b,h1,_,h2⟩=>⟨b,h1,h2⟩)) oz oz;rw[hrgp]at hrun hrA;have hwA:Chg (· = b1) wr wA:=hwM.trans (Chg.of hbA);have hbwA:Below wr.heap.size wr wA:=((Below.refl _ wr).drew.trans (hbM.mono lr)).trans (hbA.mono hzM);have c0A:=(hbwA.cell (p:=⟨b1,0,none⟩) hb1L).trans c0;have z0A:=(hbwA.frozen (p:=⟨b1,0,none⟩) hb1L).trans z0;refine step_apprun rfl (.tmp 76) (.tmp 82) 39 3 rfl _ _ e3_76 e3_82 _ _ hrun ?_;refine hK.out _ _ (hwA) fun hHeld=>?_;clear hK K;try simp only[GE]
    generalize hA4:(Act.put _ _ _:Act)=a4;replace Ee:a4.eval (.tmp 72)=.slice (some ⟨b1,0,none⟩) f.code.length f.code.length/\a4.eval (.tmp 83)=.slice (some ⟨g,0,none⟩) rg cap/\a4.tmps.size=143:=ee4;refine wtk 16 rfl ?_;try simp only[GE]
    generalize hA5:(Act.put _ _ _:Act)=a5;replace Ee:a5.eval (.tmp 84)=.pointer (some ⟨b1,0,none⟩)/\a5.eval (.tmp 83)=.slice (some ⟨g,0,none⟩) rg cap/\a5.tmps.size=143:=ee5;refine readyH1 17 ?_ kr ?_ ?_;rotate_left
    ·exact rfl
    intro K hK;simp only[GE];refine sts ?_;refine hK.out _ _ (chq) fun hHeld=>?_;clear hK K;try simp only[GE]
    refine anyH_done kr ?_;refine hK0.out _ _ ?_;subst hA5;subst hA4;subst hA3;subst hA2;subst hA1;subst hA0;clear Ee e3_82 e3_76;simp only[GE,Act.put,SU];generalize hW9:(World.setCell _ _ _:World)=w9;have hgl:wr.heap.size<=g:=by
     rcases hgA with h|h
     ·omega
     ·rcases hvr with⟨h2,_⟩|⟨b,h2,h3,_⟩
      ·rw[h2]at h;cases h
      ·rw[h2]at h;cases h;exact h3
    rw[hbeg]at hrA;have htg:tg' g=0:=HI.out.fr g hgl;have hB9:=(HBt.out.below hbwA).setI hn0 hrA htg oz;have hX9:=HB.out.tag1 ((HB.out.below hbwA).keep (chgSet wA b1 0 (.slice (some ⟨g,0,none⟩) rg cap)) (fun x e=>by have e2:x=b1:=e;rw[e2,htb1];decide)) hgl (6+2*0);dsimp only at hB9;rw[hW9]at hB9 hX9;have hbx9:Below W5.heap.size W5 w9:=by rw[<-hW9];exact(hbx.trans (hbwA.mono hzx)).setCell (p:=⟨b1,0,none⟩) hb1W _
    have m9:=(hB9.rd hn0).2.2.1;have z9:=(hB9.fz 0).2.1;have k4:=own4 hB9.st;have p1:=own1 hX9.cp;dsimp only at m9 z9 k4;have HB9:=qd hB9;have HX9:=qd hX9;clear hB9 hX9 hW9 hrA hbA hgA hrun hbM hvr hvn hvc1 hvc2 hwM hwA hbwA hbeg hws hws2 HCl HSS HSR HBt HI HB c0 z0 c0A z0A hcf hcf2 hsp hb1L;go_upto_region 16 with(fail)
    generalize hWS:(World.setCell _ _ _:World)=wS;have hBS:=HB9.out.setM 0 true;have htb6:updF tg' g (6+2*0) b6=4:=HB9.out.tm;have hXS:=HX9.out.keep (chgSet w9 b6 0 (.bool true)) (fun x e=>by have e2:x=b6:=e;rw[e2,htb6];decide);dsimp only at hBS;rw[hWS]at hBS hXS;have est:=start_is f HRG.out (rfl:f.code.length=f.code.length);have hBS2:BAt W5.heap.size wS { k:=k,ib:=b1,ic:=f.code.length,cb:=b3,cc:=f.code.length,mb:=b6,mc:=f.code.length,jb:=b8,jc:=f.code.length,iv:=updF (fun _=>none) 0 (some (g,cap)),cv:=cv,tg:=updF tg' g (6+2*0) } f.code.length rg (startS f):=by rw[est];exact hBS
    have hbxS:Below W5.heap.size W5 wS:=by rw[<-hWS];exact hbx9.setCell (p:=⟨b6,0,none⟩) (HB9.out.lo b6 (by show updF tg' g (6+2*0) b6≠0;rw[htb6];decide)) _
    have p1:=own1 hXS.cp;have HBS:=qd hBS2;have HXS:=qd hXS;clear hBS hBS2 hXS hWS est k4 m9 z9 HB9 HX9;go_wp2;go_step3;go_wp2_with (first|(go_at_call 45;refine(rounds_any k _).mono ?_;rintro e wT ⟨rfl,rfl⟩)|fail)
    generalize hWT:World.alloc _ _=wT;have hbST:Below wS.heap.size wS wT:=by rw[<-hWT];exact bal
    have hzT:wT.heap.size=wS.heap.size+1:=by rw[<-hWT];simp
    have OXT:Own wT wS.heap.size [.pointer (some ⟨k,0,none⟩)]:=by rw[<-hWT];exact Own.new _ _ _
    have hzS:=hbxS.size;have hso:=start_ok HRG.out hrg0 (rfl:f.code.length=f.code.length) hn0 HFF.out.np (fun i hi=>⟨(hsp2.2 i oz).1,(hsp2.2 i oz).2,by
     have h9:=params_fine HE.out hfn (i:=i) (by rw[HFE.out];exact hi);rw[HFE.out]at h9;exact h9⟩)
    obtain⟨iv0,hiv0⟩:∃ iv0:Nat->Option (Nat×Nat),updF (fun _=>none) 0 (some (g,cap))=iv0:=⟨_,rfl⟩
    obtain⟨tg0,htg0⟩:∃ tg0:Nat->Nat,updF tg' g (6+2*0)=tg0:=⟨_,rfl⟩
    rw[hiv0,htg0]at HBS;rw[htg0]at HXS;obtain⟨A,hA⟩:∃ A:BAd,{ k:=k,ib:=b1,ic:=f.code.length,cb:=b3,cc:=f.code.length,mb:=b6,mc:=f.code.length,jb:=b8,jc:=f.code.length,iv:=iv0,cv:=cv,tg:=tg0 }=A:=⟨_,rfl⟩
    have hAB:∀ iv tg,{ A with iv:=iv,tg:=tg }=({ k:=k,ib:=b1,ic:=f.code.length,cb:=b3,cc:=f.code.length,mb:=b6,mc:=f.code.length,jb:=b8,jc:=f.code.length,iv:=iv,cv:=cv,tg:=tg }:BAd):=fun iv tg=>by rw[<-hA]
    have hAk:A.k=k:=by rw[<-hA]
    have HR0:Hid (RI W5.heap.size A f.code.length rg wS.heap.size wT.heap.size w.heap.size (w.heap.size+1) W2.heap.size p [.slice ta tl tc,.slice (some ⟨fb,fo,none⟩) fl fc] [.string f.name,.slice pa pl pc,.int .i64 rg,.int .i64 f.words,.slice ca f.code.length cc] w (startS f) wT iv0 tg0):=qd (by
     have hb0:=HBS.out.below hbST;refine⟨by rw[hAB];exact hb0,by rw[hAk];exact OXT,by rw[hAk];exact HXS.out.below hbST,hso.1,hso.2,HBS.out.fr _ lr,HBS.out.fr _ oz,HBS.out.fr _ oz,(hb5w.trans (hbxS.mono hb5w.size)).trans (hbST.mono (by have:=hb5w.size;omega)),oz,hb5w.size,⟨by have:=hb5w.size;omega,by have:=hb5w.size;omega,oz,by have:=HXS.out.cp.1;omega,oz,by rw[hAk];have:=HBS.out.st.1;dsimp only at this;omega⟩,oz⟩)
    have HAB:=qd hAB;have HAK:=qd hAk;have hzT2:wS.heap.size+1<=wT.heap.size:=oz
    clear hso HBS HXS OXT hWT hiv0 htg0 hA hAB hAk hbST hzT;have HWK:=qd (show ∀ (a:Nat) (inn:List PSpan) (t:Int) (out:List PSpan),a<f.code.length->LOk rg inn->t∈nextP f a->wayP m f a t inn=some out->LOk rg out from(by
     have h:=way_keep HM.out HE.out hfn (by rw[HFE.out];exact HRG.out);rw[HFE.out]at h;exact h))
    refine range_rounds m f W5.heap.size A f.code.length rg wS.heap.size (startS f) (fun pre W=>∃ iv tg,RI W5.heap.size A f.code.length rg wS.heap.size wT.heap.size w.heap.size (w.heap.size+1) W2.heap.size p [.slice ta tl tc,.slice (some ⟨fb,fo,none⟩) fl fc] [.string f.name,.slice pa pl pc,.int .i64 rg,.int .i64 f.words,.slice ca f.code.length cc] w (stAt m f (startS f) pre) W iv tg) rfl rfl rfl hn0 hn1 ?_ ?_ ?_ (fun s h1 h2 h3=>(pass_pot rfl hrg0 HWK.out h1 h2 h3).2.2) ⟨_,_,HR0.out⟩ ?_ ?_
    ·rintro pre W ⟨iv,tg,h⟩;exact⟨⟨iv,tg,h.b⟩,h.x,h.so,h.mo⟩
    ·rintro pre W W' ⟨iv,tg,h⟩ hb;exact⟨iv,tg,h.below hb⟩
    ·rintro pre W W' ⟨iv,tg,h⟩ hc;exact⟨iv,tg,h.turn hc⟩
    ·apply Exists.intro;constructor
     ·intro l' x W K hK;have HK:=qd hK;clear hK;gi_wp2;exact HK.out
     ·rintro l' pre x W ⟨iv,tg,hR⟩ hxn hsz;have hsn:=stAt_snoc m f (startS f) pre x;generalize stAt m f (startS f) pre=s at *;have HSN:=qd hsn;clear hsn;have hb:=hR.b;rw[HAB.out]at hb;have hbo:=hR.bo;rw[HAK.out]at hbo;have HR:=qd hR;have k4:=own4 hb.st;have p1:=own1 hbo.cp;obtain⟨m1,m2,m3,m4⟩:=hb.rd hxn;obtain⟨z1,z2,z3⟩:=hb.fz x;have hxi:(x:Int)<(f.code.length:Int):=oz
      dsimp only at k4 m1 m2 m3 m4 z1 z2 z3;by_cases hm:s.mrk.getD x false=true
      ·have hst:stepS m f s x=(nextP f x).foldl (wayS m f x (s.inn.getD x [])) { s with mrk:=s.mrk.set x false }:=by unfold stepS;rw[if_pos hm]
       have HST:=qd hst;clear hst;rw[hm]at m3;have hinn:LOk rg (s.inn.getD x []):=(hR.so.inn x hxn).resolve_left (hR.mo x hxn hm);rcases hb.ei x hxn with⟨e1,e2⟩|⟨ob,oc,e1,e2,e3⟩
       ·exact absurd e2 (hR.mo x hxn hm)
       dsimp only at e1 e3;rw[e1]at m1;have m1':W.cell? ⟨b1,x,none⟩=some (.slice (some ⟨ob,0,none⟩) rg oc):=m1;clear m1;have htb6:tg b6=4:=hb.tm;have htb1:tg b1=2:=hb.ti;have htk:tg k=1:=hb.tk;have hne1:b6≠k:=fun e=>by rw[e]at htb6;omega
       have hne2:b6≠p:=fun e=>by have:=hbo.tp;rw[<-e]at this;omega
       have hne3:b6≠b1:=fun e=>by rw[e]at htb6;omega
       have hbM:=hb.setM x false;have hsoM:SOk f.code.length rg { s with mrk:=s.mrk.set x false }:=⟨hR.so.li,hR.so.lc,by simp[hR.so.lm],hR.so.lj,hR.so.inn,hR.so.chg⟩
       have hmoM:MOk f.code.length { s with mrk:=s.mrk.set x false }:=fun v hv hq=>by
        dsimp only at hq ⊢;rw[getD_ext]at hq;split at hq
        ·cases hq
        ·exact hR.mo v hv hq
       have hcM:Chg (fun x=>tg x≠0) W (W.setCell ⟨b6,x,none⟩ (.bool false)):=Chg.setCell (Chg.refl _ _) (.inl (by show tg b6≠0;rw[htb6];decide)) _;have HR1:Hid (RI W5.heap.size A f.code.length rg wS.heap.size wT.heap.size w.heap.size (w.heap.size+1) W2.heap.size p [.slice ta tl tc,.slice (some ⟨fb,fo,none⟩) fl fc] [.string f.name,.slice pa pl pc,.int .i64 rg,.int .i64 f.words,.slice ca f.code.length cc] w { s with mrk:=s.mrk.set x false } (W.setCell ⟨b6,x,none⟩ (.bool false)) iv tg):=qd (hR.wr (by rw[HAB.out];exact hbM) hcM (fun _ _=>rfl) hsoM hmoM);have hobt:tg ob=6+2*x:=e3;have e2M:=e2.chg (chgSet W b6 x (.bool false)) (fun e=>by have e4:ob=b6:=e;rw[e4]at hobt;omega);have hcl1:=clone_is (some ⟨ob,0,none⟩) rg oc (s.inn.getD x []) _ hinn.1 (fun _=>⟨ob,0,rfl,e2M.lt,fun j u hu=>by rw[Nat.zero_add];exact e2M.src j u hu⟩) hrg64;have HCl:=qd hcl1;have hrc:∀ q,wT.heap.size<=q->q<wT.heap.size+2->(W.setCell ⟨b6,x,none⟩ (.bool false)).heap[q]? = W.heap[q]? := hR.recd hcM (fun x e=>.inl e) hsz;have HRC:=qd hrc;have HNx:Hid (∀ w',Below w.heap.size w w'->Calls Tryz.prog 46 #[.agg #[.string f.name,.slice pa pl pc,.int .i64 rg,.int .i64 f.words,.slice ca f.code.length cc],.int .i64 x] w' (FreshI w' (nextP f x))):=qd (fun w' hw=>by
        have h:=next_any B ⟨pa,pl,pc,ca,f.code.length,cc⟩ f x w' (Nat.le_trans hB hw.size) (HFO.out.same (Same.of hw hB)) hxn;unfold FuncVal at h;dsimp only at h;rw[HRG.out]at h;exact h)
       have HINN:=qd hinn;have hz1:(W.setCell ⟨b6,x,none⟩ (.bool false)).heap.size=W.heap.size:=si
       have HFR:=qd hb.fr;clear hR hb hbo HR hbM hsoM hmoM hcM e2 e2M hcl1 hrc hinn m2 m4 z1 z3 hm HR0 e1 e3 hobt;generalize hinnq:s.inn.getD x []=inn at *;obtain⟨s1,hs1⟩:∃ s1:PBS,s1={ s with mrk:=s.mrk.set x false }:=⟨_,rfl⟩
       rw[<-hs1]at HR1 HST;clear hs1 hinnq;gi_wp2_with (first|(refine⟨trivial,rfl,?_⟩;gi_at_call 21;refine(callsIn_round HCl.out).mono ?_;rintro e w2 ⟨v,rfl,va,vc,rfl,hvc1,hvc2,hvn,hvr,hb2⟩;have R2:=qd (HR1.out.below hb2);have f5:=own5 R2.out.bo.cf;have hz2:=hb2.size;clear k4 p1 m3 z2 m1')|(refine⟨trivial,rfl,?_⟩;gi_at_call 46;refine(callsIn_round (HNx.out _ R2.out.be)).mono ?_;rintro e w3 ⟨nv,rfl,hb3,hr3,hf3,hn3⟩;obtain⟨na,nc,rfl⟩:∃ na nc,nv=.slice na (nextP f x).length nc:=(by rcases row_form hr3 with⟨rfl,h0,_⟩|⟨g,c,rfl,_,_,_⟩;exact⟨none,0,by rw[h0]⟩;exact⟨_,_,rfl⟩)))
       have hz3:=hb3.size;obtain⟨ib,hva,hib,hsi⟩:∃ ib,va=some ⟨ib,0,none⟩/\W.heap.size<=ib/\∀ c,SpRow w2 ib rg c inn:=by
        rcases hvr with⟨_,h0⟩|⟨b,h1,h2,h3⟩
        ·omega
        ·exact⟨b,h1,oz,h3⟩
       subst hva;have hnlen:=nextP_len f x;have hin:=fun(t:Int) (ht:t∈nextP f x)=>nextP_in f x t ht;have HWP:=qd (fun(t:Int) (out:List PSpan) (ht:t∈nextP f x) hw=>HWK.out x inn t out hxn HINN.out ht hw);generalize nextP f x=nl at *;have HIN:=qd hin;have htib:tg ib=0:=HFR.out ib hib;have htna:∀ q,na=some ⟨q,0,none⟩->W.heap.size<=q:=fun q hq=>by
        have:=hf3 q (by rw[hq];rfl);omega
       have HTNA:=qd htna;have hrc3:Hid (∀ q,wT.heap.size<=q->q<wT.heap.size+2->w3.heap[q]? = W.heap[q]?):=qd (fun q h1 h2=>((hb3.block q oz).trans (hb2.block q oz)).trans (HRC.out q h1 h2));have HR3:=qd (R2.out.below hb3);have HI3:=qd ((hsi vc).below hb3);have HN3:=qd hr3;have hib2:wT.heap.size+2<=ib:=oz
       have HTH:Hid (NumsAt B w ta tl m.thr):=qd (by
        obtain⟨_,_,_,_,_,_,hv,h2,_⟩:=HM.out;cases hv;exact h2)
       have HIF:Hid (InsFine m f (f.code.getD x default)):=qd (by
        have h:=HFI.out.ins fn x hfn (by rw[HFE.out];exact hxn);rw[HFE.out]at h;exact h)
       have hz3w:W.heap.size<=w3.heap.size:=oz
       have HT0:Hid (tg ib=0/\∀ q,na=some ⟨q,0,none⟩->tg q=0):=qd ⟨htib,fun q hq=>HFR.out q (htna q hq)⟩;clear htna hr3 hf3 hn3 hsi hvr hvn hvc1 hvc2 R2 f5 HRC HCl HNx htib hb2 hb3 HR1 hin;gi_loopw [120] (fun i wx=>∃ (j:Nat) (iv:Nat->Option (Nat×Nat)) (tg:Nat->Nat),j<=nl.length/\i=.int .i64 j/\Hid (RI W5.heap.size A f.code.length rg wS.heap.size wT.heap.size w.heap.size (w.heap.size+1) W2.heap.size p [.slice ta tl tc,.slice (some ⟨fb,fo,none⟩) fl fc] [.string f.name,.slice pa pl pc,.int .i64 rg,.int .i64 f.words,.slice ca f.code.length cc] w ((nl.take j).foldl (wayS m f x inn) s1) wx iv tg)/\Hid (SpRow wx ib rg vc inn)/\Hid (wx.ownsRow 0 3 1 (.slice na nl.length nc) nl.length (Nums nl))/\Hid (tg ib=0/\∀ q,na=some ⟨q,0,none⟩->tg q=0)/\Hid (∀ q,wT.heap.size<=q->q<wT.heap.size+2->wx.heap[q]? = W.heap[q]?)/\W.heap.size<=wx.heap.size) (fun i _=>nl.length-(intOf i).toNat)
       case atStart=>exact⟨0,iv,tg,Nat.zero_le _,rfl,HR3,HI3,HN3,HT0,hrc3,hz3w⟩
       case round =>
        clear HR3 HI3 HN3 HT0 hrc3 hz3w htb6 htb1 htk HFR;clear iv tg;rename_i wq;obtain⟨j,iv,tg,hj,rfl,HR,HI,HN,HT,HQ,hzx⟩:=hrel;by_cases hjt:j<nl.length
        ·have d3:(j:Int)<(nl.length:Int):=oz
         have hwj:IntKind.i64.wrap ((j:Int)+1)=(j:Int)+1:=IntWalk.i64_in _ oz;obtain⟨nb,nc',hnv,-,-,hnbl⟩:=row_pos HN.out oz;cases hnv;have hnb2:=HTNA.out nb rfl;have hgj:nl[j]? = some (nl[j]'hjt):=List.getElem?_eq_getElem hjt;have n0:=row_cell HN.out (Nums_some hgj);have hmem:nl[j]'hjt∈nl:=List.getElem_mem hjt;obtain⟨h0,h1⟩:=HIN.out _ hmem;have hTk:nl.take (j+1)=nl.take j++[nl[j]'hjt]:=by rw[List.take_add_one,hgj];rfl
         have HTK:=qd hTk;have HWP2:=qd (fun out hw=>HWP.out _ out hmem hw);clear hTk hgj hmem;generalize nl[j]'hjt=t at *;obtain⟨tt,rfl⟩:=Int.eq_ofNat_of_zero_le h0;have htt:tt<f.code.length:=oz
         have hcl2:=clone_is (some ⟨ib,0,none⟩) rg vc inn wr HINN.out.1 (fun _=>⟨ib,0,rfl,HI.out.lt,fun j u hu=>by rw[Nat.zero_add];exact HI.out.src j u hu⟩) hrg64;have HCl2:=qd hcl2;clear hcl2;obtain⟨res,hres⟩:∃ res,wayP m f x (tt:Int) inn=res:=⟨_,rfl⟩
         have HAw:Hid (∀ w' ob2 oc2,Below w.heap.size w w'->SpRow w' ob2 rg oc2 inn->B<=ob2->Calls Tryz.prog 47 #[.agg #[.slice ta tl tc,.slice (some ⟨fb,fo,none⟩) fl fc],.agg #[.string f.name,.slice pa pl pc,.int .i64 rg,.int .i64 f.words,.slice ca f.code.length cc],.int .i64 x,.int .i64 tt,.slice (some ⟨ob2,0,none⟩) rg oc2] w' (AwayPost ob2 rg oc2 w' res)):=qd (fun w' ob2 oc2 hw hs hob=>by
          have h:=away_any (f.code.getD x default) B m ⟨pa,pl,pc,ca,f.code.length,cc⟩ f ta (some ⟨fb,fo,none⟩) tl tc fl fc x (tt:Int) ob2 rg oc2 inn w' (Nat.le_trans hB hw.size) (HFO.out.same (Same.of hw hB)) hxn hn1 rfl HIF.out hs HRG.out.symm hrg64 HINN.out (HM.out.same (Same.of hw hB)) hob;rw[hres]at h;unfold FuncVal at h;dsimp only at h;rw[HRG.out]at h;exact h)
         have HRES:=qd hres;clear hres;cases res with
         | none =>
          gi_wp2_with (first|(refine⟨trivial,rfl,?_⟩;gi_at_call 21;refine(callsIn_round HCl2.out).mono ?_;rintro e w4 ⟨v,rfl,ua,uc,rfl,huc1,huc2,hun,hur,hb4⟩;obtain⟨ob2,hua,hob2,hs4⟩:∃ ob2,ua=some ⟨ob2,0,none⟩/\wr.heap.size<=ob2/\∀ c,SpRow w4 ob2 rg c inn:=(by rcases hur with⟨_,h0⟩|⟨b,h1,h2,h3⟩;omega;exact⟨b,h1,h2,h3⟩);subst hua;have R4:=qd (HR.out.below hb4);have f5:=own5 R4.out.bo.cf;have m2:=own2 R4.out.bo.cm;have hz4:=hb4.size;clear n0)|(refine⟨trivial,rfl,?_⟩;gi_at_call 47;refine(callsIn_round (HAw.out w4 ob2 uc R4.out.be (hs4 uc) oz)).mono ?_;rintro e w5 ⟨rfl,hc5,hs5⟩;have htg2:tg ob2=0:=HR.out.b.fr ob2 hob2;have R5:=qd (R4.out.keep hc5 (fun q e=>by have e2:q=ob2:=e;rw[e2];exact⟨htg2,oz⟩));have hz5:=hc5.size;clear f5 m2;have m5:=own2 R5.out.bo.cm;have p5:=own1 R5.out.bo.cp)|fail)
          have hst:(nl.take (j+1)).foldl (wayS m f x inn) s1=(nl.take j).foldl (wayS m f x inn) s1:=by
           rw[HTK.out,List.foldl_append,List.foldl_cons,List.foldl_nil];unfold wayS;rw[HRES.out]
          have hibl:=HI.out.lt;refine⟨⟨j+1,iv,tg,oz,si,qd (by rw[hst];exact R5.out),qd ((HI.out.below hb4).chg hc5 (fun e=>by have e2:ib=ob2:=e;omega)),qd (rowB_chg hc5 (row_below hb4 HN.out) (fun e=>by have e2:nb=ob2:=e;omega)),HT,qd (fun q h1 h2=>((hc5.block q oz (fun e=>by have e2:q=ob2:=e;omega)).trans (hb4.block q oz)).trans (HQ.out q h1 h2)),oz⟩,?_⟩;go_light;exact ml
         | some out =>
          have hok:=HWP2.out out HRES.out;have HMg:Hid (∀ w' ob2 oc2,RI W5.heap.size A f.code.length rg wS.heap.size wT.heap.size w.heap.size (w.heap.size+1) W2.heap.size p [.slice ta tl tc,.slice (some ⟨fb,fo,none⟩) fl fc] [.string f.name,.slice pa pl pc,.int .i64 rg,.int .i64 f.words,.slice ca f.code.length cc] w ((nl.take j).foldl (wayS m f x inn) s1) w' iv tg->SpRow w' ob2 rg oc2 out->tg ob2=0->W5.heap.size<=ob2->Calls Tryz.prog 48 #[.pointer (some ⟨A.k,0,none⟩),.int .i64 tt,.slice (some ⟨ob2,0,none⟩) rg oc2,.slice ta tl tc] w' (MergePost W5.heap.size { A with iv:=iv,tg:=tg } f.code.length rg ob2 (mergeP m.thr ((nl.take j).foldl (wayS m f x inn) s1) tt out) w')):=qd (fun w' ob2 oc2 hR hs ht hN=>by
           have h:=merge_any W5.heap.size { A with iv:=iv,tg:=tg } f.code.length rg _ m.thr ta tl tc tt ob2 oc2 out w' hR.b hs htt ht hN hR.nz ((HTH.out.same (Same.of hR.be hB)).monoB (by have:=hR.nw;omega)) hR.so hok hrg0 hrg64 hn1;exact h)
          have HOK:=qd hok;clear hok;gi_wp2_with (first|(refine⟨trivial,rfl,?_⟩;gi_at_call 21;refine(callsIn_round HCl2.out).mono ?_;rintro e w4 ⟨v,rfl,ua,uc,rfl,huc1,huc2,hun,hur,hb4⟩;obtain⟨ob2,hua,hob2,hs4⟩:∃ ob2,ua=some ⟨ob2,0,none⟩/\wr.heap.size<=ob2/\∀ c,SpRow w4 ob2 rg c inn:=(by rcases hur with⟨_,h0⟩|⟨b,h1,h2,h3⟩;omega;exact⟨b,h1,h2,h3⟩);subst hua;have R4:=qd (HR.out.below hb4);have f5:=own5 R4.out.bo.cf;have m2:=own2 R4.out.bo.cm;have hz4:=hb4.size;clear n0)|(refine⟨trivial,rfl,?_⟩;gi_at_call 47;refine(callsIn_round (HAw.out w4 ob2 uc R4.out.be (hs4 uc) oz)).mono ?_;rintro e w5 ⟨rfl,hc5,hs5⟩;have htg2:tg ob2=0:=HR.out.b.fr ob2 hob2;have R5:=qd (R4.out.keep hc5 (fun q e=>by have e2:q=ob2:=e;rw[e2];exact⟨htg2,oz⟩));have hz5:=hc5.size;clear f5 m2;have m5:=own2 R5.out.bo.cm;have p5:=own1 R5.out.bo.cp)|(refine⟨trivial,rfl,?_⟩;gi_at_call 48;refine(callsIn_round (HMg.out w5 ob2 uc R5.out (hs5 out rfl) htg2 oz)).mono ?_;rintro e w6 ⟨rfl,iv6,tg6,hb6,hc6,ht6⟩)|fail)
          have hst:(nl.take (j+1)).foldl (wayS m f x inn) s1=mergeP m.thr ((nl.take j).foldl (wayS m f x inn) s1) tt out:=by
           rw[HTK.out,List.foldl_append,List.foldl_cons,List.foldl_nil];generalize (nl.take j).foldl (wayS m f x inn) s1=sj;unfold wayS;rw[HRES.out];rfl
          have hibl:=HI.out.lt;have hz6:=hc6.size;have R6:=R5.out.wr hb6 hc6 (fun q hq=>ht6 q oz) (mergeP_ok R5.out.so htt HOK.out) (mergeP_mok R5.out.so R5.out.mo hrg0 HOK.out.1);have hrd:=R5.out.recd hc6 (fun x e=>.inl e) oz;refine⟨⟨j+1,iv6,tg6,oz,si,qd (by rw[hst];exact R6),qd (((HI.out.below hb4).chg hc5 (fun e=>by have e2:ib=ob2:=e;omega)).chg hc6 (fun e=>e HT.out.1)),qd (rowB_chg hc6 (rowB_chg hc5 (row_below hb4 HN.out) (fun e=>by have e2:nb=ob2:=e;omega)) (fun e=>e (HT.out.2 nb rfl))),qd ⟨(ht6 ib oz).trans HT.out.1,fun q hq=>by cases hq;exact(ht6 nb oz).trans (HT.out.2 nb rfl)⟩,qd (fun q h1 h2=>((hrd q h1 h2).trans ((hc5.block q oz (fun e=>by have e2:q=ob2:=e;omega)).trans (hb4.block q oz))).trans (HQ.out q h1 h2)),oz⟩,?_⟩;go_light;exact ml
        ·obtain rfl:j=nl.length:=oz
         have d3:¬(nl.length:Int)<(nl.length:Int):=oz
         gi_wp2;exact⟨HQ.out,iv,tg,by rw[HSN.out,HST.out];have h9:=HR.out;rw[List.take_length]at h9;exact h9⟩
      ·have hm':s.mrk.getD x false=false:=by simpa using hm
       rw[hm']at m3;have hst:stepS m f s x=s:=by unfold stepS;rw[if_neg hm]
       have HST:=qd hst;clear hst hm hm' hR hb hbo;gi_wp2;exact⟨fun k _ _=>rfl,iv,tg,by rw[HSN.out,HST.out];exact HR.out⟩
    ·rintro xs W7 hruns ⟨iv,tg,hR⟩ hD;have hb:=hR.b;rw[HAB.out]at hb;have hbo:=hR.bo;rw[HAK.out]at hbo;have k4:=own4 hb.st;dsimp only at k4;have p1:=own1 hbo.cp;have a2:=own2 hbo.ca;have HRu:=qd hruns;have HD:=qd hD;have HR:=qd hR;have HB7:=qd hb;have HO7:=qd hbo;have hcA:=chgR W7 (w.heap.size+1) (.slice (some ⟨b1,0,none⟩) f.code.length f.code.length) (.slice (some ⟨b3,0,none⟩) f.code.length f.code.length);have hDz:((W7.setCell ⟨w.heap.size+1,0,none⟩ (.slice (some ⟨b1,0,none⟩) f.code.length f.code.length)).setCell ⟨w.heap.size+1,1,none⟩ (.slice (some ⟨b3,0,none⟩) f.code.length f.code.length)).heap[wT.heap.size]? = some (.deferred (some [])):=by
      rw[<-hD];exact hcA.block _ (Array.getElem?_eq_some_iff.1 hD).1 (by show ¬(wT.heap.size=w.heap.size+1);have:=hR.lq;omega)
     have htz:=Turn.put (b:=wT.heap.size) _ wT.heap.size _ (.deferred none) lr hDz rfl;have hbz:=(hb.keep hcA (fun x e=>by have e2:x=w.heap.size+1:=e;rw[e2];exact hbo.ta)).turn htz (by have:=hR.lq.2.2.2.2.2;rw[HAK.out]at this;exact this);have haz:=(((hbo.ca.set 0 (.slice (some ⟨b1,0,none⟩) f.code.length f.code.length) si).set 1 (.slice (some ⟨b3,0,none⟩) f.code.length f.code.length) si)).turn htz hR.lq.2.1;have hbez:Below w.heap.size w _:=((hR.be.setCell (p:=⟨w.heap.size+1,0,none⟩) (by show w.heap.size<=w.heap.size+1;omega) (.slice (some ⟨b1,0,none⟩) f.code.length f.code.length)).setCell (p:=⟨w.heap.size+1,1,none⟩) (by show w.heap.size<=w.heap.size+1;omega) (.slice (some ⟨b3,0,none⟩) f.code.length f.code.length)).trans (htz.below.mono (by have:=hR.lq;omega));have HBZ:=qd hbz;have HAZ:=qd haz;have HBE2:=qd hbez;have HDZ:=qd hDz;clear hruns hD hR hb hbo HR0 hbz haz hbez hDz htz hcA;go_wp2
     try rw[Exit.noGoto_ret]
     refine⟨si,.inl ⟨_,_,rfl,run_takeDeferred HDZ.out,?_⟩⟩;obtain⟨-,y0,y1,-,-⟩:=own2 HAZ.out;refine⟨.tuple #[.agg #[.slice (some ⟨b1,0,none⟩) f.code.length f.code.length,.slice (some ⟨b3,0,none⟩) f.code.length f.code.length],.int .i64 0],by simp[results,Tryz.results16,go_sem,y0,y1],?_⟩;exact⟨_,rg,{ k:=k,ib:=b1,ic:=f.code.length,cb:=b3,cc:=f.code.length,mb:=b6,mc:=f.code.length,jb:=b8,jc:=f.code.length,iv:=iv,cv:=cv,tg:=tg },_,by rw[HFE.out];exact HRG.out,by rw[HFE.out];exact HRu.out,by rw[HFE.out],by rw[HFE.out];exact HBZ.out,by rw[HFE.out];exact HR.out.so,hb5w.size,HBE2.out⟩
end
section
attribute [local go_sem] Oper.semAt_some
theorem run_arg (B:Nat) (m:PMod) (fn:Int) (ta fa:Option Addr) (tl tc fl fc:Nat) (w:World) (hB:B<=w.heap.size) (hB0:0<B) (hmo:ModAt B w (.agg #[.slice ta tl tc,.slice fa fl fc]) m) (hr:RowsAt w) (he:(mayP m).e=0) (hfn:fn<0\/(m.funcs.length:Int)<=fn) :
 Calls Tryz.prog 16 #[.agg #[.slice ta tl tc,.slice fa fl fc],.int .i64 fn] w fun e w'=>e=.returned (.tuple #[.agg #[.slice none 0 0,.slice none 0 0],.int .i64 1])/\Below w.heap.size w w':=by
 have HM:=qd hmo;have HRW:=qd hr;have HMay:=qd (fun w' hw hr'=>may_any B (.agg #[.slice ta tl tc,.slice fa fl fc]) m w' hw hB0 hr');rw[he]at HMay;obtain⟨_,_,_,_,_,_,hv,⟨htl,htm,-⟩,hfs⟩:=hmo;cases hv;obtain⟨hfl1,hfl2,-⟩:=hfs;clear hr;refine(callsIn_wide (n:=3)).1 ?_;refine callsIn_of_wp_marks Tryz.func16 rfl trivial ?_ rfl;refine wpIn_wide.2 ?_;simp only[Tryz.ntmps16,List.size_toArray,List.length_cons,List.length_nil,Nat.reduceAdd,Nat.reduceSub,Array.replicate_succ,Array.replicate_zero,List.push_toArray,List.append_toArray,List.nil_append,List.cons_append];go_wp2;generalize hW0:World.alloc _ _=W0;have hb0:Below w.heap.size w W0:=by rw[<-hW0];exact bel
 have OM:Own W0 w.heap.size [.slice ta tl tc,.slice fa fl fc]:=by rw[<-hW0];exact(Own.new _ _ _).alloc _
 have OA:Own W0 (w.heap.size+1) [.slice none 0 0,.slice none 0 0]:=by rw[<-hW0];exact Own.new' _ _ _ _ si
 have hz0:w.heap.size+2=W0.heap.size:=by rw[<-hW0];simp
 have hz0':w.heap.size+2<=W0.heap.size:=oz
 have m2:=own2 OM;have HC:=qd (HMay.out W0 oz (HM.out.same (Same.of hb0 hB)) (HRW.out.same (Same.of hb0 lr) HRW.out.1 hb0.size));clear hW0 HMay hz0;go_step3;by_cases q1:fn<0
 ·have q3:decide (fn<0)=true:=by simpa using q1
  go_upto_region 5 with(first|(go_at_call 44;refine HC.out.mono ?_;rintro e w1 ⟨rfl,hb1⟩;have m2b:=own2 (OM.below hb1);have a2b:=own2 (OA.below hb1);clear m2)|fail)
  go_wp2;rw[Exit.noGoto_ret];have hbe:Below w.heap.size w w1:=hb0.trans (hb1.mono oz);have hz1:=hb1.size;refine⟨.tuple #[.agg #[.slice none 0 0,.slice none 0 0],.int .i64 1],by simp[results,Tryz.results16,go_sem,a2b.1,a2b.2.1,a2b.2.2.1],rfl,?_⟩;exact((hbe.setCell (p:=⟨w.heap.size+1,0,none⟩) (by show w.heap.size<=w.heap.size+1;omega) _).setCell (p:=⟨w.heap.size+1,1,none⟩) (by show w.heap.size<=w.heap.size+1;omega) _).alloc (by have:=hbe.size;simpa using this) _
 ·have q2:decide ((fl:Int)<=fn)=true:=by simp;omega
  have q3:decide (fn<0)=false:=by simpa using q1
  have q4:(fl:Int)<=fn:=oz
  go_upto_region 5 with(first|(go_at_call 44;refine HC.out.mono ?_;rintro e w1 ⟨rfl,hb1⟩;have m2b:=own2 (OM.below hb1);have a2b:=own2 (OA.below hb1);clear m2)|fail)
  go_wp2;rw[Exit.noGoto_ret];have hbe:Below w.heap.size w w1:=hb0.trans (hb1.mono oz);have hz1:=hb1.size;refine⟨.tuple #[.agg #[.slice none 0 0,.slice none 0 0],.int .i64 1],by simp[results,Tryz.results16,go_sem,a2b.1,a2b.2.1,a2b.2.2.1],rfl,?_⟩;exact((hbe.setCell (p:=⟨w.heap.size+1,0,none⟩) (by show w.heap.size<=w.heap.size+1;omega) _).setCell (p:=⟨w.heap.size+1,1,none⟩) (by show w.heap.size<=w.heap.size+1;omega) _).alloc (by have:=hbe.size;simpa using this) _
end
section
attribute [local go_sem] Oper.semAt_some
theorem trips_arg (B:Nat) (m:PMod) (fn:Int) (ta fa:Option Addr) (tl tc fl fc:Nat) (w:World) (hB:B<=w.heap.size) (hB0:0<B) (hmo:ModAt B w (.agg #[.slice ta tl tc,.slice fa fl fc]) m) (hr:RowsAt w) (he:(mayP m).e=0) (hfn:fn<0\/(m.funcs.length:Int)<=fn) :
 Calls Tryz.prog 6 #[.agg #[.slice ta tl tc,.slice fa fl fc],.int .i64 fn] w fun e w'=>e=.returned (.tuple #[.slice none 0 0,.int .i64 1])/\Below w.heap.size w w':=by
 have HM:=qd hmo;have HRW:=qd hr;have HRun:=qd (fun w' hB hmo hr=>run_arg B m fn ta fa tl tc fl fc w' hB hB0 hmo hr he hfn);clear hmo hr;refine(callsIn_wide (n:=3)).1 ?_;refine callsIn_of_wp_marks Tryz.func6 rfl trivial ?_ rfl;refine wpIn_wide.2 ?_;simp only[Tryz.ntmps6,List.size_toArray,List.length_cons,List.length_nil,Nat.reduceAdd,Nat.reduceSub,Array.replicate_succ,Array.replicate_zero,List.push_toArray,List.append_toArray,List.nil_append,List.cons_append];go_upto_region 1 with(fail)
 generalize hW0:World.alloc _ _=W0;have hb0:Below w.heap.size w W0:=by rw[<-hW0];exact bel
 have OM:Own W0 w.heap.size [.slice ta tl tc,.slice fa fl fc]:=by rw[<-hW0];exact(Own.new _ _ _).alloc _
 have OI:Own W0 (w.heap.size+1) [.int .i64 fn]:=by rw[<-hW0];exact Own.new' _ _ _ _ si
 have hz0:w.heap.size+2=W0.heap.size:=by rw[<-hW0];simp
 have hz0':w.heap.size+2<=W0.heap.size:=oz
 have m2:=own2 OM;have i1:=own1 OI;have HC:=qd (HRun.out W0 oz (HM.out.same (Same.of hb0 hB)) (HRW.out.same (Same.of hb0 lr) HRW.out.1 hb0.size));clear hW0 HRun hz0;go_wp2_with (first|(go_at_call 16;refine HC.out.mono ?_;rintro e w1 ⟨rfl,hb1⟩)|fail)
 try rw[Exit.noGoto_ret]
 have hbe:Below w.heap.size w w1:=hb0.trans (hb1.mono oz);refine⟨.tuple #[.slice none 0 0,.int .i64 1],by simp[results,Tryz.results6,go_sem],rfl,?_⟩
 first|exact hbe.alloc hbe.size _|exact(hbe.alloc hbe.size _).drew|exact hbe
end
/-- what Edge hands back -/
def EdgePost (w:World) (rg:Nat) (res:Option (List PSpan)) (e:Ending) (w':World):Prop:=∃ v,e=.returned (.tuple #[v,.bool res.isSome])/\Below w.heap.size w w'/\∀ out,res=some out->∃ g cap,v=.slice (some ⟨g,0,none⟩) rg cap/\SpRow w' g rg cap out/\w.heap.size<=g
theorem edge_ok (B:Nat) (m:PMod) (fn x:Nat) (to_:Int) (ta fa:Option Addr) (tl tc fl fc b c rg:Nat) (r:List PSpan) (w:World) (hB:B<=w.heap.size) (hB0:0<B) (hmo:ModAt B w (.agg #[.slice ta tl tc,.slice fa fl fc]) m) (hr:RowsAt w) (he:(mayP m).e=0) (hfn:fn<m.funcs.length) (hrg:(fnAt m fn).regs=rg)
 (hx:x<(fnAt m fn).code.length) (hto:to_∈nextP (fnAt m fn) x) (hin:SpRow w b rg c r) (hrok:LOk rg r) :
 Calls Tryz.prog 24 #[.agg #[.slice ta tl tc,.slice fa fl fc],.int .i64 fn,.int .i64 x,.int .i64 to_,.slice (some ⟨b,0,none⟩) rg c] w (EdgePost w rg (wayP m (fnAt m fn) x to_ r)):=by
 have HM:=qd hmo;have HRW:=qd hr;have HIN:=qd hin;have HMay:=qd (fun w' hw hr'=>may_any B (.agg #[.slice ta tl tc,.slice fa fl fc]) m w' hw hB0 hr');rw[he]at HMay;obtain⟨_,_,_,_,_,_,hv,⟨htl,htm,-⟩,hfs⟩:=hmo;cases hv;obtain⟨hfl1,hfl2,fb,fo,hfb,H,hH⟩:=hfs;obtain⟨rfl,hfbB⟩:=hfb oz;obtain⟨hcells,hfo⟩:=hH fn oz;have hfine:=fine_of he;have hff1:=hfine.fn fn hfn;have hif:=hfine.ins fn x hfn hx;have hfe:m.funcs.getD fn default=fnAt m fn:=rfl;rw[hfe]at hcells hfo;generalize H fn=hh at *;generalize fnAt m fn=f at *;obtain⟨pa,pl,pc,ca,cl,cc⟩:=hh;have hcl:f.code.length=cl:=hfo.2.2.1.1;subst hcl;obtain⟨g0,g1,g2,g3,g4⟩:=hcells;dsimp only at g0 g1 g2 g3 g4;rw[hrg]at g2;have hrg0:0<rg:=by have:=hff1.r1;omega
 have hrg64:rg<=64:=by have:=hff1.r2;omega
 have hn1:f.code.length<=1024:=hff1.c2;have hfnl:(fn:Int)<(fl:Int):=oz
 have q1:¬(fn:Int)<0:=oz
 have q2:decide ((fl:Int)<=(fn:Int))=false:=by simp;omega
 have q3:decide ((fn:Int)<0)=false:=si
 have q4:((rg:Int)!=(rg:Int))=false:=si
 have HFO:=qd hfo;have HRG:=qd hrg;have HIF:=qd hif;have HTO:=qd hto;have HROK:=qd hrok;have hbl:=hin.lt;have hfbw:fb<w.heap.size:=oz
 clear hH hfb hfo hfine hff1 hif hrg hto hfe hin hr;obtain⟨RES,hRES⟩:∃ q,wayP m f x to_ r=q:=⟨_,rfl⟩
 rw[hRES];have HRES:=qd hRES;clear hRES;have hfd:∀ (x y:Int) (w:World),(Instr.field 37 (.agg #[.int .i64 0,.int .i64 x,.int .i64 y]) 0).run Tryz.prog w=.ok (.int .i64 0) w:=by
  intro x y w
  first|rfl|(simp[Instr.field,go_sem])
 go_enter Tryz.func24,Tryz.ntmps24;go_upto_region 1 with(fail)
 generalize hW0:World.alloc _ _=W0;have hb0:Below w.heap.size w W0:=by rw[<-hW0];exact bel
 have OM:Own W0 w.heap.size [.slice ta tl tc,.slice (some ⟨fb,fo,none⟩) fl fc]:=by rw[<-hW0];exact Own.new _ _ _
 have hz0:w.heap.size+1<=W0.heap.size:=by rw[<-hW0];simp
 have m2:=own2 OM;have HC:=qd (HMay.out W0 oz (HM.out.same (Same.of hb0 hB)) (HRW.out.same (Same.of hb0 lr) HRW.out.1 hb0.size));clear hW0 HMay;go_upto_region 3 with(first|(go_at_call 44;refine HC.out.mono ?_;rintro e w1 ⟨rfl,hb1⟩;have m2b:=own2 (OM.below hb1);clear m2)|fail)
 have hz1:=hb1.size;have hb01:Below w.heap.size w w1:=hb0.trans (hb1.mono oz);have OM1:=OM.below hb1;have sm:=Same.of hb01 hB;rw[<-sm _ _ (by show fb<B;omega)]at g0 g1 g2 g3 g4;go_upto_region 4 with(fail)
 generalize hW2:World.alloc _ _=W2;have hb12:Below w1.heap.size w1 W2:=by rw[<-hW2];exact bal
 have OF:Own W2 w1.heap.size [.string f.name,.slice pa pl pc,.int .i64 rg,.int .i64 f.words,.slice ca f.code.length cc]:=by rw[<-hW2];exact Own.new _ _ _
 have hz2:w1.heap.size+1<=W2.heap.size:=by rw[<-hW2];simp
 have hb2:Below w.heap.size w W2:=hb01.trans (hb12.mono oz);have OM2:=OM1.below hb12;have f5:=own5 OF;have hnx:=next_any B ⟨pa,pl,pc,ca,f.code.length,cc⟩ f x W2 oz (HFO.out.same (Same.of hb2 hB)) hx;unfold FuncVal at hnx;dsimp only at hnx;rw[HRG.out]at hnx;have HNX:=qd hnx;clear hW2 hnx g0 g1 g2 g3 g4 sm m2b HC;have hin64:∀ y∈nextP f x,In64 y:=fun y hy=>by have:=nextP_in f x y hy;unfold In64;omega
 have hct:(nextP f x).contains to_=true:=by rw[List.contains_iff_mem];exact HTO.out
 have HCT:=qd hct;have H64:=qd hin64;clear hct hin64;generalize nextP f x=nl at *;go_upto_region 6 with(first|(go_at_call 46;refine HNX.out.mono ?_;rintro e w3 ⟨nv,rfl,hb3,hr3,hf3,hn3⟩;obtain⟨na,nc,hnv,hna⟩:=NumsAt.ofRow (B:=w3.heap.size) hr3 H64.out (fun k hk=>row_lt hr3 hk);subst hnv;have hci:=contains_int na nl.length nc nl to_ _ w3 hna;rw[HCT.out]at hci;have f5b:=own5 (OF.below hb3);clear f5)|(go_at_call 23;refine hci.mono ?_;rintro e w4 ⟨rfl,hw4⟩;have hw5:=hw4.symm;subst hw5)|fail)
 have hz3:=hb3.size;have hb03:Below w.heap.size w w3:=hb2.trans (hb3.mono oz);have OM3:=qd (OM2.below hb3);have OF3:=qd (OF.below hb3);clear hr3 hf3 hn3 hna hci f5b OM2 OF HNX OM1 OM;go_wp2;go_loopw [51] (fun i wx=>∃ j:Nat,j<=rg/\i=.int .i64 j/\Below w3.heap.size w3 wx) (fun i _=>rg-(intOf i).toNat)
 case atStart=>exact⟨0,Nat.zero_le _,rfl,Below.refl _ _⟩
 case round =>
  obtain⟨j,hj,rfl,hbx⟩:=hrel;have hzx:=hbx.size;have hbwx:Below w.heap.size w wr:=hb03.trans (hbx.mono oz);have HINx:=qd (HIN.out.below hbwx);by_cases hjt:j<rg
  ·have d3:(j:Int)<(rg:Int):=oz
   have hwj:IntKind.i64.wrap ((j:Int)+1)=(j:Int)+1:=IntWalk.i64_in _ oz;obtain⟨c0,c1,-,-⟩:=HINx.out.cells hjt;have hsp:=(HROK.out.2 j hjt).2.2;generalize r.getD j default=pp at *;obtain⟨plo,phi⟩:=pp;dsimp only at c0 c1 hsp;have hsp2:¬phi<plo:=oz
   go_wp2;refine⟨⟨j+1,oz,si,hbx.trans (Below.mono bal hzx)⟩,?_⟩;go_light;exact ml
  ·obtain rfl:j=rg:=oz
   have d3:¬(j:Int)<(j:Int):=oz
   have hlen:(spCells r).length=j*2:=by rw[spCells_len,HINx.out.len]
   have HSRC:=qd (src_at (w:=wr) (spCells r) b 0 (fun q u hu=>by rw[Nat.zero_add];exact HINx.out.src q u hu));have HAw:Hid (∀ w' g2 c2,Below w.heap.size w w'->SpRow w' g2 j c2 r->B<=g2->Calls Tryz.prog 47 #[.agg #[.slice ta tl tc,.slice (some ⟨fb,fo,none⟩) fl fc],.agg #[.string f.name,.slice pa pl pc,.int .i64 j,.int .i64 f.words,.slice ca f.code.length cc],.int .i64 x,.int .i64 to_,.slice (some ⟨g2,0,none⟩) j c2] w' (AwayPost g2 j c2 w' RES)):=qd (fun w' g2 c2 hw hs hob=>by
    have h:=away_any (f.code.getD x default) B m ⟨pa,pl,pc,ca,f.code.length,cc⟩ f ta (some ⟨fb,fo,none⟩) tl tc fl fc x to_ g2 j c2 r w' (Nat.le_trans hB hw.size) (HFO.out.same (Same.of hw hB)) hx hn1 rfl HIF.out hs HRG.out.symm hrg64 HROK.out (HM.out.same (Same.of hw hB)) hob;rw[HRES.out]at h;unfold FuncVal at h;dsimp only at h;rw[HRG.out]at h;exact h)
   have OMx:=qd (OM3.out.below hbx);have OFx:=qd (OF3.out.below hbx);go_upto_region 13 with(first|(at_builtin;refine wpList_app rfl (.const (.slice none 0 0)) (.tmp 61) 39 47 2 16 (.agg #[.int .i64 0,.int .i64 0]) rfl Tryz.underlying39 Tryz.infoSp rfl dc (.slice none 0 0) 0 [] rfl (World.ownsRow_nil _ _ _ _) ⟨b,0,none⟩ j c (spCells r) rfl hlen HSRC.out (spCells_one r) (by unfold maxLen;omega) oz hrg0 ?_;intro g cap w5 hr5 hc5 hg5)|fail)
   rw[Nat.zero_add,List.nil_append]at hr5;have hb5:Below wr.heap.size wr w5:=hc5.below _ lr (fun k _ e=>by cases e);have hz5:=hb5.size;have hg5':g=wr.heap.size:=by
    rcases hg5 with h|h
    ·cases h
    ·exact h
   have hb05:Below w.heap.size w w5:=hbwx.trans (hb5.mono oz);have hs5:SpRow w5 g j cap r:=⟨_,hr5⟩
   have HA5:=qd (HAw.out w5 g cap hb05 hs5 oz);have m5:=own2 (OMx.out.below hb5);have f5:=own5 (OFx.out.below hb5);have hgw:w.heap.size<=g:=oz
   clear hr5 hc5 hg5 hg5' HAw hs5 HSRC hlen
   try rw[Nat.zero_add]
   cases RES with
   | none =>
    go_wp2_with (first|(go_at_call 47;refine HA5.out.mono ?_;rintro e w6 ⟨rfl,hc6,hs6⟩)|fail)
    try rw[Exit.noGoto_ret]
    go_ret2;exact⟨_,rfl,hb05.trans (hc6.below _ hb05.size (fun k hk e=>by have e2:k=g:=e;omega)),fun out ho=>by cases ho⟩
   | some out =>
    go_wp2_with (first|(go_at_call 47;refine HA5.out.mono ?_;rintro e w6 ⟨rfl,hc6,hs6⟩)|fail)
    try rw[Exit.noGoto_ret]
    go_ret2;exact⟨_,rfl,hb05.trans (hc6.below _ hb05.size (fun k hk e=>by have e2:k=g:=e;omega)),fun out' ho=>by cases ho;exact⟨g,cap,rfl,hs6 _ rfl,hgw⟩⟩
def spV2 (p:PSpan):List Value:=[.int .i64 p.lo,.int .i64 p.hi]
theorem chgTwo (W:World) (a b:Nat) (u v x y:Value):Chg (fun k=>k=a\/k=b) W ((((W.setCell ⟨a,0,none⟩ u).setCell ⟨a,1,none⟩ v).setCell ⟨b,0,none⟩ x).setCell ⟨b,1,none⟩ y) :=
 Chg.setCell (Chg.setCell (Chg.setCell (Chg.setCell (Chg.refl _ _) (.inl (.inl rfl)) _) (.inl (.inl rfl)) _) (.inl (.inr rfl)) _) (.inl (.inr rfl)) _
theorem come_any (lb cb hb:Nat) (low high:PSpan) (x:PIns) (b n c:Nat) (r:List PSpan) (w:World) (ol:Own w lb (spV2 low)) (oh:Own w hb (spV2 high)) (oc:Own w cb [.int .i64 x.op,.int .i64 x.a,.int .i64 x.b,.int .i64 x.c,.int .i64 x.n]) (hr:SpRow w b n c r)
 (ha0:0<=x.a) (ha1:x.a<(n:Int)) (hb0:0<=x.b) (hb1:x.b<(n:Int)) (hn:n<=64) (hne:lb≠hb) :
 Calls Tryz.prog 18 #[.slice (some ⟨b,0,none⟩) n c,.pointer (some ⟨lb,0,none⟩),.pointer (some ⟨cb,0,none⟩),.pointer (some ⟨hb,0,none⟩)] w fun e w'=>e=.returned (.tuple #[])/\Own w' lb (spV2 (comeP x (low,high) r).1)/\Own w' hb (spV2 (comeP x (low,high) r).2)/\Chg (fun k=>k=lb\/k=hb) w w':=by
 obtain⟨op,xa,xb,xc,xn⟩:=x;dsimp only at *;obtain⟨ka,rfl⟩:=Int.eq_ofNat_of_zero_le ha0;obtain⟨kb,rfl⟩:=Int.eq_ofNat_of_zero_le hb0;have hka:ka<n:=oz
 have hkb:kb<n:=oz
 obtain⟨a0,a1,-,-⟩:=hr.cells hka;obtain⟨b0,b1,-,-⟩:=hr.cells hkb;have HOL:=qd ol;have HOH:=qd oh;have l2:=own2 ol;have h2:=own2 oh;have c5:=own5 oc;have hbl:=hr.lt;have HJ1:=qd (fun w=>join_is low (r.getD ka default) w);have HJ2:=qd (fun w=>join_is high (r.getD kb default) w);unfold comeP spAt;dsimp only;rw[Int.toNat_natCast,Int.toNat_natCast];generalize joinP low (r.getD ka default)=j1 at *;generalize joinP high (r.getD kb default)=j2 at *;obtain⟨j1l,j1h⟩:=j1;obtain⟨j2l,j2h⟩:=j2;generalize r.getD ka default=pa at *;generalize r.getD kb default=pb at *;obtain⟨pal,pah⟩:=pa;obtain⟨pbl,pbh⟩:=pb;obtain⟨ll,lh⟩:=low;obtain⟨hl,hh⟩:=high;unfold spV2 at *;dsimp only at *;clear ol oh oc hr;have hne2:hb≠lb:=fun e=>hne e.symm;go_enter Tryz.func18,Tryz.ntmps18;refine wp_below_tail 14 kr kr (fun T F hF hall=>?_);simp only[TD];have hFc:=fun t=>(bcell (hF t)).1;have hFf:=fun t=>(bcell (hF t)).2;have hFs:=fun t=>(hF t).size;have hNE:Nonempty T:=(hall _ (Below.refl _ _)).elim fun t _=>⟨t⟩;repeat(refine WQ_step (fun K hK=>?_);go_simp;refine hK _ ?_;clear hK K)
 (refine WQ_step (fun K hK=>?_);go_simp;refine⟨_,fun t=>calls_family (hF t) hall (HJ1.out (F t)),hK _ ?_⟩;clear hK K)
 repeat(refine WQ_step (fun K hK=>?_);go_simp;refine hK _ ?_;clear hK K)
 (refine WQ_step (fun K hK=>?_);go_simp;refine⟨_,fun t=>calls_family (hF t) hall (HJ2.out (F t)),hK _ ?_⟩;clear hK K)
 repeat(refine WQ_step (fun K hK=>?_);go_simp;refine hK _ ?_;clear hK K)
 refine WQ_nil (fun t=>?_);have hft:=hF t;go_wp2
 go_end0
 go_light;have h1:=(((HOL.out.below hft).set 0 (.int .i64 j1l) si).set 1 (.int .i64 j1h) si)
 have h2:=(HOH.out.below hft)
 refine⟨rfl,?_,?_,(Chg.of hft).trans (chgTwo _ _ _ _ _ _ _)⟩
 ·exact(h1.setOther (p:=⟨hb,0,none⟩) _ hne2).setOther (p:=⟨hb,1,none⟩) _ hne2
 ·exact(((h2.setOther (p:=⟨lb,0,none⟩) _ hne).setOther (p:=⟨lb,1,none⟩) _ hne).set 0 (.int .i64 j2l) si).set 1 (.int .i64 j2h) si
section
theorem LoopsAt.keep {W W':World}{v:Value}{L:List LTri}{S:Nat->Prop}(h:LoopsAt W v L) (hc:Chg S W W') (q:Nat) (hq:W.heap.size<=q\/∀ x,S x->q<=x) (hS:∀ x,S x->q<=x) (hv:∀ k,v.ownBlock=some k->k<q) (hl:∀ t∈L,(∀ k,t.2.1.ownBlock=some k->k<q)/\∀ k,t.2.2.ownBlock=some k->k<q):LoopsAt W' v L :=
 ⟨row_chg hc h.row (fun k hk e=>by have:=hv k hk;have:=hS k e;omega),fun t ht=>⟨row_chg hc (h.each t ht).1 (fun k hk e=>by have:=(hl t ht).1 k hk;have:=hS k e;omega),row_chg hc (h.each t ht).2 (fun k hk e=>by have:=(hl t ht).2 k hk;have:=hS k e;omega)⟩,h.dis⟩
/-- what stays: q is behind all of it -/
structure TI (N:Nat) (A:BAd) (n rg mb ib ab fx:Nat) (mv fv av:List Value) (fn:Nat) (v:Value) (L:List LTri) (s:PBS) (w0:World) (q:Nat) (W:World):Prop where
 cm:Own W mb mv
 ci:Own W ib [.int .i64 fn]
 ca:Own W ab av
 cf:Own W fx fv
 l:LoopsAt W v L
 b:BAt N W A n rg s
 be:Below w0.heap.size w0 W
 lq:mb<q/\ib<q/\ab<q/\fx<q/\w0.heap.size<=q/\q<=W.heap.size
 lv:∀ k,v.ownBlock=some k->k<q
 ll:∀ t∈L,(∀ k,t.2.1.ownBlock=some k->k<q)/\∀ k,t.2.2.ownBlock=some k->k<q
 lt:∀ x,q<=x->A.tg x=0
section
variable {N : Nat} {A : BAd} {n rg mb ib ab fx : Nat} {mv fv av : List Value} {fn : Nat} {v : Value} {L : List LTri} {s : PBS} {w0 : World} {q : Nat} {W W' : World} {S : Nat -> Prop}
theorem TI.keep (h:TI N A n rg mb ib ab fx mv fv av fn v L s w0 q W) (hc:Chg S W W') (hS:∀ x,S x->q<=x):TI N A n rg mb ib ab fx mv fv av fn v L s w0 q W':=by
 obtain⟨l1,l2,l3,l4,l5,l6⟩:=h.lq;have no:∀ x,x<q->¬S x:=fun x hx e=>by have:=hS x e;omega
 exact⟨hc.own h.cm (no _ l1),hc.own h.ci (no _ l2),hc.own h.ca (no _ l3),hc.own h.cf (no _ l4),h.l.keep hc q (.inr hS) hS h.lv h.ll,h.b.keep hc (fun x e=>h.lt x (hS x e)),h.be.trans (hc.below _ h.be.size (fun k hk e=>by have:=hS k e;omega)),⟨l1,l2,l3,l4,l5,Nat.le_trans l6 hc.size⟩,h.lv,h.ll,h.lt⟩
theorem TI.below (h:TI N A n rg mb ib ab fx mv fv av fn v L s w0 q W) (hb:Below W.heap.size W W'):TI N A n rg mb ib ab fx mv fv av fn v L s w0 q W':=h.keep (S:=fun _=>False) (Chg.of hb) (fun _ e=>e.elim)
theorem TI.turn {b:Nat}(h:TI N A n rg mb ib ab fx mv fv av fn v L s w0 q W) (c:Turn b W W') (hb:q<=b) (hk:A.k<b):TI N A n rg mb ib ab fx mv fv av fn v L s w0 q W':=by
 obtain⟨l1,l2,l3,l4,l5,l6⟩:=h.lq;exact⟨h.cm.turn c oz,h.ci.turn c oz,h.ca.turn c oz,h.cf.turn c oz,⟨row_turn c h.l.row,fun t ht=>⟨row_turn c (h.l.each t ht).1,row_turn c (h.l.each t ht).2⟩,h.l.dis⟩,h.b.turn c hk,h.be.trans (c.below.mono oz),⟨l1,l2,l3,l4,l5,by rw[c.size];exact l6⟩,h.lv,h.ll,h.lt⟩
end
end
end Go.Proofs.YteebpnbdihcfmaaGreatDoor
