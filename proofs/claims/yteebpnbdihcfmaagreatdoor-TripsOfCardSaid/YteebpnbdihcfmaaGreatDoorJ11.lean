/- loops; The plain forms of pac; Loops as they lie in m; code; R09 -/
import Derived.Test.YteebpnbdihcfmaaGreatDoorJ09
set_option linter.unusedVariables false
set_option linter.unusedSimpArgs false
set_option maxRecDepth 100000
set_option maxHeartbeats 20000000
namespace Go.Proofs.YteebpnbdihcfmaaGreatDoor
open Go.RowKit
section
attribute [local go_sem] Oper.semAt_some
open Classical in
/-- does v dominate u? -/
noncomputable def kL (f:aC) (v u:Nat):Bool:=decide (¬(v≠0/\Wx (jL f) v 0 u))
/-- what the maps hold, of some edges: who leads there; where it leads by edges that are no back edges; who leads back -/
noncomputable def nJ (f:aC) (pre:List (Nat×Int)) (c k:Nat):List Int :=
 if c=0 then dV pre k else if c=1 then(pre.filter (fun x=>x.1==k && !kL f x.2.toNat x.1)).map (fun x=>x.2)
 else(pre.filter (fun x=>x.2==(k:Int)&&kL f x.2.toNat x.1)).map (fun x=>(x.1:Int))
theorem zX (f:aC) (pre:List (Nat×Int)) (k:Nat):nJ f pre 0 k=dV pre k:=rfl
theorem aQs {p:Prop}(h:p:=by
 rw[lB (by omega),zX,aAt];by_cases e:k=v
 ·subst e;rw[if_pos rfl,vO,zX]
 ·rw[if_neg e,lB (by omega),zX]):p:=h
theorem aO1 (f:aC) (pre:List (Nat×Int)) (u v:Nat) (hd:kL f v u=true) (c k:Nat) (hc:c<3):nJ f (pre++[(u,(v:Int))]) c k=kD (kD (nJ f pre) 0 v u) 2 v u c k:=by
 obtain rfl|rfl|rfl:c=0\/c=1\/c=2:=oz
 ·exact aQs
 ·rw[lB (by omega),lB (by omega)];unfold nJ;rw[if_neg (by omega),if_pos rfl,if_neg (by omega),if_pos rfl,List.filter_append];simp[hd]
 ·unfold kD nJ;simp only[List.filter_append];by_cases e:k=v
  ·subst e;simp[hd]
  ·simp[e];omega
theorem aMs (f:aC) (pre:List (Nat×Int)) (u v:Nat) (hd:kL f v u=false) (c k:Nat) (hc:c<3):nJ f (pre++[(u,(v:Int))]) c k=kD (kD (nJ f pre) 0 v u) 1 u v c k:=by
 obtain rfl|rfl|rfl:c=0\/c=1\/c=2:=oz
 ·exact aQs
 ·unfold kD nJ;simp only[List.filter_append];by_cases e:k=u
  ·subst e;simp[hd]
  ·have e2:¬u=k:=fun h=>e h.symm;simp[e,e2]
 ·rw[lB (by omega),lB (by omega)];unfold nJ;rw[if_neg (by omega),if_neg (by omega),if_neg (by omega),if_neg (by omega),List.filter_append];simp[hd]
theorem aS8 (f:aC) (c k:Nat):nJ f [] c k=[]:=by unfold nJ dV;simp
theorem xY (f:aC) (pre:List (Nat×Int)) (c k:Nat):(nJ f pre c k).length<=pre.length:=by
 unfold nJ;split
 ·exact uY _ _
 ·split<;>(rw[List.length_map];exact List.length_filter_le _ _)
theorem bG.cast {W:World}{lo b0 n:Nat}{G G':Nat->Nat->List Int}{S:Nat->Nat->Option Value}(h:bG W lo b0 n G S) (e:∀ c k,c<3->G' c k=G c k):bG W lo b0 n G' S :=
 ⟨h.map,fun c v s hc hs=>by rw[e c v hc];exact h.each c v s hc hs,fun c v hc=>by rw[e c v hc];exact h.ent c v hc,h.low,h.lb,h.dis,h.big⟩
theorem vZ.step {f:aC}{near:List Int}{nr:Nat->Int}{rk:Nat->Nat}(h:vZ f near nr rk) {a v:Nat}(hne:a≠v) (ha:lA f a) (hal:a<f.code.length) :
 (near[a]? = some (-1)/\¬Ch nr a v)\/∃ y:Nat,near[a]? = some (y:Int)/\lA f y/\rk y<rk a/\(Ch nr a v↔Ch nr y v):=by
 by_cases h0:a=0
 ·subst h0;refine .inl ⟨h.z,fun hc=>?_⟩;rcases hc.inv with e|⟨_,k,_⟩
  ·exact hne e
  ·exact k rfl
 ·have hd:=h.dn a ha;have hu:=h.up a (nr a).toNat h0 oz;refine .inr ⟨(nr a).toNat,by rw[h.at_ a (by omega) hal];congr 1;omega,hu.2.1,hu.2.2,fun hc=>?_,fun hc=>.up a _ v h0 oz hc⟩;rcases hc.inv with e|⟨y,_,e,k⟩
  ·exact absurd e hne
  ·rw[e,Int.toNat_natCast];exact k
open Classical in
theorem vZ.domIff {f:aC}{near:List Int}{nr:Nat->Int}{rk:Nat->Nat}(h:vZ f near nr rk) {u v:Nat}(hu:lA f u):kL f v u=true↔Ch nr u v:=by
 unfold kL;exact decide_eq_true_iff.trans (h.dom u v hu).symm
def atM (rk:Nat->Nat) (v:Value):Nat:=if intOf v<0 then 0 else rk (intOf v).toNat+1
theorem aSa (rk:Nat->Nat):atM rk (.int .i64 (-1))=0:=by unfold atM;exact if_pos (show(-1:Int)<0 by omega)
theorem aDc (rk:Nat->Nat) (a:Nat):atM rk (.int .i64 a)=rk a+1:=by unfold atM;exact(if_neg (show ¬(a:Int)<0 by omega)).trans (by simp[intOf])
theorem KpE.trans {own:World->Nat->Prop}{W W1 W2:World}(h1:KpE own W W1) (h2:KpE own W1 W2):KpE own W W2 :=
 ⟨aG.trans2 h1.1 h2.1 (fun k hk ho=>by
  rcases h1.2 k ho with h|h
  ·exact h
  ·omega),fun k hk=>by
  rcases h2.2 k hk with h|h
  ·exact h1.2 k h
  ·exact .inr (Nat.le_trans h1.1.size h)⟩
/-- what loops.graphOf holds -/
structure nH (n:Nat) (w W:World) (zb nb nc:Nat) (near:List Int) (G:Nat->Nat->List Int) (m:Nat):Prop where
 bel:Below w.heap.size w W
 sz:zb+2<=W.heap.size
 gr:∃ q S,q<=m/\bG W (zb+4) (w.heap.size+2) q G S
 res:aF W (w.heap.size+1) [.map none,.map none,.map none]
 gb:aF W (w.heap.size+5) [.map (some (w.heap.size+2)),.map (some (w.heap.size+2+1)),.map (some (w.heap.size+2+2))]
 zx:aF W zb [.slice (some ⟨nb,0,none⟩) n nc]
 nr:W.ownsRow 0 3 1 (.slice (some ⟨nb,0,none⟩) n nc) n (aR near)
 l1:w.heap.size+6<=nb
 l2:nb<zb
section
variable {n m : Nat} {w W W' : World} {zb nb nc : Nat} {near : List Int} {G G' : Nat -> Nat -> List Int}
theorem nH.notOwn (h:nH n w W zb nb nc near G m) {k:Nat}(hk:k<zb+4) (hne:¬(w.heap.size+2<=k/\k<w.heap.size+5)):¬pI (w.heap.size+2) W k:=fun ho=>by
 obtain⟨q,S,_,hg⟩:=h.gr;rcases hg.ownGe ho with e|e
 ·exact hne ⟨oz,oz⟩
 ·omega
theorem nH.kept (h:nH n w W zb nb nc near G m) (hk:KpE (pI (w.heap.size+2)) W W') {m':Nat}(hg:∃ q S,q<=m'/\bG W' (zb+4) (w.heap.size+2) q G' S):nH n w W' zb nb nc near G' m':=by
 have l1:=h.l1;have l2:=h.l2;refine⟨h.bel.trans (hk.1.below _ h.bel.size (fun k hk=>h.notOwn oz oz)),Nat.le_trans h.sz hk.1.size,hg,hk.1.own h.res (h.notOwn oz oz),hk.1.own h.gb (h.notOwn oz oz),hk.1.own h.zx (h.notOwn oz oz),?_,l1,l2⟩;exact aN hk.1 h.nr (fun k hk=>h.notOwn (by have:nb=k:=eL hk;omega) (by have:nb=k:=eL hk;omega))
theorem nH.cast (h:nH n w W zb nb nc near G m) (e:∀ c k,c<3->G' c k=G c k) {m':Nat}(hm:m<=m'):nH n w W zb nb nc near G' m':=by
 obtain⟨q,S,hq,hg⟩:=h.gr;exact⟨h.bel,h.sz,⟨q,S,oz,hg.cast e⟩,h.res,h.gb,h.zx,h.nr,h.l1,h.l2⟩
theorem nH.below (h:nH n w W zb nb nc near G m) (hb:Below W.heap.size W W'):nH n w W' zb nb nc near G m:=by
 obtain⟨q,S,hq,hg⟩:=h.gr;exact⟨h.bel.trans (hb.mono h.bel.size),Nat.le_trans h.sz hb.size,⟨q,S,hq,hg.below hb⟩,h.res.below hb,h.gb.below hb,h.zx.below hb,aA hb h.nr,h.l1,h.l2⟩
theorem nH.turn (h:nH n w W zb nb nc near G m) (c:iF (zb+2) W W'):nH n w W' zb nb nc near G m:=by
 obtain⟨q,S,hq,hg⟩:=h.gr;have l1:=h.l1;have l2:=h.l2;exact⟨h.bel.trans (c.below.mono oz),by rw[c.size];exact h.sz,⟨q,S,hq,hg.turn c oz⟩,h.res.turn c oz,h.gb.turn c oz,h.zx.turn c oz,gE c h.nr,l1,l2⟩
end
theorem bY.made' (W:World) (b:Nat) (hb:b=W.heap.size):bY (W.alloc (.map #[] 0)) b 0 (fun _=>none):=by subst hb;exact bY.made W
theorem bY.alloc {W:World}{b n:Nat}{M:Int->Option Value}(h:bY W b n M) (o:Obj):bY (W.alloc o) b n M:=h.below ((Below.refl _ _).alloc lr o)
theorem bG.start {W:World}{b0 lo:Nat}(h0:bY W b0 0 (fun _=>none)) (h1:bY W (b0+1) 0 (fun _=>none)) (h2:bY W (b0+2) 0 (fun _=>none)) (hlo:b0+3<=lo):bG W lo b0 0 (fun _ _=>[]) (fun _ _=>none):=by
 have e:jJ (fun _=>none)=fun _=>none:=by funext i;unfold jJ;split<;>rfl
 refine⟨?_,?_,?_,?_,hlo,?_,?_⟩
 ·intro c hc;rw[e];obtain rfl|rfl|rfl:c=0\/c=1\/c=2:=oz
  ·exact h0
  ·exact h1
  ·exact h2
 ·intro c v s _ h;cases h
 ·intro c v _;simp
 ·intro c v s k _ h;cases h
 ·intro c v s d u t k _ _ h;cases h
 ·intro c v _ _;rfl
theorem aKu {F:Func}{i:Nat}{T:Array Value}{W:World}{k:Nat}{x y z:Value}(hF:F.results=#[.cell i 106]) (hT:T[i]? = some (.pointer (some ⟨k,0,none⟩))) (ho:aF W k [x,y,z]):(results F T).run Tryz.prog W=.ok (.agg #[x,y,z]) W:=by
 have r:=gV ho;simp[results,hF,go_sem,hT,r]
theorem vB {p:Prop}(h:p:=by
 have:=hT.l1;have:=hT.l2;omega):p:=h
theorem aGm {p:Prop}(h:p:=by
 have e:g6=k:=eL hk
 subst e;rw[hsv];exact aUi):p:=h
theorem aJ6 {p:Prop}(h:p:=by
 rcases bU hrow with⟨h1,h2,_⟩|⟨g,c,h1,_⟩
 ·exact⟨none,0,by rw[h1,h2]⟩
 ·exact⟨_,c,h1⟩):p:=h
theorem aCu {p:Prop}(h:p:=by
 have h2:=hok2.length_le;have h3:=jV f;rw[List.length_append]at h2;omega):p:=h
theorem aFr (B:Nat) (hh:HF) (f:aC) (w:World) (hB:B<=w.heap.size) (hf:aZ B w hh f) (hn0:0<f.code.length) (hn:f.code.length<=1024):Calls Tryz.prog 49 #[aI hh f] w fun e w' =>
 ∃ b0 lo n S,e=.returned (.agg #[.map (some b0),.map (some (b0+1)),.map (some (b0+2))])/\Below w.heap.size w w'/\w.heap.size<=b0/\bG w' lo b0 n (nJ f (aW f)) S:=by
 have hmm:=@run_makeMap Tryz.prog;have HF:=qd hf;have HTr:=qd (fun w hB hf=>aRf B hh f w hB hf hn0 hn);have HEd:=qd (fun w=>uX hh f w);obtain⟨pa,pl,pc,ca,cl,cc⟩:=hh;obtain⟨h1,h2,⟨hcl,hcm,hcx⟩,h4,h5⟩:=hf;dsimp only at *;subst hcl;clear h2 hcm hcx h1 h4 h5;unfold aI at *;dsimp only at *;refine(callsIn_wide (n:=3)).1 ?_;refine callsIn_of_wp_marks Tryz.func49 rfl trivial ?_ rfl;refine wpIn_wide.2 ?_;simp only[Tryz.ntmps49,List.size_toArray,List.length_cons,List.length_nil,Nat.reduceAdd,Nat.reduceSub,Array.replicate_succ,Array.replicate_zero,List.push_toArray,List.append_toArray,List.nil_append,List.cons_append];go_upto_region 2 with(fail)
 generalize hW0:World.alloc _ _=W0;have hb0:Below w.heap.size w W0:=by rw[<-hW0];exact bel
 have OB:aF W0 w.heap.size [.string f.name,.slice pa pl pc,.int .i64 f.regs,.int .i64 f.words,.slice ca f.code.length cc]:=by rw[<-hW0];exact(((((aF.new _ _ _).alloc _).alloc _).alloc _).alloc _).alloc _
 have OR:aF W0 (w.heap.size+1) [.map none,.map none,.map none]:=by rw[<-hW0];exact((((aF.new' _ _ _ _ si).alloc _).alloc _).alloc _).alloc _
 have OX:aF W0 (w.heap.size+5) [.map (some (w.heap.size+2)),.map (some (w.heap.size+2+1)),.map (some (w.heap.size+2+2))]:=lG
 have hz0:W0.heap.size=w.heap.size+6:=by rw[<-hW0];simp
 have OG:∀ lo,w.heap.size+5<=lo->bG W0 lo (w.heap.size+2) 0 (fun _ _=>[]) (fun _ _=>none):=fun lo hlo=>by
  refine bG.start ?_ ?_ ?_ hlo
  ·rw[<-hW0];exact(((bY.made' _ _ si).alloc _).alloc _).alloc _
  ·rw[<-hW0];exact((bY.made' _ _ si).alloc _).alloc _
  ·rw[<-hW0];exact(bY.made' _ _ si).alloc _
 have HB:=qd OB;have HR:=qd OR;have HX:=qd OX;have HG:=qd OG;have b5:=aX OB;clear OR OX OG OB hW0 hmm;go_upto_region 3 with(first|(go_at_call 91;refine(HTr.out _ oz (HF.out.same (aQ.of hb0 hB))).mono ?_;rintro e w1 ⟨near,nr,rk,hok,nv,rfl,hb1,hr1,hf1,hn1⟩;obtain⟨nb,nc,rfl,hnc1,hnc2,hnb⟩:=bB hr1 (by rw[hok.len];exact hn0))|fail)
 have hnl:near.length=f.code.length:=hok.len;rw[hnl]at hr1 ⊢;have hz1:=hb1.size;have hf1':=hf1 nb rfl;generalize hzb:w1.heap.size=zb at *;generalize hW2:World.alloc _ _=W2;have hz2:W2.heap.size=zb+1:=by rw[<-hW2];simp[hzb]
 have hb2:Below W0.heap.size W0 W2:=by rw[<-hW2];exact hb1.alloc oz _
 have HB2:=qd (HB.out.below hb2);have b5':=aX HB2.out;have hZ2:aF W2 zb [.slice (some ⟨nb,0,none⟩) f.code.length nc]:=by rw[<-hW2,<-hzb];exact aF.new _ _ _
 have hN2:W2.ownsRow 0 3 1 (.slice (some ⟨nb,0,none⟩) f.code.length nc) f.code.length (aR near):=by rw[<-hW2];exact aA eN hr1
 have HZ2:=qd hZ2;have HN2:=qd hN2;clear hZ2 hN2 hW2 hr1 hf1 hn1 hb1 b5 HB;unfold wR at HEd;go_wp2_with (first|(go_at_call 22;refine(HEd.out _).mono ?_;rintro e w4 ⟨rfl,hw4⟩)|fail)
 rw[<-hw4];have hz4:w4.heap.size=zb+2:=by rw[hw4];simp[hz2]
 have hb4:Below W2.heap.size W2 w4:=by rw[hw4];exact(Below.refl _ W2).alloc oz _
 have hb04:Below W0.heap.size W0 w4:=hb2.trans (hb4.mono oz);have X4:aF w4 (zb+1) [.string f.name,.slice pa pl pc,.int .i64 f.regs,.int .i64 f.words,.slice ca f.code.length cc]:=by rw[hw4];exact aF.new' _ _ _ _ oz
 have HM4:Hid (nH f.code.length w w4 zb nb nc near (nJ f []) 0):=qd ⟨hb0.trans (hb04.mono oz),oz,⟨0,_,Nat.le_refl _,((HG.out (zb+4) oz).below hb04).cast (fun c k _=>aS8 f c k)⟩,HR.out.below hb04,HX.out.below hb04,HZ2.out.below hb4,aA hb4 HN2.out,oz,oz⟩;have HF4:=qd (HF.out.same (aQ.of (hb0.trans (hb04.mono oz)) hB));have hl1:w.heap.size+6<=nb:=oz
 clear HF HG HR HX HZ2 HN2 HB2 hb4 hb04 hb2 hb0 b5' hw4 hz2 HEd HTr;refine pO (pI (w.heap.size+2)) (fun pre W=>nH f.code.length w W zb nb nc near (nJ f pre) (2*pre.length))
  B (w.heap.size+2) (zb+1) ⟨pa,pl,pc,ca,f.code.length,cc⟩ f rfl rfl hn0 hn oz oz HF4.out X4 ⟨?_,?_,?_⟩ ?_ ?_ ?_ ?_ HM4.out ?_ ?_
 ·rintro pre W k h hk;obtain⟨q,S,_,hg⟩:=h.gr;exact hg.ownLt hk
 ·rintro pre W W' k h hb hk;obtain⟨q,S,_,hg⟩:=h.gr;exact(pI.iff (fun c hc=>hb.block _ (hg.map c hc).lt)).1 hk
 ·rintro pre W k h hk;obtain⟨q,S,_,hg⟩:=h.gr;rcases hg.ownGe hk with e|e<;>omega
 ·rintro pre W h hk;exact h.notOwn oz oz hk
 ·rintro pre W W' h hb;exact h.below hb
 ·rintro pre W W' h hc;rw[hz4]at hc;exact h.turn hc
 ·rintro pre W W' k h hc;exact pI.iff (fun c hc'=>hc.block _ (.inl oz))
 ·apply Exists.intro;constructor
  ·exact aHo
  ·rintro l' pre x W hT hok2 hsz;obtain⟨v,hxv,hvn,hun⟩:=kT f x (hok2.subset si);obtain⟨u,y⟩:=x;dsimp only at hxv hun ⊢;subst hxv;have hl0:(nJ f pre 0 v).length<=4096:=by
    have h1:=xY f pre 0 v;exact aCu
   have hm0:2*pre.length<=8192:=by
    exact aCu
   gi_wp2;obtain⟨q,S,hq,hg⟩:=hT.gr;have hx:=gV hT.gb;have hrow:=hg.row (c:=0) (v:=v) dc;obtain⟨sa,sc,hsv⟩:∃ sa sc,(S 0 v).getD kN=.slice sa (nJ f pre 0 v).length sc:=by
    exact aJ6
   have hbA:Below W.heap.size W W.drew:=(Below.refl _ W).drew;have hbB:Below W.heap.size W (W.alloc (.cells #[.int .i64 (u:Int)] 3)).drew:=eN.drew;have hlk:=((hg.map 0 dc).below hbA).get Tryz.mapS pE (dI (show v<1024 by omega));have hlk2:=((hg.map 0 dc).below hbB).get Tryz.mapS pE (dI (show v<1024 by omega));rw[fC,hsv]at hlk hlk2
   try simp only[Nat.add_zero]at hlk hlk2
   rw[hsv]at hrow;have hx0:W.cell? ⟨w.heap.size+5,0,none⟩=some (.map (some (w.heap.size+2+0))):=hx.2.1
   try simp only[Nat.add_zero]at hx0
   refine aAs (fun _ _ w'=>Hid (nH f.code.length w w' zb nb nc near (kD (nJ f pre) 0 v u) (2*pre.length+1))/\Hid (KpE (pI (w.heap.size+2)) W w')) ?_;apply Exists.intro;constructor
   ·refine fR (fun w'=>w'.cell? ⟨w.heap.size+5,0,none⟩=some (.map (some (w.heap.size+2+0)))) kr kr hx0 ?_;intro K0 hK0 hHeld
    try simp only[Nat.add_zero]at hHeld
    (refine fH 0 rfl ?_ gD;try simp only[Act.put,SU])
    (refine fH 1 rfl ?_ gD;try simp only[Act.put,SU])
    (refine fH 2 rfl ?_ gD;try simp only[Act.put,SU])
    (refine fH 3 rfl ?_ gD;try simp only[Act.put,SU])
    (refine fH 4 rfl ?_ gD;try simp only[Act.put,SU])
    (refine fH 5 rfl ?_ gD;try simp only[Act.put,SU])
    (refine fH 7 rfl ?_ gD;try simp only[Act.put,SU])
    refine wpAnyH_ready (rs:=[6,8]) kr si ?_;refine iB rfl (fun K hK=>?_) (iB rfl (fun K hK=>?_) AllReadyH.nil)
    all_goals go_simp
    refine hK.out _ _ ?_ (fun hHeld=>?_);(focus((try dsimp only);any_goals (first|assumption|go_keep)));clear hK K;try simp only[Act.put,SU]
    (refine wpAnyH_ready (rs:=[8]) kr si ?_;refine iB rfl (fun K hK=>?_) AllReadyH.nil)
    go_simp
    refine hK.out _ _ ?_ (fun hHeld=>?_);(focus((try dsimp only);any_goals (first|assumption|go_keep)));clear hK K;try simp only[Act.put,SU]
    rotate_left;refine hK.out _ _ ?_ (fun hHeld=>?_);(focus((try dsimp only);any_goals (first|assumption|go_keep)));clear hK K;try simp only[Act.put,SU]
    (refine wpAnyH_ready (rs:=[6]) kr si ?_;refine iB rfl (fun K hK=>?_) AllReadyH.nil)
    go_simp
    refine hK.out _ _ ?_ (fun hHeld=>?_);(focus((try dsimp only);any_goals (first|assumption|go_keep)));clear hK K;try simp only[Act.put,SU]
    all_goals
     (refine wpAnyH_ready (rs:=[9]) kr si ?_;refine iB rfl (fun K hK=>?_) AllReadyH.nil)
     refine iN rfl (.tmp 24) (.tmp 26) 50 3 1 8 (.int .i64 0) rfl Tryz.underlying50 Tryz.infoI rfl dc (.slice sa (nJ f pre 0 v).length sc) _ _ rfl (aA hbB hrow) ⟨W.heap.size,0,none⟩ 1 1 (aR [(u:Int)]) rfl rfl (cC (show aF (W.alloc (.cells #[.int .i64 (u:Int)] 3)).drew W.heap.size _ from(aF.new W [.int .i64 (u:Int)] 3).drew)) (bZ _) bH oz dc ?_;intro g6 c6 w6 hr6 hc6 hg6;have hc7:aG (fun k=>((S 0 v).getD kN).ownBlock=some k) W w6:=by rw[hsv];exact(aG.of hbB).trans hc6
     have hg7:∀ k,(Value.slice (some ⟨g6,0,none⟩) ((nJ f pre 0 v).length+1) c6).ownBlock=some k->((S 0 v).getD kN).ownBlock=some k\/W.heap.size<=k:=fun k hk=>by
      exact aGm
     have hnb:∀ k,k<zb+4->¬((S 0 v).getD kN).ownBlock=some k:=fun k hk e=>by
      obtain⟨s,hs,e⟩:=hg.ownBlock (c:=0) (v:=v) dc e;have:=hg.low 0 v s k dc hs e;omega
     obtain⟨w7,hrun7,hm7,hc8⟩:=((hg.map 0 dc).chg hc7 (hnb _ vB)).set Tryz.mapS bH (dI (show v<1024 by omega)) (.slice (some ⟨g6,0,none⟩) ((nJ f pre 0 v).length+1) c6);obtain⟨hG2,hK2⟩:=hg.push dc oz hc7 hr6 hg7 oz hm7 hc8;have hB6:w6.cell? ⟨w.heap.size+5,0,none⟩=some (.map (some (w.heap.size+2+0))):=(hc7.cellAt 0 hx.1 (hnb _ vB)).trans hx.2.1;have hB7:w7.cell? ⟨w.heap.size+5,0,none⟩=some (.map (some (w.heap.size+2+0))):=(hc8.cellAt 0 (by have:=hc7.size;have:=hx.1;omega) oz).trans hB6
     try simp only[Nat.add_zero]at hB6 hB7 hrun7
     have HG2:=qd (hT.kept hK2 ⟨_,_,Nat.succ_le_succ hq,hG2⟩);have HK2:=qd hK2;clear hG2 hK2 hg7 hnb hc7 hr6 hc6 hm7 hc8;refine hK.out _ _ ?_ (fun hHeld=>?_);(focus((try dsimp only);any_goals (assumption)));clear hK K;try simp only[Act.put,SU]
     (refine wpAnyH_ready (rs:=[10]) kr si ?_;refine iB rfl (fun K hK=>?_) AllReadyH.nil)
     go_simp
     refine hK.out _ _ ?_ (fun hHeld=>?_);(focus((try dsimp only);any_goals (assumption)));clear hK K;try simp only[Act.put,SU]
     refine aO kr ?_;exact hK0.out _ _ ⟨rfl,g6,c6,rfl,HG2,HK2⟩
   rintro g6 c6 w7 ⟨hG7,hK7⟩;clear hx0 hlk hlk2 hx hrow hsv hbA hbB hg hq;have hur:lA f u:=((lY f u v).1 (hok2.subset si)).2.1;have HK7:=hK7;have hz7:=hK7.out.1.size;have HN0:=fun k (h1:k<zb+4) h2=>hT.notOwn (k:=k) h1 h2;clear hT hK7;gi_wp2;gi_loopw [7] (fun va wr=>wr=w7/\((va=.int .i64 (-1)/\¬Ch nr u v)\/∃ a:Nat,va=.int .i64 a/\lA f a/\(Ch nr u v↔Ch nr a v))) (fun va _=>atM rk va)
   case atStart=>exact⟨rfl,.inr ⟨u,rfl,hur,Iff.rfl⟩⟩
   case round =>
    obtain⟨rfl,hrel⟩:=hrel;rcases hrel with⟨rfl,hno⟩|⟨a,rfl,har,hiff⟩
    ·have hdb:kL f v u=false:=by
      cases e:kL f v u with
      | false=>rfl
      | true=>exact absurd ((hok.domIff hur).1 e) hno
     have q1:¬(-1:Int)=(v:Int):=oz
     have q2:((-1:Int)==(v:Int))=false:=oI
     gi_wp2;have hl9:(kD (nJ f pre) 0 v u 1 u).length<=4096:=by
      rw[lB (by omega)];have h1:=xY f pre 1 u;exact aCu
     obtain⟨hT,-⟩:∃ h:nH f.code.length w wr zb nb nc near (kD (nJ f pre) 0 v u) (2*pre.length+1),True:=⟨hG7.out,trivial⟩
     obtain⟨q,S,hq,hg⟩:=hT.gr;have hx:=gV hT.gb;have hrow:=hg.row (c:=1) (v:=u) dc;obtain⟨sa,sc,hsv⟩:∃ sa sc,(S 1 u).getD kN=.slice sa (kD (nJ f pre) 0 v u 1 u).length sc:=by
      exact aJ6
     have hbA:Below wr.heap.size wr wr.drew:=(Below.refl _ wr).drew;have hbB:Below wr.heap.size wr (wr.alloc (.cells #[.int .i64 (v:Int)] 3)).drew:=eN.drew;have hlk:=((hg.map 1 dc).below hbA).get Tryz.mapS pE (dI (show u<1024 by omega));have hlk2:=((hg.map 1 dc).below hbB).get Tryz.mapS pE (dI (show u<1024 by omega));rw[fC,hsv]at hlk hlk2
     try simp only[Nat.add_zero]at hlk hlk2
     rw[hsv]at hrow;have hx0:wr.cell? ⟨w.heap.size+5,1,none⟩=some (.map (some (w.heap.size+2+1))):=hx.2.2.1
     try simp only[Nat.add_zero]at hx0
     refine aAs (fun _ _ w'=>Hid (nH f.code.length w w' zb nb nc near (kD (kD (nJ f pre) 0 v u) 1 u v) (2*pre.length+1+1))/\Hid (KpE (pI (w.heap.size+2)) wr w')) ?_;apply Exists.intro;constructor
     ·refine fR (fun w'=>w'.cell? ⟨w.heap.size+5,1,none⟩=some (.map (some (w.heap.size+2+1)))) kr kr hx0 ?_;intro K0 hK0 hHeld
      try simp only[Nat.add_zero]at hHeld
      (refine fH 0 rfl ?_ gD;try simp only[Act.put,SU])
      (refine fH 1 rfl ?_ gD;try simp only[Act.put,SU])
      (refine fH 2 rfl ?_ gD;try simp only[Act.put,SU])
      (refine fH 3 rfl ?_ gD;try simp only[Act.put,SU])
      (refine fH 4 rfl ?_ gD;try simp only[Act.put,SU])
      (refine fH 5 rfl ?_ gD;try simp only[Act.put,SU])
      (refine fH 7 rfl ?_ gD;try simp only[Act.put,SU])
      refine wpAnyH_ready (rs:=[6,8]) kr si ?_;refine iB rfl (fun K hK=>?_) (iB rfl (fun K hK=>?_) AllReadyH.nil)
      all_goals go_simp
      refine hK.out _ _ ?_ (fun hHeld=>?_);(focus((try dsimp only);any_goals (first|assumption|go_keep)));clear hK K;try simp only[Act.put,SU]
      (refine wpAnyH_ready (rs:=[8]) kr si ?_;refine iB rfl (fun K hK=>?_) AllReadyH.nil)
      go_simp
      refine hK.out _ _ ?_ (fun hHeld=>?_);(focus((try dsimp only);any_goals (first|assumption|go_keep)));clear hK K;try simp only[Act.put,SU]
      rotate_left;refine hK.out _ _ ?_ (fun hHeld=>?_);(focus((try dsimp only);any_goals (first|assumption|go_keep)));clear hK K;try simp only[Act.put,SU]
      (refine wpAnyH_ready (rs:=[6]) kr si ?_;refine iB rfl (fun K hK=>?_) AllReadyH.nil)
      go_simp
      refine hK.out _ _ ?_ (fun hHeld=>?_);(focus((try dsimp only);any_goals (first|assumption|go_keep)));clear hK K;try simp only[Act.put,SU]
      all_goals
       (refine wpAnyH_ready (rs:=[9]) kr si ?_;refine iB rfl (fun K hK=>?_) AllReadyH.nil)
       refine iN rfl (.tmp 59) (.tmp 61) 50 3 1 8 (.int .i64 0) rfl Tryz.underlying50 Tryz.infoI rfl dc (.slice sa (kD (nJ f pre) 0 v u 1 u).length sc) _ _ rfl (aA hbB hrow) ⟨wr.heap.size,0,none⟩ 1 1 (aR [(v:Int)]) rfl rfl (cC (show aF (wr.alloc (.cells #[.int .i64 (v:Int)] 3)).drew wr.heap.size _ from(aF.new wr [.int .i64 (v:Int)] 3).drew)) (bZ _) bH oz dc ?_;intro g6 c6 w6 hr6 hc6 hg6;have hc7:aG (fun k=>((S 1 u).getD kN).ownBlock=some k) wr w6:=by rw[hsv];exact(aG.of hbB).trans hc6
       have hg7:∀ k,(Value.slice (some ⟨g6,0,none⟩) ((kD (nJ f pre) 0 v u 1 u).length+1) c6).ownBlock=some k->((S 1 u).getD kN).ownBlock=some k\/wr.heap.size<=k:=fun k hk=>by
        exact aGm
       have hnb:∀ k,k<zb+4->¬((S 1 u).getD kN).ownBlock=some k:=fun k hk e=>by
        obtain⟨s,hs,e⟩:=hg.ownBlock (c:=1) (v:=u) dc e;have:=hg.low 1 u s k dc hs e;omega
       obtain⟨w7,hrun7,hm7,hc8⟩:=((hg.map 1 dc).chg hc7 (hnb _ vB)).set Tryz.mapS bH (dI (show u<1024 by omega)) (.slice (some ⟨g6,0,none⟩) ((kD (nJ f pre) 0 v u 1 u).length+1) c6);obtain⟨hG2,hK2⟩:=hg.push dc oz hc7 hr6 hg7 oz hm7 hc8;have hB6:w6.cell? ⟨w.heap.size+5,1,none⟩=some (.map (some (w.heap.size+2+1))):=(hc7.cellAt 1 hx.1 (hnb _ vB)).trans hx.2.2.1;have hB7:w7.cell? ⟨w.heap.size+5,1,none⟩=some (.map (some (w.heap.size+2+1))):=(hc8.cellAt 1 (by have:=hc7.size;have:=hx.1;omega) oz).trans hB6
       try simp only[Nat.add_zero]at hB6 hB7 hrun7
       have HG2:=qd (hT.kept hK2 ⟨_,_,Nat.succ_le_succ hq,hG2⟩);have HK2:=qd hK2;clear hG2 hK2 hg7 hnb hc7 hr6 hc6 hm7 hc8;refine hK.out _ _ ?_ (fun hHeld=>?_);(focus((try dsimp only);any_goals (assumption)));clear hK K;try simp only[Act.put,SU]
       (refine wpAnyH_ready (rs:=[10]) kr si ?_;refine iB rfl (fun K hK=>?_) AllReadyH.nil)
       go_simp
       refine hK.out _ _ ?_ (fun hHeld=>?_);(focus((try dsimp only);any_goals (assumption)));clear hK K;try simp only[Act.put,SU]
       refine aO kr ?_;exact hK0.out _ _ ⟨rfl,g6,c6,rfl,HG2,HK2⟩
     rintro g6 c6 w7 ⟨hG7,hK7⟩;clear hx0 hlk hlk2 hx hrow hsv hbA hbB hg hq;have KF:=HK7.out.trans hK7.out;gi_wp2;refine⟨fun k h1 h2=>KF.1.block k oz (HN0 k oz oz),KF,?_⟩;exact hG7.out.cast (fun c k hc=>aMs f pre u v hdb c k hc) (by simp;omega)
    ·by_cases hav:a=v
     ·subst hav;have hdb:kL f a u=true:=(hok.domIff hur).2 (hiff.2 (.self a));have q2:((a:Int)==(a:Int))=true:=si
      gi_wp2;have hl9:(kD (nJ f pre) 0 a u 2 a).length<=4096:=by
       rw[lB (by omega)];have h1:=xY f pre 2 a;exact aCu
      obtain⟨hT,-⟩:∃ h:nH f.code.length w wr zb nb nc near (kD (nJ f pre) 0 a u) (2*pre.length+1),True:=⟨hG7.out,trivial⟩
      obtain⟨q,S,hq,hg⟩:=hT.gr;have hx:=gV hT.gb;have hrow:=hg.row (c:=2) (v:=a) dc;obtain⟨sa,sc,hsv⟩:∃ sa sc,(S 2 a).getD kN=.slice sa (kD (nJ f pre) 0 a u 2 a).length sc:=by
       exact aJ6
      have hbA:Below wr.heap.size wr wr.drew:=(Below.refl _ wr).drew;have hbB:Below wr.heap.size wr (wr.alloc (.cells #[.int .i64 (u:Int)] 3)).drew:=eN.drew;have hlk:=((hg.map 2 dc).below hbA).get Tryz.mapS pE (dI (show a<1024 by omega));have hlk2:=((hg.map 2 dc).below hbB).get Tryz.mapS pE (dI (show a<1024 by omega));rw[fC,hsv]at hlk hlk2
      try simp only[Nat.add_zero]at hlk hlk2
      rw[hsv]at hrow;have hx0:wr.cell? ⟨w.heap.size+5,2,none⟩=some (.map (some (w.heap.size+2+2))):=hx.2.2.2.1
      try simp only[Nat.add_zero]at hx0
      refine aAs (fun _ _ w'=>Hid (nH f.code.length w w' zb nb nc near (kD (kD (nJ f pre) 0 a u) 2 a u) (2*pre.length+1+1))/\Hid (KpE (pI (w.heap.size+2)) wr w')) ?_;apply Exists.intro;constructor
      ·refine fR (fun w'=>w'.cell? ⟨w.heap.size+5,2,none⟩=some (.map (some (w.heap.size+2+2)))) kr kr hx0 ?_;intro K0 hK0 hHeld
       try simp only[Nat.add_zero]at hHeld
       (refine fH 0 rfl ?_ gD;try simp only[Act.put,SU])
       (refine fH 1 rfl ?_ gD;try simp only[Act.put,SU])
       (refine fH 2 rfl ?_ gD;try simp only[Act.put,SU])
       (refine fH 3 rfl ?_ gD;try simp only[Act.put,SU])
       (refine fH 4 rfl ?_ gD;try simp only[Act.put,SU])
       (refine fH 5 rfl ?_ gD;try simp only[Act.put,SU])
       (refine fH 7 rfl ?_ gD;try simp only[Act.put,SU])
       refine wpAnyH_ready (rs:=[6,8]) kr si ?_;refine iB rfl (fun K hK=>?_) (iB rfl (fun K hK=>?_) AllReadyH.nil)
       all_goals go_simp
       refine hK.out _ _ ?_ (fun hHeld=>?_);(focus((try dsimp only);any_goals (first|assumption|go_keep)));clear hK K;try simp only[Act.put,SU]
       (refine wpAnyH_ready (rs:=[8]) kr si ?_;refine iB rfl (fun K hK=>?_) AllReadyH.nil)
       go_simp
       refine hK.out _ _ ?_ (fun hHeld=>?_);(focus((try dsimp only);any_goals (first|assumption|go_keep)));clear hK K;try simp only[Act.put,SU]
       rotate_left;refine hK.out _ _ ?_ (fun hHeld=>?_);(focus((try dsimp only);any_goals (first|assumption|go_keep)));clear hK K;try simp only[Act.put,SU]
       (refine wpAnyH_ready (rs:=[6]) kr si ?_;refine iB rfl (fun K hK=>?_) AllReadyH.nil)
       go_simp
       refine hK.out _ _ ?_ (fun hHeld=>?_);(focus((try dsimp only);any_goals (first|assumption|go_keep)));clear hK K;try simp only[Act.put,SU]
       all_goals
        (refine wpAnyH_ready (rs:=[9]) kr si ?_;refine iB rfl (fun K hK=>?_) AllReadyH.nil)
        refine iN rfl (.tmp 49) (.tmp 51) 50 3 1 8 (.int .i64 0) rfl Tryz.underlying50 Tryz.infoI rfl dc (.slice sa (kD (nJ f pre) 0 a u 2 a).length sc) _ _ rfl (aA hbB hrow) ⟨wr.heap.size,0,none⟩ 1 1 (aR [(u:Int)]) rfl rfl (cC (show aF (wr.alloc (.cells #[.int .i64 (u:Int)] 3)).drew wr.heap.size _ from(aF.new wr [.int .i64 (u:Int)] 3).drew)) (bZ _) bH oz dc ?_;intro g6 c6 w6 hr6 hc6 hg6;have hc7:aG (fun k=>((S 2 a).getD kN).ownBlock=some k) wr w6:=by rw[hsv];exact(aG.of hbB).trans hc6
        have hg7:∀ k,(Value.slice (some ⟨g6,0,none⟩) ((kD (nJ f pre) 0 a u 2 a).length+1) c6).ownBlock=some k->((S 2 a).getD kN).ownBlock=some k\/wr.heap.size<=k:=fun k hk=>by
         exact aGm
        have hnb:∀ k,k<zb+4->¬((S 2 a).getD kN).ownBlock=some k:=fun k hk e=>by
         obtain⟨s,hs,e⟩:=hg.ownBlock (c:=2) (v:=a) dc e;have:=hg.low 2 a s k dc hs e;omega
        obtain⟨w7,hrun7,hm7,hc8⟩:=((hg.map 2 dc).chg hc7 (hnb _ vB)).set Tryz.mapS bH (dI (show a<1024 by omega)) (.slice (some ⟨g6,0,none⟩) ((kD (nJ f pre) 0 a u 2 a).length+1) c6);obtain⟨hG2,hK2⟩:=hg.push dc oz hc7 hr6 hg7 oz hm7 hc8;have hB6:w6.cell? ⟨w.heap.size+5,2,none⟩=some (.map (some (w.heap.size+2+2))):=(hc7.cellAt 2 hx.1 (hnb _ vB)).trans hx.2.2.2.1;have hB7:w7.cell? ⟨w.heap.size+5,2,none⟩=some (.map (some (w.heap.size+2+2))):=(hc8.cellAt 2 (by have:=hc7.size;have:=hx.1;omega) oz).trans hB6
        try simp only[Nat.add_zero]at hB6 hB7 hrun7
        have HG2:=qd (hT.kept hK2 ⟨_,_,Nat.succ_le_succ hq,hG2⟩);have HK2:=qd hK2;clear hG2 hK2 hg7 hnb hc7 hr6 hc6 hm7 hc8;refine hK.out _ _ ?_ (fun hHeld=>?_);(focus((try dsimp only);any_goals (assumption)));clear hK K;try simp only[Act.put,SU]
        (refine wpAnyH_ready (rs:=[10]) kr si ?_;refine iB rfl (fun K hK=>?_) AllReadyH.nil)
        go_simp
        refine hK.out _ _ ?_ (fun hHeld=>?_);(focus((try dsimp only);any_goals (assumption)));clear hK K;try simp only[Act.put,SU]
        refine aO kr ?_;exact hK0.out _ _ ⟨rfl,g6,c6,rfl,HG2,HK2⟩
      rintro g6 c6 w7 ⟨hG7,hK7⟩;clear hx0 hlk hlk2 hx hrow hsv hbA hbB hg hq;have KF:=HK7.out.trans hK7.out;gi_wp2;refine⟨fun k h1 h2=>KF.1.block k oz (HN0 k oz oz),KF,?_⟩;exact hG7.out.cast (fun c k hc=>aO1 f pre u a hdb c k hc) (by simp;omega)
     ·have hal:a<f.code.length:=lA.lt hn0 har;have q1:¬(a:Int)=(v:Int):=oz
      have q2:((a:Int)==(v:Int))=false:=oI
      have q3:(0:Int)<=(a:Int):=oz
      have q4:(a:Int)<(f.code.length:Int):=oz
      have c0:=(dG hG7.out.zx)
      rcases hok.step hav har hal with⟨hy,hno⟩|⟨y,hy,hyr,hrk,hyi⟩
      ·have c1:=aH hG7.out.nr (aV hy);gi_wp2;refine⟨⟨trivial,.inl ⟨rfl,fun k=>hno (hiff.1 k)⟩⟩,?_⟩;go_light;rw[aSa,aDc];omega
      ·have c1:=aH hG7.out.nr (aV hy);gi_wp2;refine⟨⟨trivial,.inr ⟨y,rfl,hyr,hiff.trans hyi⟩⟩,?_⟩;go_light;rw[aDc,aDc];omega
 ·rintro W7 hT hD;rw[hz4]at hD ⊢;have r3:=gV hT.res;have g3:=gV hT.gb;have s3:=uW hT.res;go_wp2;have l1:=hT.l1;have l2:=hT.l2;generalize hW8:World.setCell _ _ _=W8;have hc8:aG (· = w.heap.size+1) W7 W8:=by
   rw[<-hW8];exact(((aG.refl (· = w.heap.size+1) W7).setCell (p:=⟨w.heap.size+1,0,none⟩) (.inl rfl) _).setCell (p:=⟨w.heap.size+1,1,none⟩) (.inl rfl) _).setCell (p:=⟨w.heap.size+1,2,none⟩) (.inl rfl) _
  have hO8:aF W8 (w.heap.size+1) [.map (some (w.heap.size+2)),.map (some (w.heap.size+2+1)),.map (some (w.heap.size+2+2))]:=by
   rw[<-hW8];exact((hT.res.set 0 _ si).set 1 _ si).set 2 _ si
  have hD8:W8.heap[zb+2]? = some (.deferred (some [])):=by
   rw[<-hD];exact hc8.block _ (Array.getElem?_eq_some_iff.1 hD).1 oz
  obtain⟨q,S,hq,hg⟩:=hT.gr;have htn:=iF.put (b:=zb+2) W8 (zb+2) _ (.deferred none) lr hD8 rfl;have hg8:=(hg.chgLow hc8 (fun k e=>by omega)).turn htn oz;have hb8:Below w.heap.size w W8:=hT.bel.trans (hc8.below _ hT.bel.size (fun k hk e=>by omega));refine⟨si,.inl ⟨_,_,rfl,run_takeDeferred hD8,?_⟩⟩;exact⟨_,aKu rfl rfl (hO8.turn htn oz),w.heap.size+2,zb+4,q,S,rfl,hb8.trans (htn.below.mono oz),oz,hg8⟩
end
/-- what a graph's lists hold -/
structure aI6 (G:Nat->Nat->List Int):Prop where
 el:∀ c u x,x∈G c u->∃ k:Nat,x=k/\k<1024
 ln:∀ c u,(G c u).length<=4096
 ky:∀ c u x,x∈G c u->u<1024
def xS (G:Nat->Nat->List Int) (c:Nat):Int->List Int:=fun i=>G c i.toNat
open Classical in
noncomputable def eG (G:Nat->Nat->List Int) (v:Nat):Bool:=decide (Cl (xS G 1) (fun _=>false) (G 1 v) v)
open Classical in
theorem oV {G:Nat->Nat->List Int}{v:Nat}:eG G v=true↔Cl (xS G 1) (fun _=>false) (G 1 v) v:=by unfold eG;exact decide_eq_true_iff
theorem aEr {G:Nat->Nat->List Int}{v:Nat}(h:Cl (xS G 1) (fun _=>false) (G 1 v) v):eG G v=true:=oV.2 h
theorem oN {G:Nat->Nat->List Int}{v:Nat}(h:¬Cl (xS G 1) (fun _=>false) (G 1 v) v):eG G v=false:=by
 cases e:eG G v with
 | false=>rfl
 | true=>exact absurd (oV.1 e) h
theorem Cl.nat {G:Nat->Nat->List Int}{c v:Nat}{q:Nat}(hB:aI6 G) {b0:Int->Bool}{x:Int}(h:Cl (xS G c) b0 (G q v) x):∃ k:Nat,x=k/\k<1024:=by
 cases h with
 | start _ h=>exact hB.el _ _ _ h
 | step y _ h1 h2 h3=>exact hB.el _ _ _ h3
noncomputable def GL (f:aC):Nat->Nat->List Int:=nJ f (aW f)
theorem pG (f:aC) (c u:Nat) (x:Int) (h:x∈GL f c u):∃ k:Nat,x=k/\k<f.code.length/\u<f.code.length/\(if c=1 then jL f u k else jL f k u):=by
 have key:∀ e∈aW f,∃ a b:Nat,e=(a,(b:Int))/\a<f.code.length/\b<f.code.length/\jL f a b:=fun e he=>by
  obtain⟨v,hv,h1,h2⟩:=kT f e he;obtain⟨a,b⟩:=e;dsimp only at hv h2;subst hv;exact⟨a,v,rfl,h2,h1,((lY f a v).1 he).2⟩
 unfold GL nJ at h;split at h
 ·unfold dV at h;obtain⟨e,he,rfl⟩:=List.mem_map.1 h;obtain⟨he,hq⟩:=List.mem_filter.1 he;obtain⟨a,b,rfl,h1,h2,h3⟩:=key e he;have h9:(b:Int)=u:=by simpa using hq
  have:b=u:=oz
  subst this;exact⟨a,rfl,h1,h2,by rw[if_neg (by omega)];exact h3⟩
 ·split at h
  ·obtain⟨e,he,rfl⟩:=List.mem_map.1 h;obtain⟨he,hq⟩:=List.mem_filter.1 he;obtain⟨a,b,rfl,h1,h2,h3⟩:=key e he;have:a=u:=by
    simp only[Bool.and_eq_true,beq_iff_eq]at hq;exact hq.1
   subst this;exact⟨b,rfl,h2,h1,by rw[if_pos (by assumption)];exact h3⟩
  ·obtain⟨e,he,rfl⟩:=List.mem_map.1 h;obtain⟨he,hq⟩:=List.mem_filter.1 he;obtain⟨a,b,rfl,h1,h2,h3⟩:=key e he;have:b=u:=by
    simp only[Bool.and_eq_true,beq_iff_eq]at hq;omega
   subst this;exact⟨a,rfl,h1,h2,by rw[if_neg (by assumption)];exact h3⟩
theorem aHb (f:aC) (hn:f.code.length<=1024):aI6 (GL f):=by
 refine⟨fun c u x h=>?_,fun c u=>?_,fun c u x h=>?_⟩
 ·obtain⟨k,h1,h2,_⟩:=pG f c u x h;exact⟨k,h1,oz⟩
 ·have h1:=xY f (aW f) c u;have h2:=jV f;unfold GL;omega
 ·obtain⟨k,_,_,h3,_⟩:=pG f c u x h;omega
open Classical in
/-- those of the loop of a head -/
noncomputable def gS (G:Nat->Nat->List Int) (h:Nat) (v:Int):Bool:=decide (v=h)||decide (Cl (xS G 0) (fun x=>decide (x=(h:Int))) (G 2 h) v)
/-- the numbers below n of which something is true, rising -/
def dQ (n:Nat) (p:Int->Bool):List Int:=((List.range n).filter fun k:Nat=>p (k:Int)).map Int.ofNat
structure cE where
 head:Nat
 parent:Int
 members:List Int
 backs:List Int
instance : Inhabited cE := ⟨⟨0, 0, [], []⟩⟩
noncomputable def bD (f:aC) (h:Nat):cE:=⟨h,-1,dQ f.code.length (gS (GL f) h),GL f 2 h⟩
def kH (G:Nat->Nat->List Int) (n:Nat):List Int:=dQ n fun h=>decide (G 2 h.toNat≠[])
def dP (x:dJ):Int:=if dK x.op&&(dM x.op.toNat).writes then x.a else -1
def eF (f:aC) (u:Int):dJ:=f.code.getD u.toNat default
/-- does a loop count? else what is wrong first, and where -/
def cS (f:aC) (l:cE):Int×Int :=
 if(eF f l.head).op≠17 then(71,l.head)else
 match l.backs.find? (fun u=>decide ((eF f u).op≠18)||decide ((eF f u).a≠(eF f l.head).a))with
 | some u=>(72,u)
 | none =>
  match l.members.find? (fun u=>decide (0<=dP (eF f u))&&((decide (dP (eF f u)=(eF f l.head).a) && !l.backs.contains u)||decide (dP (eF f u)=(eF f l.head).b)))with
  | some u=>(73,u)
  | none=>if l.members.any (fun u=>decide (u=(eF f l.head).n))then(74,l.head)else(0,0)
def jH (ls:List cE) (i k:Nat):Int:=(List.range k).foldl (fun cur k=>if i≠k/\(ls.getD k default).members.contains ((ls.getD i default).head:Int)=true/\(cur<0\/(ls.getD k default).members.length<(ls.getD cur.toNat default).members.length)then(k:Int)else cur) (-1)
def yK (ls:List cE):List cE:=(List.range ls.length).map fun i=>{ (ls.getD i default)with parent:=jH ls i ls.length }
noncomputable def cG (f:aC):List cE:=(kH (GL f) f.code.length).map fun h=>bD f h.toNat
/-- the loops of a function, or what is wrong first -/
noncomputable def jI (f:aC):List cE×Int×Int :=
 if 1024<f.code.length then([],97,1024)else
 match iG f.code.length (eG (GL f))with
 | some v=>([],70,v)
 | none =>
  match (cG f).find? (fun l=>decide ((cS f l).1≠0))with
  | some l=>([],cS f l)
  | none=>(yK (cG f),0,0)
theorem aRp {p:Prop}(h:p:=by
 exact h v w (by rw[Nat.add_zero,List.append_nil];exact hown) (aG.refl _ _) (fun k hk=>.inl hk)):p:=h
/-- append of what an own row holds, nil too -/
theorem dD {P:Program}{w:World}{ops:Array Oper}{rest:List Oper}{o:Oper}{a:Act}{Q:Exit->Act->World->Prop}(hgd:o.guard=none) (s x:Operand) (t e size bytes:Nat) (z:Value)
 (ho:o.op=.call { callee:=.builtin .append,args:=#[s,x],argTypes:=#[t,t] }) (ht:P.underlying t=some (.slice e)) (hinfo:(P.info? e).map (fun i=>(i.zero,i.size,i.bytes))=some (some z,size,bytes)) (hzs:z.cells.size=size) (hsz:0<size)
 (v:Value) (n:Nat) (xs:List Value) (hs:a.eval s=v) (hown:w.ownsRow 0 e size v n xs)
 (y:Value) (m:Nat) (news:List Value) (hx:a.eval x=y) (hy:w.ownsRow 0 e size y m news) (hnil:m=0->y=.slice none 0 0) (h1:∀ u∈news,u.oneCell'=true)
 (h63:n+m<=maxLen) (hbytes:(n+m)*bytes<=140737488355328)
 (h:∀ v' w',w'.ownsRow 0 e size v' (n+m) (xs++news)->aG (fun k=>v.ownBlock=some k) w w'->(∀ k,v'.ownBlock=some k->v.ownBlock=some k\/k=w.heap.size)->wpList P ops Q rest (a.put o.dst v') w'):wpList P ops Q (o::rest) a w:=by
 by_cases hm:m=0
 ·subst hm;have hnews:news=[]:=List.eq_nil_of_length_eq_zero (by rw[hy.1];simp);subst hnews;refine wJ hgd s x t e size bytes z ho ht hinfo v n xs hs hown (by rw[hx,hnil rfl]) ?_;exact aRp
 ·obtain⟨g,c,rfl,_⟩:=bB hy oz;refine bO hgd s x t e size bytes z ho ht hinfo hzs hsz v n xs hs hown ⟨g,0,none⟩ m c news hx hy.1 (fun j u hu=>hy.cells (g:=g) rfl j u hu) h1 h63 hbytes oz ?_;intro g' cap' w' h2 h3 h4;refine h _ w' h2 h3 (fun k hk=>?_);have e:g'=k:=Option.some.inj hk;subst e;exact h4
def iV (been:Int->Bool):Int->Option Value:=fun i=>if been i then some (.agg #[])else none
theorem uD (been:Int->Bool) (a:Int):tV (iV been) a (.agg #[])=iV (gJ been a):=by
 funext i;unfold tV iV gJ;by_cases h:i=a
 ·subst h;simp
 ·simp[h]
theorem nZ (been:Int->Bool) (a:Int):(iV been a).getD (.agg #[])=.agg #[]/\(iV been a).isSome=been a:=by
 unfold iV;cases been a<;>simp
theorem aRi (w:World):(zeroValue 111).run Tryz.prog w=.ok (.agg #[]) w:=kr
theorem Tryz.mapU:Tryz.prog.underlying 110=some (.map 3 111):=kr
theorem bG.nil {w:World}{lo b0 n c v:Nat}{G:Nat->Nat->List Int}{S:Nat->Nat->Option Value}(hg0:bG w lo b0 n G S) (hc:c<3):(G c v).length=0->(S c v).getD kN=.slice none 0 0:=fun h=>by
 have hrow:=hg0.row (c:=c) (v:=v) hc;rcases bU hrow with⟨h1,_⟩|⟨g,cp,h1,h2,_⟩
 ·exact h1
 ·have:=hg0.ent c v hc;cases hs:S c v with
  | none=>rfl
  | some s =>
   have:=this.1 (by rw[hs];rfl);exact absurd (List.eq_nil_of_length_eq_zero h) this
theorem aM8 {p:Prop}(h:p:=by
 intro j hj;rcases hg3 j hj with h|h
 ·have:=hvg2 _ h;omega
 ·omega):p:=h
theorem aLk (lo b0 n:Nat) (G:Nat->Nat->List Int) (S:Nat->Nat->Option Value) (w:World) (hg:bG w lo b0 n G S) (hB:aI6 G) (v:Nat) (hv:v<1024) :
 Calls Tryz.prog 92 #[.agg #[.map (some b0),.map (some (b0+1)),.map (some (b0+2))],.int .i64 v] w fun e w'=>e=.returned (.bool (eG G v))/\Below w.heap.size w w':=by
 have hmm:=@run_makeMap Tryz.prog;have HG:=qd hg;clear hg;have hvi:=dI hv;go_enter Tryz.func92,Tryz.ntmps92;go_upto_region 2 with(fail)
 generalize hW0:World.alloc _ _=W0;have hb0:Below w.heap.size w W0:=by rw[<-hW0];exact bel
 have OB:aF W0 w.heap.size [.map (some b0),.map (some (b0+1)),.map (some (b0+2))]:=mR
 have OM:bY W0 (w.heap.size+1) 0 (iV (fun _=>false)):=by
  rw[<-hW0];have e:iV (fun _=>false)=fun _=>none:=by funext i;simp[iV]
  rw[e];have h:=bY.made (w.alloc (.cells #[.map (some b0),.map (some (b0+1)),.map (some (b0+2))] 106))
  rwa [World.size_alloc]at h
 have hz0:W0.heap.size=w.heap.size+2:=by rw[<-hW0];simp
 clear hW0 hmm;have hg0:=HG.out.below hb0;have b3:=gV OB;have hlk:=(hg0.map 1 dc).get Tryz.mapS pE hvi;rw[fC]at hlk;have hrow:=hg0.row (c:=1) (v:=v) dc;have hnil:(G 1 v).length=0->(S 1 v).getD kN=.slice none 0 0:=fun h=>by
  rcases bU hrow with⟨h1,_⟩|⟨g,c,h1,h2,_⟩
  ·exact h1
  ·have:=(hg0.ent 1 v dc)
   cases hs:S 1 v with
   | none=>rfl
   | some s =>
    have:=this.1 (by rw[hs];rfl);exact absurd (List.eq_nil_of_length_eq_zero h) this
 have hln:=hB.ln 1 v;have HG0:=qd hg0;have HB0:=qd OB;have HM0:=qd OM;have HR0:=qd hrow;clear hg0 OB OM hrow;generalize (S 1 v).getD kN=sv at *;go_wp2_with (first|(at_builtin;refine dD rfl (.const (.slice none 0 0)) (.tmp 14) 50 3 1 8 (.int .i64 0) rfl Tryz.underlying50 Tryz.infoI rfl dc (.slice none 0 0) 0 [] rfl (World.ownsRow_nil _ _ _ _) sv (G 1 v).length (aR (G 1 v)) rfl HR0.out hnil (bZ _) bH oz ?_;intro u6 w1 hr1 hc1 hg1)|fail)
 have hb01:Below W0.heap.size W0 w1:=hc1.below _ lr (fun k _ e=>by cases e);have hz1:=hb01.size;have hb1:Below w.heap.size w w1:=hb0.trans (hb01.mono oz);have hg1':∀ j,u6.ownBlock=some j->w.heap.size+2<=j:=fun j hj=>by
  rcases hg1 j hj with h|h
  ·cases h
  ·omega
 rw[Nat.zero_add,List.nil_append]at hr1;have HB1:=qd (HB0.out.below hb01);have HM1:=qd (HM0.out.below hb01);have HR1:=qd hr1;have HS:=qd (mE.start (nx:=xS G 1) (b0:=fun _=>false) (t0:=G 1 v));have hk0:iU (fun _=>false) (G 1 v)<=8396800:=aE4 oz;have hz1':w.heap.size+2<=w1.heap.size:=oz
 clear HG0 HB0 HM0 HR0 hr1 hc1 hg1 hb01 hb0 hz1 hz0 hlk b3 hnil
 go_loopg [6] (iU (fun _=>false) (G 1 v)) (fun k v6 wr=>∃ (been:Int->Bool) (todo:List Int) (m:Nat),k=iU been todo/\Hid (mE (xS G 1) (fun _=>false) (G 1 v) been todo)/\been v=false/\m+k<=8396800/\Below w.heap.size w wr/\w.heap.size+2<=wr.heap.size/\Hid (aF wr w.heap.size [.map (some b0),.map (some (b0+1)),.map (some (b0+2))])/\Hid (bY wr (w.heap.size+1) m (iV been))/\(∀ j,v6.ownBlock=some j->w.heap.size+2<=j)/\Hid (wr.ownsRow 0 3 1 v6 todo.length (aR todo)))
 case atStart=>exact⟨_,_,0,rfl,HS,rfl,oz,hb1,hz1',HB1,HM1,hg1',HR1⟩
 case round =>
  clear hb1 hz1' HB1 HM1 hg1' HR1 HS hk0;obtain⟨been,todo,m,rfl,hI,hbv,hm,hbr,hz,hb,hM,hvb,ht⟩:=hrel;have b3:=gV hb.out;rcases lD todo with rfl|⟨t,x,rfl⟩
  ·obtain⟨va,vc,rfl⟩:∃ va vc,u6=.slice va 0 vc:=by
    exact aHj
   go_wp2;go_ret;go_light;refine⟨?_,hbr⟩;have hno:eG G v=false:=oN fun hc=>by
    have:=(hI.out.done (v:Int)).2 (.inr hc);rw[hbv]at this;cases this
   rw[hno];rfl
  ·have hln2:(t++[x]).length=t.length+1:=si
   have hlt:t.length+1<=8396800:=by
    have:=qV (been:=been) (t:=t++[x]);rw[hln2]at this;omega
   have hT2:=ht.out;rw[hln2]at hT2;obtain⟨g,c,rfl,hgc,hgm,hgl⟩:=bB hT2 oz;have hgm':c<=9223372036854775807:=hgm;have t0:=aH hT2 (aV (show(t++[x])[t.length]? = some x by simp));have hw1:IntKind.i64.wrap ((t.length:Int)+1-1)=(t.length:Int):=tU
   have j1:(0:Int)<(t.length:Int)+1:=oz
   obtain⟨a,rfl,ha⟩:=Cl.nat hB (hI.out.tr x si);have hpop:=pL hT2 t.length oz;rw[Nat.mul_one,show(aR (t++[(a:Int)])).take t.length=aR t by rw[bK,<-pX t,List.take_left]]at hpop;have hvg:=hvb g rfl;have HP:=qd hpop;clear hpop hT2 ht;by_cases hav:a=v
   ·subst hav;have hc:=aEr (hI.out.tr (a:Int) si);have q2:((a:Int)==(a:Int))=true:=si
    go_wp2;go_ret;go_light;exact⟨by rw[hc];rfl,hbr⟩
   ·have q1:¬(a:Int)=(v:Int):=oz
    have q2:((a:Int)==(v:Int))=false:=oI
    have hlk:=hM.out.getOk Tryz.mapU aRi (dI ha);rw[(nZ been a).1,(nZ been a).2]at hlk;have hmk:=qd (fun hb=>hI.out.mark (a:=(a:Int)) hb);have hdp:=qd (fun hb=>hI.out.drop (a:=(a:Int)) hb);have hlm:=qd (fun(hb:been (a:Int)=false)=>yP (nx:=xS G 1) (been:=been) (t:=t) ha hb (hB.ln 1 _));have hld:=qd (aAf (been:=been) (t:=t) (a:=(a:Int)));cases hba:been (a:Int)
    ·rw[hba]at hlk;go_upto_region 10 with(fail)
     have hbA:Below wr.heap.size wr (wr.alloc (.cells #[] 111)):=eN;generalize hWA:wr.alloc (.cells #[] 111)=WA at *;have hzA:=hbA.size;have hmq:m<maxLen:=by unfold maxLen;omega
     obtain⟨W2,hrun2,hM2,hc2⟩:=(hM.out.below hbA).set Tryz.mapU hmq (dI ha) (.agg #[]);rw[uD]at hM2;have hz2:=hc2.size;have hbw:Below w.heap.size w WA:=hbr.trans (hbA.mono oz);have hb2:Below w.heap.size w W2:=hbw.trans (hc2.below _ oz (fun k hk e=>by omega));have OB2:=hc2.own (hb.out.below hbA) oz;have b3':=gV OB2;have P2:=aN hc2 (aA hbA HP.out) (fun k hk e=>by have h7:g=k:=eL hk;omega);have hg2:=HG.out.below hb2;have hlk2:=(hg2.map 1 dc).get Tryz.mapS pE (dI ha);rw[fC]at hlk2;have hrow2:=hg2.row (c:=1) (v:=a) dc;have hnil2:=hg2.nil (c:=1) (v:=a) dc;have hln3:=hB.ln 1 a;have hlm2:=hlm.out hba;have hmk2:=qd (hmk.out hba);unfold xS at hlm2;rw[Int.toNat_natCast]at hlm2;have hnx:xS G 1 (a:Int)=G 1 a:=by unfold xS;rw[Int.toNat_natCast]
     have HNX:=qd hnx;clear hnx;have hsl:(t++G 1 a).length<=iU (gJ been (a:Int)) (t++G 1 a):=qV;rw[List.length_append]at hsl;have HLM:=qd hlm2;have HR2:=qd hrow2;have HP2:=qd P2;have HO2:=qd OB2;have HM2:=qd hM2;have hz3:w.heap.size+2<=W2.heap.size:=oz
     have hvg2:∀ k,(Value.slice (some ⟨g,0,none⟩) t.length c).ownBlock=some k->k=g:=fun k hk=>by simpa[Value.ownBlock,eq_comm]using hk
     clear hM2 OB2 P2 hrow2 hg2 hlk b3 hb HP hM hbA hWA hc2 hbw hbr hmk hdp hlm hld hI hlm2;generalize (S 1 a).getD kN=sv2 at *;go_wp2_with (first|(at_builtin;refine dD rfl (.tmp 44) (.tmp 48) 50 3 1 8 (.int .i64 0) rfl Tryz.underlying50 Tryz.infoI rfl dc _ t.length (aR t) rfl HP2.out sv2 (G 1 a).length (aR (G 1 a)) rfl HR2.out hnil2 (bZ _) bH oz ?_;intro u7 w3 hr3 hc3 hg3)|fail)
     have hz4:=hc3.size;rw[<-bK,<-List.length_append]at hr3
     go_roundg (iU (gJ been (a:Int)) (t++G 1 a))
     case measure=>exact HLM.out
     case rel =>
      refine⟨gJ been (a:Int),t++G 1 a,m+1,rfl,qd (HNX.out▸hmk2.out),?_,by have:=HLM.out;omega,hb2.trans (hc3.below _ hb2.size (fun k hk e=>by have:=hvg2 k e;omega)),oz,qd (hc3.own HO2.out (fun e=>by have:=hvg2 _ e;omega)),qd (HM2.out.chg hc3 (fun e=>by have:=hvg2 _ e;omega)),?_,qd hr3⟩
      ·simp[gJ,hbv];omega
      ·exact aM8
    ·rw[hba]at hlk;go_wp2
     go_roundg (iU been t)
     case measure=>exact hld.out
     case rel =>
      have hbA:Below wr.heap.size wr (wr.alloc (.cells #[] 111)):=eN;have:=hbA.size;exact⟨been,t,m,rfl,qd (hdp.out hba),hbv,by have:=hld.out;omega,hbr.trans (hbA.mono oz),oz,qd (hb.out.below hbA),qd (hM.out.below hbA),fun j hj=>hvb j hj,qd (aA hbA HP.out)⟩
theorem cI.ofRow {B n:Nat}{W:World}{v:Value}{l:List Int}(h:W.ownsRow 0 3 1 v n (aR l)) (hl:∀ x∈l,aM x) (hB:∀ k,v.ownBlock=some k->k<B):∃ a c,v=.slice a n c/\cI B W a n l:=by
 have hn:l.length=n:=by have:=h.1;rw[pX]at this;omega
 rcases bU h with⟨rfl,rfl,e⟩|⟨g,c,rfl,h1,h2,h3⟩
 ·exact⟨none,0,rfl,hn,by unfold maxLen;omega,0,0,fun h=>by omega,fun i hi=>by omega⟩
 ·refine⟨_,c,rfl,hn,oz,g,0,fun _=>⟨rfl,hB g rfl⟩,fun i hi=>?_⟩;have e:l[i]? = some (l.getD i 0):=by rw[List.getD_eq_getElem?_getD,List.getElem?_eq_getElem (by omega)];rfl
  refine⟨by rw[Nat.zero_add];exact aH h (aV e),?_⟩;exact hl _ (List.mem_of_getElem? e)
/-- a loop's four cells: its members and where its back edges go from are read -/
def tR (B:Nat) (w:World) (b o:Nat) (l:cE):Prop:=∃ ma mc ba bc,w.cell? ⟨b,o,none⟩=some (.int .i64 l.head)/\w.cell? ⟨b,o+1,none⟩=some (.int .i64 l.parent)/\w.cell? ⟨b,o+2,none⟩=some (.slice ma l.members.length mc)/\w.cell? ⟨b,o+3,none⟩=some (.slice ba l.backs.length bc) /\
 cI B w ma l.members.length l.members/\cI B w ba l.backs.length l.backs
theorem tR.same {B b o:Nat}{w w':World}{l:cE}(h:tR B w b o l) (s:aQ B w w') (hb:b<B):tR B w' b o l:=by
 obtain⟨ma,mc,ba,bc,h0,h1,h2,h3,h4,h5⟩:=h;exact⟨ma,mc,ba,bc,by rw[s _ _ hb];exact h0,by rw[s _ _ hb];exact h1,by rw[s _ _ hb];exact h2,by rw[s _ _ hb];exact h3,h4.same s,h5.same s⟩
def aS2 (B:Nat) (w:World) (b o n:Nat) (ls:List cE):Prop:=ls.length=n/\n<=maxLen/\b<B/\∀ i,i<n->tR B w b (o+i*4) (ls.getD i default)
def jM (ls:List cE) (x:Int) (k:Nat):Int:=(List.range k).foldl (fun d k=>if(ls.getD k default).members.contains x then d+1 else d) 0
def aGq (ls:List cE) (x:Int):Int:=jM ls x ls.length
theorem oQ (ls:List cE) (x:Int) (k:Nat):jM ls x (k+1)=if(ls.getD k default).members.contains x then jM ls x k+1 else jM ls x k:=by
 unfold jM;rw[List.range_succ,List.foldl_append];rfl
theorem aG9 (ls:List cE) (x:Int) (k:Nat):0<=jM ls x k/\jM ls x k<=k:=by
 induction k with
 | zero=>exact⟨Int.le_refl _,Int.le_refl _⟩
 | succ k ih=>rw[oQ];split<;>omega
theorem xN {l:List Int}{x:Int}{i:Nat}(hi:i<l.length) (h:l.getD i 0=x):l.contains x=true:=by
 rw[List.getD_eq_getElem?_getD,List.getElem?_eq_getElem hi]at h;simp only[Option.getD_some]at h;subst h;simp
theorem xM {l:List Int}{x:Int}(h:∀ i,i<l.length->l.getD i 0≠x):l.contains x=false:=by
 rw[<-Bool.not_eq_true,List.contains_iff_mem];intro hm;obtain⟨i,hi,e⟩:=List.getElem_of_mem hm;exact h i hi (by rw[List.getD_eq_getElem?_getD,List.getElem?_eq_getElem hi];exact e)
theorem aLj (B b o c n:Nat) (ls:List cE) (x:Int) (w:World) (hB:B<=w.heap.size) (hl:aS2 B w b o n ls) :
 Calls Tryz.prog 54 #[.slice (some ⟨b,o,none⟩) n c,.int .i64 x] w fun e w'=>e=.returned (.int .i64 (aGq ls x))/\Below w.heap.size w w':=by
 obtain⟨hln,hnm,hbB,hcells⟩:=hl;have hnm':n<=9223372036854775807:=hnm;unfold aGq;rw[hln];have HC:=qd hcells;clear hcells;go_enter Tryz.func54,Tryz.ntmps54;go_wp2;go_loopw [5,12] (fun d i wr=>∃ k:Nat,k<=n/\i=.int .i64 k/\d=.int .i64 (jM ls x k)/\Below w.heap.size w wr) (fun d i _=>n-(intOf i).toNat)
 case atStart=>exact⟨0,Nat.zero_le _,rfl,rfl,Below.refl _ _⟩
 case round =>
  obtain⟨k,hk,rfl,rfl,hbr⟩:=hrel;have hzr:=hbr.size;by_cases hlt:k<n
  ·have d2:(k:Int)<(n:Int):=oz
   have hwk:IntKind.i64.wrap ((k:Int)+1)=(k:Int)+1:=IntWalk.i64_in _ oz;obtain⟨ma,mc,ba,bc,g0,g1,g2,g3,g4,g5⟩:=(HC.out k hlt).same (aQ.of' (hbr.mono hB)) hbB;have hd:=aG9 ls x k;have hwd:IntKind.i64.wrap (jM ls x k+1)=jM ls x k+1:=IntWalk.i64_in _ oz;have HD:=qd (oQ ls x k);have HL:=qd (fun i hi h=>@xN (ls.getD k default).members x i hi h);have HN:=qd (@xM (ls.getD k default).members x);obtain⟨h1,h2,mb,mo,h3,h4⟩:=g4;have h2':(ls.getD k default).members.length<=9223372036854775807:=h2;generalize (ls.getD k default).members=ms at *;generalize (ls.getD k default).backs=bs at *;clear g5;go_wp2;generalize hW1:World.alloc _ _=W1;have hb1:Below wr.heap.size wr W1:=by rw[<-hW1];exact bel
   have hzW:=hb1.size;clear hW1;go_loopw [5,19] (fun d i wx=>∃ j:Nat,j<=ms.length/\i=.int .i64 j/\d=.int .i64 (jM ls x k)/\(∀ i,i<j->ms.getD i 0≠x)/\Below W1.heap.size W1 wx) (fun d i _=>ms.length-(intOf i).toNat)
   case atStart=>exact⟨0,Nat.zero_le _,rfl,rfl,(fun i hi=>by omega),Below.refl _ _⟩
   case round =>
    rename_i wq;obtain⟨j,hj,rfl,rfl,hno,hbx⟩:=hrel;have hzx:=hbx.size;have hbw:Below w.heap.size w wr:=hbr.trans ((hb1.trans (hbx.mono oz)).mono oz);by_cases hjt:j<ms.length
    ·have d3:(j:Int)<(ms.length:Int):=oz
     have hwj:IntKind.i64.wrap ((j:Int)+1)=(j:Int)+1:=IntWalk.i64_in _ oz;obtain⟨rfl,hmB⟩:=h3 oz;have c0:=((hbx.cell (p:=⟨mb,mo+j,none⟩) (by show mb<_;omega)).trans (hb1.cell (p:=⟨mb,mo+j,none⟩) (by show mb<_;omega))).trans (h4 j hjt).1;by_cases he:ms.getD j 0=x
     ·have hc:=HL.out j hjt he;have q2:(x==x)=true:=si
      rw[he]at c0;have HH:=qd (HD.out.trans (if_pos hc));go_wp2;refine⟨⟨k+1,oz,si,by rw[HH.out],hbw⟩,?_⟩;go_light;exact ml
     ·have q2:(ms.getD j 0==x)=false:=by simpa using he
      have HE:=qd he;obtain⟨y,hy⟩:∃ y,y=ms.getD j 0:=⟨_,rfl⟩
      have HY:=qd hy.symm;rw[<-hy]at c0 q2 HE he;clear hy;go_wp2;refine⟨⟨j+1,oz,si,rfl,?_,hbx⟩,?_⟩
      ·intro i hi;by_cases e:i=j
       ·subst e;rw[HY.out];exact HE.out
       ·exact hno i oz
      ·go_light;exact ml
    ·have hjj:j=ms.length:=oz
     subst hjj;have d3:¬(ms.length:Int)<(ms.length:Int):=oz
     have hc:ms.contains x=false:=HN.out hno;have HH:=qd (HD.out.trans (if_neg (by rw[hc];simp)));go_wp2;refine⟨⟨k+1,oz,si,by rw[HH.out],hbw⟩,?_⟩;go_light;exact ml
  ·have hkk:k=n:=oz
   subst hkk;have d2:¬(k:Int)<(k:Int):=oz
   go_wp2;go_ret;go_light;exact⟨rfl,hbr⟩
theorem aOc {p:Prop}(h:p:=by
 go_enter Tryz.func94,Tryz.ntmps94;go_wp2_with (go_at_call 82;refine(rJ _ _).mono ?_;rintro e w1 ⟨rfl,rfl⟩)
 go_ret;exact⟨rfl,bel⟩):p:=h
theorem aIu (x:dJ) (w:World) (hr:eO w) :
 Calls Tryz.prog 94 #[nF x] w fun e w'=>e=.returned (.int .i64 (dP x))/\Below w.heap.size w w':=by
 obtain⟨op,a,b,c,n⟩:=x;unfold nF;have:=hr.1;by_cases hk:dK op=true
 ·have hk':=hk;unfold dK at hk';obtain⟨k,rfl⟩:=Int.eq_ofNat_of_zero_le (show 0<=op by grind);have hlt:k<20:=by grind
  obtain⟨_,_,_,_,_,_,q6⟩:=hr.2 k hlt;have hE:dP ⟨(k:Int),a,b,c,n⟩=if(dM k).writes then a else -1:=by unfold dP;rw[hk];simp
  rw[hE];generalize (dM k).writes=wr at *;cases wr
  ·exact aOc
  ·exact aOc
 ·have hk0:dK op=false:=by simpa using hk
  have hE:dP ⟨op,a,b,c,n⟩ = -1:=by unfold dP;rw[hk0];simp
  rw[hE];exact aOc
theorem yA {l:List Int}{p:Int->Bool}{j:Nat}(hj:j<l.length) (h:∀ i,i<j->p (l.getD i 0)=false) (hp:p (l.getD j 0)=true):l.find? p=some (l.getD j 0):=by
 rw[List.find?_eq_some_iff_getElem]
 grind
theorem xT {l:List Int}{p:Int->Bool}(h:∀ i,i<l.length->p (l.getD i 0)=false):l.find? p=none:=by
 rw[List.find?_eq_none];intro x hx;obtain⟨i,hi,rfl⟩:=List.getElem_of_mem hx
 grind
theorem hU {w:World}{k:Nat}{a b c d:Value}(h:aF w k [a,b,c,d]):k<w.heap.size/\w.cell? ⟨k,0,none⟩=some a/\w.cell? ⟨k,1,none⟩=some b/\w.cell? ⟨k,2,none⟩=some c/\w.cell? ⟨k,3,none⟩=some d/\w.frozen? ⟨k,0,none⟩=false/\w.frozen? ⟨k,1,none⟩=false/\w.frozen? ⟨k,2,none⟩=false/\w.frozen? ⟨k,3,none⟩=false :=
 ⟨h.1,h.2.1 0 _ rfl,h.2.1 1 _ rfl,h.2.1 2 _ rfl,h.2.1 3 _ rfl,h.2.2 0,h.2.2 1,h.2.2 2,h.2.2 3⟩
def kG (l:List Int) (j:Nat):Int->Bool:=fun x=>decide (x∈l.take j)
theorem aGu (l:List Int):iV (kG l 0)=fun _=>none:=by funext i;simp[iV,kG]
theorem aMv {p:Prop}(h:p:=by
 rw[List.take_add_one,List.getD_eq_getElem?_getD,List.getElem?_eq_getElem hj];rfl):p:=h
theorem zA {l:List Int}{j:Nat}(hj:j<l.length):gJ (kG l j) (l.getD j 0)=kG l (j+1):=by
 have h:l.take (j+1)=l.take j++[l.getD j 0]:=aMv
 unfold gJ kG
 grind
theorem aAj (l:List Int) (x:Int):kG l l.length x=l.contains x:=by
 unfold kG;simp
def gC (f:aC) (A:Int) (u:Int):Bool:=decide ((eF f u).op≠18)||decide ((eF f u).a≠A)
def eZ (f:aC) (A B:Int) (bk:List Int) (u:Int):Bool:=decide (0<=dP (eF f u))&&((decide (dP (eF f u)=A) && !bk.contains u)||decide (dP (eF f u)=B))
theorem aBx (f:aC) (l:cE):cS f l=if (eF f l.head).op≠17 then ((71:Int),(l.head:Int))else match l.backs.find? (gC f (eF f l.head).a)with
 | some u=>(72,u)
 | none=>match l.members.find? (eZ f (eF f l.head).a (eF f l.head).b l.backs)with
  | some u=>(73,u)
  | none=>if l.members.any (fun u=>decide (u=(eF f l.head).n))then(74,(l.head:Int))else(0,0):=rfl
theorem wF {p:Prop}(h:p:=by
 unfold eF;rw[Int.toNat_natCast]):p:=h
theorem aQb {p:Prop}(h:p:=by
 go_upto_region 3 with(fail)
 refine bC 3 kr kr ?_;simp only[TD];repeat(refine bS (fun K hK=>?_);go_simp;refine hK _ ?_;clear hK K)
 refine cF ?_;go_wp2;go_ret2;go_light;exact⟨rfl,bel⟩):p:=h
theorem sP {p:Prop}(h:p:=by
 rw[<-hW0];exact(aF.new' _ _ _ _ si).alloc _):p:=h
theorem aBj {p:Prop}(h:p:=by
 go_upto_region 20 with(fail)
 by_cases e5:(k:Int)=n
 ·have q5:((k:Int)==n)=true:=by simpa using e5
  go_wp2;refine⟨⟨j+1,oz,si,?_,qd (fun i hi=>?_),hb15.alloc oz _⟩,?_⟩
  ·rw[HTK.out];simp[e5]
  ·by_cases e:i=j
   ·subst e;rw[HU.out];exact HBF.out
   ·exact hno.out i oz
  ·go_light;exact ml
 ·have q5:((k:Int)==n)=false:=by simpa using e5
  go_wp2;refine⟨⟨j+1,oz,si,?_,qd (fun i hi=>?_),hb15.alloc oz _⟩,?_⟩
  ·rw[HTK.out];simp[e5]
  ·by_cases e:i=j
   ·subst e;rw[HU.out];exact HBF.out
   ·exact hno.out i oz
  ·go_light;exact ml):p:=h
theorem aAe {p:Prop}(h:p:=by
 rw[List.getD_eq_getElem?_getD,List.getElem?_eq_getElem hjt];rfl):p:=h
theorem aM2 {p:Prop}(h:p:=by
 clear HBD;cases isB
 all_goals(
  go_wp2_with fail
  all_goals go_ret2
  all_goals go_light
  all_goals exact⟨gH (by rw[Prod.eta,HE2.out]),bel⟩)):p:=h
theorem aPl {p:Prop}(h:p:=by
 rw[<-hku,List.take_add_one,List.getD_eq_getElem?_getD,List.getElem?_eq_getElem hjt];rfl):p:=h
theorem aUe {p:Prop}(h:p:=by
 have HG:=qd (HF.out (by rw[HU.out];exact hbad));clear HF;go_upto_region 8 with(fail)
 refine bC 17 kr kr ?_;simp only[TD];repeat(refine bS (fun K hK=>?_);go_simp;refine hK _ ?_;clear hK K)
 refine cF ?_;go_wp2;go_ret2;go_light;exact⟨gH (by rw[Prod.eta,HRES.out,HG.out];dsimp only;rw[HU.out]),bel⟩):p:=h
theorem aOe {p:Prop}(h:p:=by
 by_cases e:i=j
 ·subst e;rw[HU.out];exact hgood
 ·exact hno.out i oz):p:=h
theorem aGp (B:Nat) (hh:HF) (f:aC) (l:cE) (ma ba:Option Addr) (mc bc:Nat) (w:World) (hB:B<=w.heap.size) (hf:aZ B w hh f) (hr:eO w)
 (hm:cI B w ma l.members.length l.members) (hb:cI B w ba l.backs.length l.backs) (hh1:l.head<f.code.length) (hm1:∀ x∈l.members,∃ k:Nat,x=k/\k<f.code.length) (hb1:∀ x∈l.backs,∃ k:Nat,x=k/\k<f.code.length) (hn:f.code.length<=1024) :
 Calls Tryz.prog 53 #[aI hh f,.agg #[.int .i64 l.head,.int .i64 l.parent,.slice ma l.members.length mc,.slice ba l.backs.length bc]] w fun e w'=>e=.returned (.tuple #[.int .i64 (cS f l).1,.int .i64 (cS f l).2])/\Below w.heap.size w w':=by
 have hmm:=@run_makeMap Tryz.prog;obtain⟨pa,pl,pc,ca,cl,cc⟩:=hh;obtain⟨h1,h2,⟨hcl,hcm,cb,co,hcb,hcells⟩,h4,h5⟩:=hf;dsimp only at *;subst hcl;obtain⟨rfl,hcB⟩:=hcb oz;clear h2 h1 h4 h5;rw[aBx];unfold aI;dsimp only;have HC:=qd hcells;clear hcells;have HR:=qd hr;have HM1:=qd hm1;have HB1:=qd hb1;have HM:=qd hm;have HBk:=qd hb;clear hr hm1 hb1 hm hb;have hx0:=HC.out l.head hh1;have hca:eF f (l.head:Int)=f.code.getD l.head default:=wF
 rw[hca];generalize f.code.getD l.head default=x at *;obtain⟨op,a,b,c,n⟩:=x;obtain⟨⟨g0,g1,g2,g3,g4⟩,⟨i0,i1,i2,i3,i4⟩⟩:=hx0;dsimp only at *;obtain⟨head,parent,members,backs⟩:=l;dsimp only at *;have hhd:(head:Int)<(f.code.length:Int):=oz
 have hcbl:cb<w.heap.size:=oz
 by_cases hop:op=17
 ·subst hop;rw [if_neg (by simp)];obtain ⟨RES,hRES⟩:∃ r:Int×Int,r=(match backs.find? (gC f a)with
   | some u=>(72,u)
   | none=>match members.find? (eZ f a b backs)with
    | some u=>(73,u)
    | none=>if members.any (fun u=>decide (u=n))then(74,(head:Int))else(0,0)):=⟨_,rfl⟩
  rw[<-hRES];have HRES:=qd hRES;clear hRES;go_enter Tryz.func53,Tryz.ntmps53;go_upto_region 5 with(fail)
  generalize hW0:World.alloc _ _=W0;have hb0:Below w.heap.size w W0:=by rw[<-hW0];exact bel
  have hz0:W0.heap.size=w.heap.size+4:=by rw[<-hW0];simp
  have OF:aF W0 w.heap.size [.string f.name,.slice pa pl pc,.int .i64 f.regs,.int .i64 f.words,.slice (some ⟨cb,co,none⟩) f.code.length cc]:=by rw[<-hW0];exact(((aF.new _ _ _).alloc _).alloc _).alloc _
  have OL:aF W0 (w.heap.size+1) [.int .i64 head,.int .i64 parent,.slice ma members.length mc,.slice ba backs.length bc]:=by rw[<-hW0];exact((aF.new' _ _ _ _ si).alloc _).alloc _
  have OC:aF W0 (w.heap.size+1+1) [.int .i64 17,.int .i64 a,.int .i64 b,.int .i64 c,.int .i64 n]:=sP
  have OM:bY W0 (w.heap.size+1+1+1) 0 (iV (kG backs 0)):=by
   rw[<-hW0,aGu];have h:=bY.made (((w.alloc (.cells #[.string f.name,.slice pa pl pc,.int .i64 f.regs,.int .i64 f.words,.slice (some ⟨cb,co,none⟩) f.code.length cc] 42)).alloc (.cells #[.int .i64 head,.int .i64 parent,.slice ma members.length mc,.slice ba backs.length bc] 52)).alloc (.cells #[.int .i64 17,.int .i64 a,.int .i64 b,.int .i64 c,.int .i64 n] 55));simpa using h
  have l4:=hU OL;clear hW0 hmm g0 g1 g2 g3 g4;obtain⟨-,hbm,bb,bo,hbb,hbc⟩:=HBk.out;have hbm':backs.length<=9223372036854775807:=hbm;have HBC:=qd hbc;have HBB:=qd hbb;clear hbc hbb;go_wp2;go_loopw [31] (fun i wr=>∃ j q:Nat,j<=backs.length/\q<=j/\i=.int .i64 j/\Hid (∀ i,i<j->gC f a (backs.getD i 0)=false)/\Below w.heap.size w wr/\w.heap.size+4<=wr.heap.size/\Hid (aF wr w.heap.size [.string f.name,.slice pa pl pc,.int .i64 f.regs,.int .i64 f.words,.slice (some ⟨cb,co,none⟩) f.code.length cc])/\Hid (aF wr (w.heap.size+1) [.int .i64 head,.int .i64 parent,.slice ma members.length mc,.slice ba backs.length bc])/\Hid (aF wr (w.heap.size+1+1) [.int .i64 17,.int .i64 a,.int .i64 b,.int .i64 c,.int .i64 n])/\Hid (bY wr (w.heap.size+1+1+1) q (iV (kG backs j)))) (fun i _=>backs.length-(intOf i).toNat)
  case atStart=>exact⟨0,0,Nat.zero_le _,Nat.le_refl _,rfl,qd (fun i hi=>by omega),hb0,oz,qd OF,qd OL,qd OC,qd OM⟩
  case round =>
   clear OF OL OC OM l4 hb0 hz0;obtain⟨j,q,hj,hq,rfl,hno,hbr,hzr,OF,OL,OC,OM⟩:=hrel;have f5:=aX OF.out;have l4:=hU OL.out;have x5:=aX OC.out;by_cases hjt:j<backs.length
   ·have d2:(j:Int)<(backs.length:Int):=oz
    have hwj:IntKind.i64.wrap ((j:Int)+1)=(j:Int)+1:=IntWalk.i64_in _ oz;obtain⟨rfl,hbB⟩:=HBB.out oz;have c0:=(hbr.cell (p:=⟨bb,bo+j,none⟩) (by show bb<_;omega)).trans (HBC.out j hjt).1;obtain⟨k,hku,hkl⟩:=HB1.out (backs.getD j 0) (List.mem_of_getElem? (i:=j) aAe);have HU:=qd hku;rw[hku]at c0;have hk1:(k:Int)<(f.code.length:Int):=oz
    have hcaU:eF f (k:Int)=f.code.getD k default:=wF
    obtain⟨⟨y0,y1,y2,y3,y4⟩,iy⟩:=HC.out k hkl;have HY:=qd (show gC f a (k:Int)=(decide ((f.code.getD k default).op≠18)||decide ((f.code.getD k default).a≠a)) by unfold gC;rw[hcaU]);have HF:=qd (fun h=>yA (p:=gC f a) hjt hno.out h);clear hku hcaU iy;generalize f.code.getD k default=y at *;obtain⟨yo,ya,yb,yc,yn⟩:=y;dsimp only at y0 y1 y2 y3 y4 HY;have yy0:=(hbr.cell (p:=⟨cb,co+k*5,none⟩) (by show cb<_;omega)).trans y0;have yy1:=(hbr.cell (p:=⟨cb,co+k*5+1,none⟩) (by show cb<_;omega)).trans y1;clear y0 y1 y2 y3 y4;by_cases e1:yo=18
    ·subst e1;by_cases e2:ya=a
     ·subst e2;have hgood:gC f ya (k:Int)=false:=by rw[HY.out];simp
      clear HF;have q1:((18:Int)!=18)=false:=si
      have q2:(ya != ya)=false:=si
      go_upto_region 8 with(fail)
      refine bC 17 kr kr ?_;simp only[TD];repeat(refine bS (fun K hK=>?_);go_simp;refine hK _ ?_;clear hK K)
      refine cF ?_;go_upto_region 10 with(fail)
      obtain⟨W2,hrun2,hM2,hc2⟩:=(OM.out.below ((Below.refl _ _).drew)).set Tryz.mapU bH (dI (show k<1024 by omega)) (.agg #[]);rw[uD,show gJ (kG backs j) (k:Int)=kG backs (j+1) by rw[<-HU.out];exact zA hjt]at hM2;have hz2:=hc2.size;have hzd:wr.drew.heap.size=wr.heap.size:=rfl;have hb2:Below w.heap.size w W2:=(hbr.drew).trans (hc2.below _ hbr.size (fun k hk e=>by omega));go_wp2;refine⟨⟨j+1,q+1,oz,oz,si,qd (fun i hi=>?_),hb2,oz,qd (hc2.own OF.out.drew oz),qd (hc2.own OL.out.drew oz),qd (hc2.own OC.out.drew oz),qd hM2⟩,?_⟩
      ·exact aOe
      ·go_light;exact ml
     ·have q1:((18:Int)!=18)=false:=si
      have q2:(ya != a)=true:=by simpa using e2
      have q3:(ya==a)=false:=by simpa using e2
      have hbad:gC f a (k:Int)=true:=by rw[HY.out];simp[e2]
      exact aUe
    ·have q1:(yo != 18)=true:=by simpa using e1
     have q2:(yo==18)=false:=by simpa using e1
     have hbad:gC f a (k:Int)=true:=by rw[HY.out];simp[e1]
     exact aUe
   ·have hjj:j=backs.length:=oz
    subst hjj;have d2:¬(backs.length:Int)<(backs.length:Int):=oz
    have HG:=qd (xT hno.out);go_upto_region 13 with(fail)
    obtain⟨W1,hW1⟩:∃ wo:World,wo=wr:=⟨_,rfl⟩
    rw[<-hW1]at hbr hzr OF OL OC OM f5 l4 x5 ⊢;clear hW1;obtain⟨-,hmm2,mb,mo,hmb,hmc⟩:=HM.out;have hmm':members.length<=9223372036854775807:=hmm2;have HMC:=qd hmc;have HMB:=qd hmb;have HRW:=qd (HR.out.same (aQ.of' hbr) HR.out.1 hbr.size);clear hmc hmb HBB HBC hno;go_wp2;go_loopw [10,61] (fun o i wx=>∃ j:Nat,j<=members.length/\i=.int .i64 j/\o=.int .i64 (if(members.take j).any (fun u=>decide (u=n))then 74 else 0)/\Hid (∀ i,i<j->eZ f a b backs (members.getD i 0)=false)/\Below W1.heap.size W1 wx) (fun o i _=>members.length-(intOf i).toNat)
    case atStart=>exact⟨0,Nat.zero_le _,rfl,si,qd (fun i hi=>by omega),Below.refl _ _⟩
    case round =>
     rename_i wq;obtain⟨j,hj,rfl,rfl,hno,hbx⟩:=hrel;have hzx:=hbx.size;have f5:=aX (OF.out.below hbx);have x5:=aX (OC.out.below hbx);have l4:=hU (OL.out.below hbx);by_cases hjt:j<members.length
     ·have d3:(j:Int)<(members.length:Int):=oz
      have hwj:IntKind.i64.wrap ((j:Int)+1)=(j:Int)+1:=IntWalk.i64_in _ oz;obtain⟨rfl,hmB⟩:=HMB.out oz;have hbw:Below w.heap.size w wr:=hbr.trans (hbx.mono oz);have c0:=(hbw.cell (p:=⟨mb,mo+j,none⟩) (by show mb<_;omega)).trans (HMC.out j hjt).1;obtain⟨k,hku,hkl⟩:=HM1.out (members.getD j 0) (List.mem_of_getElem? (i:=j) aAe);have htk:members.take (j+1)=members.take j++[(k:Int)]:=aPl
      have HU:=qd hku;have HTK:=qd htk;rw[hku]at c0;have hk1:(k:Int)<(f.code.length:Int):=oz
      have hcaU:eF f (k:Int)=f.code.getD k default:=wF
      obtain⟨⟨y0,y1,y2,y3,y4⟩,iy⟩:=HC.out k hkl;have HWr:=qd (fun w hr=>aIu (f.code.getD k default) w hr);have HY:=qd (show eZ f a b backs (k:Int)=(decide (0<=dP (f.code.getD k default))&&((decide (dP (f.code.getD k default)=a) && !backs.contains (k:Int))||decide (dP (f.code.getD k default)=b))) by unfold eZ;rw[hcaU]);have HF:=qd (fun h=>yA (p:=eZ f a b backs) hjt hno.out h);clear hku hcaU iy htk;have e0:=(hbw.cell (p:=⟨cb,co+k*5,none⟩) (by show cb<_;omega)).trans y0;have e1:=(hbw.cell (p:=⟨cb,co+k*5+1,none⟩) (by show cb<_;omega)).trans y1;have e2:=(hbw.cell (p:=⟨cb,co+k*5+2,none⟩) (by show cb<_;omega)).trans y2;have e3:=(hbw.cell (p:=⟨cb,co+k*5+3,none⟩) (by show cb<_;omega)).trans y3;have e4:=(hbw.cell (p:=⟨cb,co+k*5+4,none⟩) (by show cb<_;omega)).trans y4;clear y0 y1 y2 y3 y4;have HRX:=qd (HRW.out.same (aQ.of' hbx) HRW.out.1 hbx.size);have hwp:dP (f.code.getD k default)=dP (f.code.getD k default):=rfl;unfold nF at HWr;generalize hz:dP (f.code.getD k default)=z at *;generalize f.code.getD k default=y at *;obtain⟨yo,ya,yb,yc,yn⟩:=y;dsimp only at e0 e1 e2 e3 e4 HWr;clear hz hwp;go_upto_region 17 with(first | (go_at_call 94;refine(HWr.out _ HRX.out).mono ?_;rintro e w5 ⟨rfl,hb5⟩) | fail)
      clear HWr e0 e1 e2 e3 e4 c0 f5 l4;have hz5:=hb5.size;have hb15:Below W1.heap.size W1 w5:=hbx.trans (hb5.mono oz);have hlk:=(OM.out.below hb15).getOk Tryz.mapU aRi (dI (show k<1024 by omega));rw[(nZ _ _).1,(nZ _ _).2,aAj]at hlk;have x5':=aX (OC.out.below hb15);clear x5;generalize backs.contains (k:Int)=isB at *;have hAny:(members.take j).any (fun u=>decide (u=n))=(members.take j).any (fun u=>decide (u=n)):=rfl;by_cases hbad:eZ f a b backs (k:Int)=true
      ·have HG2:=qd (HF.out (by rw[HU.out];exact hbad));rw[HY.out]at hbad;have HE:=HRES.out;rw[HG.out]at HE;dsimp only at HE;rw[HG2.out,HU.out]at HE;dsimp only at HE;have HE2:=qd HE;clear HF HY hno hAny HE HG2;simp only[Bool.and_eq_true,Bool.or_eq_true,decide_eq_true_eq,Bool.not_eq_true']at hbad;obtain⟨hz0,hbad⟩:=hbad;have HBD:=qd hbad;clear hbad;have qz:¬z<0:=oz
       by_cases ea:z=a
       ·subst ea;have qa:(z==z)=true:=si
        by_cases eb:z=b
        ·subst eb;exact aM2
        ·have qb:(z==b)=false:=by simpa using eb
         have hB:isB=false:=(HBD.out.resolve_right eb).2;subst hB;clear HBD;go_wp2_with fail
         all_goals go_ret2
         all_goals go_light
         all_goals exact⟨gH (by rw[Prod.eta,HE2.out]),bel⟩
       ·have qa:(z==a)=false:=by simpa using ea
        have hb:z=b:=HBD.out.resolve_left (fun h=>ea h.1);subst hb;have qb:(z==z)=true:=si
        exact aM2
      ·have hbf:eZ f a b backs (k:Int)=false:=by simpa using hbad
       have HBF:=qd hbf;rw[HY.out]at hbf;have HBD:=qd hbf;clear hbf hbad HF HY hAny;by_cases hz0:0<=z
       ·have hd:decide (0<=z)=true:=by simpa using hz0
        have hbd:=HBD.out;rw[hd]at hbd;simp only[Bool.true_and,Bool.or_eq_false_iff,Bool.and_eq_false_iff,decide_eq_false_iff_not,Bool.not_eq_false']at hbd;have eb:=hbd.2;have qb:(z==b)=false:=by simpa using eb
        have qz:¬z<0:=oz
        clear HBD;by_cases ea:z=a
        ·have hB:isB=true:=hbd.1.resolve_left (fun h=>h ea);subst ea;subst hB;have qa:(z==z)=true:=si
         clear hbd hd;exact aBj
        ·have qa:(z==a)=false:=by simpa using ea
         clear hbd hd;exact aBj
       ·have qz:z<0:=oz
        clear HBD;by_cases ea:z=a
        ·subst ea;have qa:(z==z)=true:=si
         by_cases eb:z=b
         ·subst eb;exact aBj
         ·have qb:(z==b)=false:=by simpa using eb
          exact aBj
        ·have qa:(z==a)=false:=by simpa using ea
         by_cases eb:z=b
         ·subst eb;have qb:(z==z)=true:=si
          exact aBj
         ·have qb:(z==b)=false:=by simpa using eb
          exact aBj
     ·have hjj:j=members.length:=oz
      subst hjj;have d3:¬(members.length:Int)<(members.length:Int):=oz
      have HG2:=qd (xT hno.out);rw[List.take_length];have HE:=HRES.out;rw[HG.out]at HE;dsimp only at HE;rw[HG2.out]at HE;dsimp only at HE;have HE2:=qd HE;clear HE;generalize members.any (fun u=>decide (u=n))=bad at *;cases bad
      ·go_wp2;go_ret2;go_light;exact⟨gH (by rw[Prod.eta,HE2.out];rfl),bel⟩
      ·go_upto_region 24 with(fail)
       refine bC 4 kr kr ?_;simp only[TD];repeat(refine bS (fun K hK=>?_);go_simp;refine hK _ ?_;clear hK K)
       refine cF ?_;go_wp2;go_ret2;go_light;exact⟨gH (by rw[Prod.eta,HE2.out];rfl),bel⟩
 ·have q1:(op != 17)=true:=by simpa using hop
  have q2:(op==17)=false:=by simpa using hop
  rw[if_pos hop];go_enter Tryz.func53,Tryz.ntmps53;exact aQb
theorem vP {n:Nat}{p:Int->Bool}{x:Int}:x∈dQ n p↔∃ k:Nat,x=k/\k<n/\p x=true:=by
 unfold dQ;constructor
 ·intro h;obtain⟨k,hk,rfl⟩:=List.mem_map.1 h;obtain⟨h1,h2⟩:=List.mem_filter.1 hk;exact⟨k,rfl,List.mem_range.1 h1,h2⟩
 ·rintro⟨k,rfl,h1,h2⟩;exact List.mem_map.2 ⟨k,List.mem_filter.2 ⟨List.mem_range.2 h1,h2⟩,rfl⟩
theorem aO6 (n:Nat) (p:Int->Bool):(dQ n p).Pairwise (· < ·):=by
 unfold dQ;rw[List.pairwise_map];have h:((List.range n).filter fun k:Nat=>p (k:Int)).Pairwise (· < ·):=List.Pairwise.filter _ List.pairwise_lt_range;exact h.imp fun h=>Int.ofNat_lt.2 h
/-- two rising lists of the same numbers are one -/
theorem aJ3:∀ (a b:List Int),a.Pairwise (· < ·)->b.Pairwise (· < ·)->(∀ x,x∈a↔x∈b)->a=b
 | [],[],_,_,_=>rfl
 | [],y::b,_,_,h=>absurd ((h y).2 si) si
 | x::a,[],_,_,h=>absurd ((h x).1 si) si
 | x::a,y::b,ha,hb,h=>by
  rw[List.pairwise_cons]at ha hb;have hxy:x=y:=by
   have h1:=(h x).1 si;have h2:=(h y).2 si;rcases List.mem_cons.1 h1 with e|h1
   ·exact e
   ·rcases List.mem_cons.1 h2 with e|h2
    ·exact e.symm
    ·have:=ha.1 y h2;have:=hb.1 x h1;omega
  subst hxy;refine congrArg _ (aJ3 a b ha.2 hb.2 fun z=>?_);constructor
  ·intro hz;rcases List.mem_cons.1 ((h z).1 (by simp[hz]))with e|h1
   ·have:=ha.1 z hz;omega
   ·exact h1
  ·intro hz;rcases List.mem_cons.1 ((h z).2 (by simp[hz]))with e|h1
   ·have:=hb.1 z hz;omega
   ·exact h1
theorem aB7 {n:Nat}{p:Int->Bool}{ss:List Int}(hn:ss.Nodup) (h1:∀ x∈ss,p x=true) (h2:∀ x,p x=true->x∈ss) (hp:∀ x,p x=true->∃ k:Nat,x=k/\k<n):ss.mergeSort (fun x y=>decide (x<=y))=dQ n p:=by
 refine aJ3 _ _ ?_ (aO6 n p) fun x=>?_
 ·have hs:=List.pairwise_mergeSort (le:=fun x y:Int=>decide (x<=y)) (fun a b c h1 h2=>by simp only[decide_eq_true_eq]at *;omega) (fun a b=>by simp only[Bool.or_eq_true,decide_eq_true_eq];omega) ss;have hd:(ss.mergeSort fun x y=>decide (x<=y)).Nodup:=(List.mergeSort_perm ss _).nodup_iff.2 hn;refine(hs.and hd).imp fun {a b} h=>?_;have:=of_decide_eq_true h.1;have:=h.2;omega
 ·rw[(List.mergeSort_perm ss _).mem_iff,vP];constructor
  ·intro hx;have h3:=h1 x hx;obtain⟨k,e,hk⟩:=hp x h3;exact⟨k,e,hk,h3⟩
  ·rintro⟨k,_,_,h3⟩;exact h2 x h3
theorem yF {n:Nat}{ss:List Int}(hn:ss.Nodup) (h:∀ x∈ss,∃ k:Nat,x=k/\k<n):ss.length<=n:=by
 have h1:=aB7 (n:=n) (p:=fun x=>decide (x∈ss)) hn (fun x hx=>by simpa using hx) (fun x hx=>by simpa using hx) (fun x hx=>h x (by simpa using hx));have h2:=congrArg List.length h1;rw[List.length_mergeSort]at h2;rw[h2];unfold dQ;exact aA0
theorem aQ8 {p:Prop}(h:p:=by
 rcases hg4 with h|h
 ·exact hvb _ h
 ·simp at h;omega):p:=h
theorem zB (b q n:Nat) (p:Int->Bool) (w:World) (hM:bY w b q (iV p)) (hn:n<=1024) (hp:∀ x,p x=true->∃ k:Nat,x=k/\k<n) :
 Calls Tryz.prog 51 #[.map (some b)] w (aAx w (dQ n p)):=by
 have hlt:=hM.lt;have hpi:∀ i,¬inI i->iV p i=none:=fun i hi=>by
  unfold iV;cases h:p i with
  | false=>rfl
  | true =>
   obtain⟨k,rfl,hk⟩:=hp i h;exact absurd (dI oz) hi
 obtain⟨W1,cnt,hrun,hR,hb1,hz1,hcq⟩:=hM.range Tryz.mapU hpi;have HR:=qd hR;clear hR;have HP:=qd hp;clear hp;go_enter Tryz.func51,Tryz.ntmps51;go_upto_region 3 with(fail)
 go_loopg [3] cnt (fun k v3 wr=>∃ (left:Int->Bool) (ss:List Int),Hid (fW wr b w.heap.size q (iV p) left k)/\ss.Nodup/\(∀ x∈ss,p x=true/\left x=false)/\(∀ x,p x=true->x∈ss\/left x=true)/\(∀ x,left x=true->p x=true)/\Below w.heap.size w wr/\w.heap.size+1<=wr.heap.size/\(∀ j,v3.ownBlock=some j->w.heap.size+1<=j)/\(ss=[]->v3=.slice none 0 0)/\Hid (wr.ownsRow 0 3 1 v3 ss.length (aR ss)))
 case atStart =>
  refine⟨_,[],HR,si,si,fun x hx=>.inr ?_,fun x hx=>?_,hb1,oz,by simp[Value.ownBlock],fun _=>rfl,qd (World.ownsRow_nil _ _ _ _)⟩
  ·unfold iV;rw[hx];rfl
  ·unfold iV at hx;cases h:p x with
   | true=>rfl
   | false=>rw[h]at hx;cases hx
 case round =>
  clear HR hrun hb1 hz1 hcq;obtain⟨left,ss,hR,hnd,hss,hall,hlp,hbr,hz,hvb,hvn,hrow⟩:=hrel;have hln:ss.length<=n:=yF hnd (fun x hx=>HP.out x (hss x hx).1);rcases hR.out.next 0 with⟨hno,hrun⟩|⟨i,v,W2,c2,hi,hli,hMi,hrun,hR2,hlt2,hc2,hz2,hent⟩
  ·have HI:=qd (fun W (h:W.ownsRow 0 3 1 u3 ss.length (aR ss))=>aRk u3 ss W oz h);have hsp:=aB7 (n:=n) (p:=p) hnd (fun x hx=>(hss x hx).1) (fun x hx=>(hall x hx).resolve_right (by rw[hno x];simp)) HP.out;have HSP:=qd hsp;go_wp2_with (first|(go_at_call 93;refine(HI.out _ hrow.out).mono ?_;rintro e w3 ⟨rfl,hr3,hc3⟩)|fail)
   go_ret;go_light;have e:=HSP.out;have hl:ss.length=(dQ n p).length:=by rw[<-e,List.length_mergeSort]
   refine⟨_,rfl,hbr.trans (hc3.below _ hbr.size (fun k hk e=>by have:=hvb k e;omega)),by rw[<-hl,<-e];exact hr3,fun k hk=>by have:=hvb k hk;omega,fun h0=>?_⟩;rw[h0]at hl;exact hvn (List.eq_nil_of_length_eq_zero hl)
  ·have hz0:=hR2.lt;have hpi2:=hlp i hli;obtain⟨a,rfl,ha⟩:=HP.out i hpi2;have hrow2:=aN hc2 hrow.out (fun k hk e=>by have:=hvb k hk;omega);have HR2:=qd hR2;have HW2:=qd hrow2;have hb2:Below w.heap.size w W2:=hbr.trans (hc2.below _ hbr.size (fun k hk e=>by omega));clear hR hrow hrow2 hR2 hc2;go_wp2_with (first|(at_builtin;refine bO rfl (.tmp 11) (.tmp 13) 50 3 1 8 (.int .i64 0) rfl Tryz.underlying50 Tryz.infoI rfl dc _ _ _ rfl (aA eN HW2.out) ⟨wr.heap.size,0,none⟩ 1 1 (aR [(a:Int)]) rfl rfl (cC (aF.new' _ _ _ _ hz2.symm)) (bZ _) bH oz dc ?_;intro g4 c4 w4 hr4 hc4 hg4)|fail)
   have hbA:Below W2.heap.size W2 (W2.alloc (.cells #[.int .i64 a] 3)):=eN;have hc5:aG (fun k=>u3.ownBlock=some k) W2 w4:=(aG.of hbA).trans hc4;have hz5:=hc5.size
   go_roundg c2
   case measure=>exact hlt2
   case rel =>
    refine⟨_,ss++[(a:Int)],qd (HR2.out.keep (hc5.block _ (HR2.out.owns.lt) (fun e=>by have:=hvb _ e;omega)) (hc5.block _ (HR2.out.lt.1) (fun e=>by have:=hvb _ e;omega))),?_,?_,?_,?_,hb2.trans (hc5.below _ hb2.size (fun k hk e=>by have:=hvb k e;omega)),oz,?_,si,qd (by rw[List.length_append,bK];exact hr4)⟩
    ·rw[List.nodup_append];refine⟨hnd,si,fun x hx y hy e=>?_⟩;have:y=(a:Int):=by simpa using hy
     subst e;rw[this]at hx;rw[(hss _ hx).2]at hli;cases hli
    ·intro x hx;rcases List.mem_append.1 hx with hx|hx
     ·exact⟨(hss x hx).1,by simp[(hss x hx).2]⟩
     ·have:x=(a:Int):=by simpa using hx
      subst this;exact⟨hpi2,si⟩
    ·intro x hx;rcases hall x hx with h|h
     ·exact .inl (by simp[h])
     ·by_cases e:x=(a:Int)
      ·exact .inl (by simp[e])
      ·exact .inr (by simp[h,e])
    ·intro x hx;simp at hx;exact hlp x hx.1
    ·intro j hj;have e:g4=j:=by simpa[Value.ownBlock]using hj
     subst e;exact aQ8
/-- a map of counts -/
def jG (W:World) (b q:Nat) (c:Nat->Nat):Prop:=∃ M,bY W b q M/\∀ v:Nat,v<1024->(M (v:Int)).getD (.int .i64 0)=.int .i64 (c v)
theorem Tryz.mapC:Tryz.prog.underlying 145=some (.map 3 3):=kr
theorem aV5 (w:World):(zeroValue 3).run Tryz.prog w=.ok (.int .i64 0) w:=kr
theorem jG.lt {W:World}{b q:Nat}{c:Nat->Nat}(h:jG W b q c):b<W.heap.size:=by obtain⟨M,h,_⟩:=h;exact h.lt
theorem jG.chg {W W':World}{b q:Nat}{c:Nat->Nat}{S:Nat->Prop}(h:jG W b q c) (hc:aG S W W') (hs:¬S b):jG W' b q c:=by obtain⟨M,h1,h2⟩:=h;exact⟨M,h1.chg hc hs,h2⟩
theorem jG.below {W W':World}{b q:Nat}{c:Nat->Nat}(h:jG W b q c) (hc:Below W.heap.size W W'):jG W' b q c:=by obtain⟨M,h1,h2⟩:=h;exact⟨M,h1.below hc,h2⟩
theorem jG.cast {W:World}{b q:Nat}{c c':Nat->Nat}(h:jG W b q c) (e:∀ v:Nat,v<1024->c' v=c v):jG W b q c':=by obtain⟨M,h1,h2⟩:=h;exact⟨M,h1,fun v hv=>by rw[e v hv];exact h2 v hv⟩
theorem jG.get {W:World}{b q:Nat}{c:Nat->Nat}(h:jG W b q c) {v:Nat}(hv:v<1024):(Instr.lookup 145 (.map (some b)) (.int .i64 v) false).run Tryz.prog W=.ok (.int .i64 (c v)) W:=by
 obtain⟨M,h1,h2⟩:=h;rw[h1.get Tryz.mapC aV5 (dI hv),h2 v hv]
theorem jG.put {W:World}{b q:Nat}{c:Nat->Nat}(h:jG W b q c) (hq:q<maxLen) {v:Nat}(hv:v<1024) (x:Nat):∃ W',(Instr.mapUpdate 145 (.map (some b)) (.int .i64 v) (.int .i64 x)).run Tryz.prog W=.ok () W'/\jG W' b (q+1) (fun k=>if k=v then x else c k)/\aG (· = b) W W':=by
 obtain⟨M,h1,h2⟩:=h;obtain⟨W',hr,h3,hc⟩:=h1.set Tryz.mapC hq (dI hv) (.int .i64 x);refine⟨W',hr,⟨_,h3,fun k hk=>?_⟩,hc⟩;unfold tV;by_cases e:k=v
 ·subst e;simp
 ·rw[if_neg (by omega)];dsimp only;rw[if_neg e];exact h2 k hk
def aHy:Option Nat->Value
 | some v=>.tuple #[.int .i64 v,.bool true]
 | none=>.tuple #[.int .i64 0,.bool false]
theorem aDr {A:Nat->List Int}(hA:∀ u,(A u).length<=4096) (rem:Nat->Bool) (v:Nat):lS A rem v<=1024*4096:=by
 unfold lS;refine oT 1024 (fun k _=>?_);split
 ·omega
 ·exact Nat.le_trans (List.count_le_length) (hA k)
theorem yH {A:Nat->List Int}{r r':Nat->Bool}(h:∀ u,u<1024->r u=r' u\/A u=[]) (v:Nat):lS A r v=lS A r' v:=by
 unfold lS;refine oK 1024 (fun k hk=>?_);rcases h k hk with h|h
 ·rw[h]
 ·rw[h];simp
theorem aIh {l:List Int}{j:Nat}(hj:j<l.length) (v:Int):(l.take (j+1)).count v=(l.take j).count v+if l.getD j 0=v then 1 else 0:=by
 have h:l.take (j+1)=l.take j++[l.getD j 0]:=aMv
 rw[h,List.count_append,List.count_singleton];congr 1;by_cases e:l.getD j 0=v<;>simp[e]
def aA3 (left:Int->Bool):Nat:=iE 1024 fun u=>if left (u:Int)then 1 else 0
theorem aGd (left:Int->Bool):aA3 left<=1024:=by
 have:=oT (f:=fun u=>if left (u:Int)then 1 else 0) (m:=1) 1024 (fun k _=>by split<;>omega);unfold aA3;omega
theorem aAp {left:Int->Bool}{a:Nat}(ha:a<1024) (h:left (a:Int)=true):aA3 left=aA3 (fun k=>left k&&decide (k≠(a:Int)))+1:=by
 unfold aA3;have:=kC (f:=fun u:Nat=>if left (u:Int)then 1 else 0) (g:=fun u:Nat=>if(left (u:Int)&&decide ((u:Int)≠(a:Int)))then 1 else 0) 1024 ha (fun k hk=>by
  have:(k:Int)≠(a:Int):=oz
  simp[this])
 simp only[h]at this;simp at this;simp;omega
noncomputable def rpB (f:aC) (v:Nat):Bool:=(dY f).getD v false
theorem aTo {f:aC}{v:Nat}(hv:v<f.code.length):rpB f v=true↔lA f v:=by
 unfold rpB;rw[<-mD f v hv,List.getD_eq_getElem?_getD,List.getElem?_eq_getElem (by rw[fY];exact hv)];simp
def vQ (Rp:Nat->Bool) (c:Nat->Nat) (k:Nat):List Int:=((List.range k).filter fun v=>Rp v&&decide (c v=0)).map Int.ofNat
theorem aLz (Rp:Nat->Bool) (c:Nat->Nat) (k:Nat):vQ Rp c (k+1)=if Rp k=true/\c k=0 then vQ Rp c k++[(k:Int)]else vQ Rp c k:=by
 unfold vQ;rw[List.range_succ,List.filter_append,List.map_append];by_cases h:Rp k=true/\c k=0
 ·rw[if_pos h];simp[h.1,h.2]
 ·rw[if_neg h];have:(Rp k&&decide (c k=0))=false:=by
   rw[Bool.eq_false_iff];intro e;simp at e;exact h e
  simp[this]
theorem aGb {Rp:Nat->Bool}{c:Nat->Nat}{k:Nat}{x:Int}:x∈vQ Rp c k↔∃ v:Nat,x=v/\v<k/\Rp v=true/\c v=0:=by
 unfold vQ;constructor
 ·intro h;obtain⟨v,hv,rfl⟩:=List.mem_map.1 h;obtain⟨h1,h2⟩:=List.mem_filter.1 hv;simp at h2;exact⟨v,rfl,List.mem_range.1 h1,h2.1,h2.2⟩
 ·rintro⟨v,rfl,h1,h2,h3⟩;exact List.mem_map.2 ⟨v,List.mem_filter.2 ⟨List.mem_range.2 h1,by simp[h2,h3]⟩,rfl⟩
theorem aIl (Rp:Nat->Bool) (c:Nat->Nat) (k:Nat):(vQ Rp c k).Nodup:=by
 unfold vQ;have h:((List.range k).filter fun v=>Rp v&&decide (c v=0)).Nodup:=List.Nodup.sublist List.filter_sublist List.nodup_range;unfold List.Nodup at *;rw[List.pairwise_map];exact h.imp fun h e=>h (Int.ofNat.inj e)
theorem aOi (Rp:Nat->Bool) (c:Nat->Nat) (k:Nat):(vQ Rp c k).length<=k:=by
 unfold vQ;exact aA0
theorem pQ.start {A:Nat->List Int}{n:Nat}{Rp:Nat->Bool}:pQ A n Rp (lS A fun _=>false) (fun _=>false) (vQ Rp (lS A fun _=>false) n) [] :=
 ⟨fun v=>by simp,fun x hx=>by
  obtain⟨v,e,h1,h2,h3⟩:=aGb.1 hx;exact⟨v,e,h1,h2,rfl,h3⟩,aIl _ _ _,fun v hv=>absurd hv si,fun v h1 h2 h3=>Or.inl (aGb.2 ⟨v,rfl,h1,h2,h3⟩)⟩
theorem aUz (G:Nat->Nat->List Int) (c:Nat):xS G c=fun i=>G c i.toNat:=rfl
theorem zW {G:Nat->Nat->List Int}(hG:aI6 G) {v:Nat}(h:Acc (fun u x:Nat=>(x:Int)∈G 1 u/\u<1024) v):eG G v=false:=by
 refine oN ?_;rw[aUz];exact aKs (A:=G 1) (fun u x hx=>⟨hG.ky 1 u x hx,hG.el 1 u x hx⟩) h
theorem aRv {G:Nat->Nat->List Int}{v:Nat}(h:eG G v=true):∃ u,(v:Int)∈G 1 u:=by
 have hc:=oV.1 h;cases hc with
 | start _ hx=>exact⟨v,hx⟩
 | step x _ h1 h2 h3=>exact⟨x.toNat,h3⟩
theorem pQ.none {G:Nat->Nat->List Int}{n:Nat}{Rp:Nat->Bool}{c:Nat->Nat}{rem:Nat->Bool}(h:pQ (G 1) n Rp c rem [] []) (hG:aI6 G) (hR:∀ u x,x∈G 1 u->∃ k:Nat,x=k/\k<n/\Rp k=true) (h0:lK n Rp rem=0) (v:Nat):eG G v=false:=by
 cases e:eG G v with
 | false=>rfl
 | true =>
  obtain⟨u,hu⟩:=aRv e;obtain⟨k,hk,hkn,hkr⟩:=hR u _ hu;have:v=k:=oz
  subst this;have h1:=uQ n h0 v hkn;rw[hkr]at h1;have hr:rem v=true:=by
   cases hr:rem v with
   | true=>rfl
   | false=>rw[hr]at h1;simp at h1
  rw[zW hG (h.r v hr).2.1]at e;cases e
theorem pQ.len {A:Nat->List Int}{n:Nat}{Rp:Nat->Bool}{c:Nat->Nat}{rem:Nat->Bool}{td rest:List Int}(h:pQ A n Rp c rem td rest):td.length<=n :=
 yF h.nd (fun x hx=>by obtain⟨v,e,hv,_⟩:=h.t x hx;exact⟨v,e,hv⟩)
theorem aLm (lo b0 n B:Nat) (G:Nat->Nat->List Int) (S:Nat->Nat->Option Value) (hh:HF) (f:aC) (w:World) (hB:B<=w.heap.size) (hf:aZ B w hh f) (hn0:0<f.code.length) (hn:f.code.length<=1024) (hg:bG w lo b0 n G S) (hG:aI6 G)
 (hE:∀ u x,x∈G 1 u->∃ k:Nat,x=k/\lA f k) :
 Calls Tryz.prog 50 #[.agg #[.map (some b0),.map (some (b0+1)),.map (some (b0+2))],aI hh f] w fun e w'=>e=.returned (aHy (iG f.code.length (eG G)))/\Below w.heap.size w w':=by
 have hmm:=@run_makeMap Tryz.prog;have HG:=qd hg;have HF:=qd hf;have HRc:=qd (fun w hB hf=>aBf B hh f w hB hf hn0 hn);have HCm:=qd (fun w hg v hv=>aLk lo b0 n G S w hg hG v hv);obtain⟨pa,pl,pc,ca,cl,cc⟩:=hh;obtain⟨h1,h2,⟨hcl,hcm,hcx⟩,h4,h5⟩:=hf;dsimp only at *;subst hcl;clear h2 hcm hcx h1 h4 h5 hg;unfold aI at *;dsimp only at *;go_enter Tryz.func50,Tryz.ntmps50;go_upto_region 2 with(fail)
 generalize hW0:World.alloc _ _=W0;have hb0:Below w.heap.size w W0:=by rw[<-hW0];exact bel
 have hz0:W0.heap.size=w.heap.size+3:=by rw[<-hW0];simp
 have OB:aF W0 w.heap.size [.map (some b0),.map (some (b0+1)),.map (some (b0+2))]:=xC
 have OF:aF W0 (w.heap.size+1) [.string f.name,.slice pa pl pc,.int .i64 f.regs,.int .i64 f.words,.slice ca f.code.length cc]:=sP
 have OM:jG W0 (w.heap.size+1+1) 0 (fun _=>0):=by
  refine⟨fun _=>none,?_,fun v _=>rfl⟩;rw[<-hW0];exact bY.made' _ _ si
 clear hW0 hmm;have hg0:=HG.out.below hb0;have b3:=gV OB;have hbig:∀ i,¬inI i->jJ (S 1) i=none:=fun i hi=>by
  unfold jJ;split
  ·refine HG.out.big 1 _ dc (fun h=>hi ?_);unfold inI;omega
  ·rfl
 obtain⟨W1,cnt,hrun,hR,hb1,hz1,hcq⟩:=(hg0.map 1 dc).range Tryz.mapS hbig;go_upto_region 3 with(fail)
 rw[hz0]at hR;have hHR:=qd hR;have hbw1:Below w.heap.size w W1:=hb0.trans (hb1.mono oz);have OB1:=qd (OB.below hb1);have OF1:=qd (OF.below hb1);have OM1:=qd (OM.below hb1);have hz1':w.heap.size+4<=W1.heap.size:=oz
 clear hR hrun hg0 b3 OB OF OM hb1 hb0 hcq;have hA:∀ u,(G 1 u).length<=4096:=hG.ln 1;have HGE:=qd hG;clear hG
 go_loopg [] cnt (fun k wr=>∃ (left:Int->Bool) (q:Nat),Hid (fW wr (b0+1) (w.heap.size+3) n (jJ (S 1)) left k)/\q+4096*aA3 left<=4194304/\Hid (∀ i,left i=true->(jJ (S 1) i).isSome=true)/\Below w.heap.size w wr/\w.heap.size+4<=wr.heap.size/\Hid (aF wr w.heap.size [.map (some b0),.map (some (b0+1)),.map (some (b0+2))])/\Hid (aF wr (w.heap.size+1) [.string f.name,.slice pa pl pc,.int .i64 f.regs,.int .i64 f.words,.slice ca f.code.length cc])/\Hid (jG wr (w.heap.size+1+1) q (fun v=>lS (G 1) (fun u=>left u) v)))
 case atStart =>
  refine⟨_,0,hHR,by have:=aGd (fun i=>(jJ (S 1) i).isSome);omega,qd (fun i h=>h),hbw1,hz1',OB1,OF1,qd (OM1.out.cast fun v _=>?_)⟩;unfold lS;refine uG 1024 (fun k _=>?_);dsimp only;cases hs:S 1 k with
  | some s=>simp[fC,hs]
  | none =>
   have:G 1 k=[]:=by
    cases hgk:G 1 k with
    | nil=>rfl
    | cons x t=>have:=(HG.out.ent 1 k dc).2 (by rw[hgk];simp);rw[hs]at this;cases this
   rw[this];simp
 case round =>
  clear hHR hbw1 hz1' OB1 OF1 OM1 hz1 hz0;obtain⟨left,q,hR,hq,hsm,hbr,hzr,OB,OF,OM⟩:=hrel;rcases hR.out.next 0 with⟨hno,hrun⟩|⟨i,s,W2,c2,hi,hli,hMi,hrun,hR2,hlt2,hc2,hz2,hent⟩
  ·go_upto_region 12 with(fail)
   have hcong:∀ v,v<1024->lS (G 1) (fun _=>false) v=lS (G 1) (fun u=>left u) v:=fun v _=>yH (fun u _=>.inl (hno u).symm) v;have OM0:=qd (OM.out.cast (c':=lS (G 1) (fun _=>false)) hcong);have hq0:q<=4194304:=oz
   obtain⟨W2,hW2⟩:∃ wo:World,wo=wr:=⟨_,rfl⟩
   rw[<-hW2]at hbr hzr OB OF OM0 ⊢;have hf5:=aX OF.out;have HR2:=qd (HRc.out W2 (by have:=hbr.size;omega) (HF.out.same (aQ.of hbr hB)));clear OM hR hrun hsm hcong hno hq hW2;have HC0:=qd (aDr hA (fun _=>false));have HKS:=qd (pQ.start (A:=G 1) (n:=f.code.length) (Rp:=rpB f));have hLE:lK f.code.length (rpB f) (fun _=>false)<=1024:=by
    have:=oT (f:=fun v=>if rpB f v && !(fun _:Nat=>false) v then 1 else 0) (m:=1) f.code.length (fun k _=>by split<;>omega);unfold lK;omega
   have HL0:=qd (show lK f.code.length (rpB f) (fun _=>false)=iE f.code.length (fun v=>if rpB f v then 1 else 0) by unfold lK;refine oK _ (fun k _=>?_);simp);generalize lS (G 1) (fun _=>false)=c0 at *;go_upto_region 13 with(first|(go_at_call 57;refine HR2.out.mono ?_;rintro e w3 ⟨rv,rfl,hb3,hr3,hf3⟩;obtain⟨rb,rc,rfl,hrc,hrm,hrl⟩:=bB hr3 (by rw[fY];exact hn0);rw[fY]at hr3 ⊢)|fail)
   clear HR2 hf5;have hz3:=hb3.size;have hf3':=hf3 rb rfl;have OB3:=qd (OB.out.below hb3);have OF3:=qd (OF.out.below hb3);have OM3:=qd (OM0.out.below hb3);have HR3:=qd hr3;have hb03:Below w.heap.size w w3:=hbr.trans (hb3.mono hbr.size);have hn64:f.code.length<=9223372036854775807:=oz
   clear OB OF OM0 hr3 hb3 hbr hf3;go_loopw [11,12,41] (fun d td i wx=>∃ k:Nat,k<=f.code.length/\i=.int .i64 k/\d=.int .i64 (iE k (fun v=>if rpB f v then 1 else 0):Nat)/\Below w3.heap.size w3 wx/\(∀ j,td.ownBlock=some j->w3.heap.size<=j)/\Hid (wx.ownsRow 0 3 1 td (vQ (rpB f) c0 k).length (aR (vQ (rpB f) c0 k)))) (fun d td i _=>f.code.length-(intOf i).toNat)
   case atStart=>exact⟨0,Nat.zero_le _,rfl,rfl,Below.refl _ _,by simp[Value.ownBlock],qd (World.ownsRow_nil _ _ _ _)⟩
   case round =>
    rename_i wq;obtain⟨k,hk,rfl,rfl,hbx,hvb,hrow⟩:=hrel;have hzx:=hbx.size;by_cases hlt:k<f.code.length
    ·have d2:(k:Int)<(f.code.length:Int):=oz
     have hwk:IntKind.i64.wrap ((k:Int)+1)=(k:Int)+1:=IntWalk.i64_in _ oz;have hgr:(dY f)[k]? = some (rpB f k):=by unfold rpB;exact aOd
     have cc0:=aH (aA hbx HR3.out) (kW hgr);have hs:=oT (f:=fun v=>if rpB f v then 1 else 0) (m:=1) k (fun j _=>by split<;>omega);have hsum:iE (k+1) (fun v=>if rpB f v then 1 else 0)=iE k (fun v=>if rpB f v then 1 else 0)+if rpB f k then 1 else 0:=rfl
     have HSM:=qd hsum;have HTD:=qd (aLz (rpB f) c0 k);have htl:=aOi (rpB f) c0 k;clear hsum hgr;generalize iE k (fun v=>if rpB f v then 1 else 0)=sm at *;have hws:IntKind.i64.wrap ((sm:Int)+1)=(sm:Int)+1:=IntWalk.i64_in _ oz;have hlk:=(OM3.out.below hbx).get (show k<1024 by omega);generalize rpB f k=r at *;cases r
     ·go_wp2_with fail;refine⟨⟨k+1,oz,si,by rw[HSM.out];simp,hbx,hvb,qd (by rw[HTD.out,if_neg (by simp)];exact hrow.out)⟩,?_⟩;go_light;exact ml
     ·by_cases hc0:c0 k=0
      ·rw[hc0]at hlk;go_wp2_with (first|(at_builtin;refine bO rfl (.tmp 53) (.tmp 55) 50 3 1 8 (.int .i64 0) rfl Tryz.underlying50 Tryz.infoI rfl dc _ _ _ rfl (aA eN hrow.out) ⟨wr.heap.size,0,none⟩ 1 1 (aR [(k:Int)]) rfl rfl (cC (aF.new' _ _ _ _ rfl)) (bZ _) bH oz dc ?_;intro g4 c4 w4 hr4 hc4 hg4)|fail)
       have hbA:Below wr.heap.size wr (wr.alloc (.cells #[.int .i64 k] 3)):=eN;have hc5:aG (fun j=>u12.ownBlock=some j) wr w4:=(aG.of hbA).trans hc4;refine⟨⟨k+1,oz,si,by rw[HSM.out];simp,hbx.trans (hc5.below _ hbx.size (fun j hj e=>by have:=hvb j e;omega)),fun j hj=>?_,qd (by rw[HTD.out,if_pos ⟨rfl,hc0⟩,List.length_append,bK];exact hr4)⟩,?_⟩
       ·have e:g4=j:=by simpa[Value.ownBlock]using hj
        subst e;exact aQ8
       ·go_light;exact ml
      ·have q1:¬((c0 k:Nat):Int)=0:=oz
       have q2:(((c0 k:Nat):Int)==0)=false:=oI
       go_wp2_with fail;refine⟨⟨k+1,oz,si,by rw[HSM.out];simp,hbx,hvb,qd (by rw[HTD.out,if_neg (fun h=>hc0 h.2)];exact hrow.out)⟩,?_⟩;go_light;exact ml
    ·have hkk:k=f.code.length:=oz
     subst hkk;have d2:¬(f.code.length:Int)<(f.code.length:Int):=oz
     go_upto_region 20 with(fail)
     rw[<-HL0.out];have OB4:=qd (OB3.out.below hbx);have OF4:=qd (OF3.out.below hbx);have OM4:=qd (OM3.out.below hbx);have hb04:Below w.heap.size w wr:=hb03.trans (hbx.mono hb03.size);have hz4:w.heap.size+4<=wr.heap.size:=oz
     have hvb4:∀ j,u12.ownBlock=some j->w.heap.size+4<=j:=fun j hj=>by have:=hvb j hj;omega
     have hR4:Hid (∀ u x,x∈G 1 u->∃ k:Nat,x=k/\k<f.code.length/\rpB f k=true):=qd (fun u x hx=>by
      obtain⟨k,e,hk⟩:=hE u x hx;have hk2:=hk.lt hn0;exact⟨k,e,hk2,(aTo hk2).2 hk⟩)
     obtain⟨W5,hW5⟩:∃ wo:World,wo=wr:=⟨_,rfl⟩
     rw[<-hW5]at OB4 OF4 OM4 hb04 hz4 hrow ⊢;clear hW5 OB3 OF3 OM3 HR3 hbx hvb hb03 hlt d2 hz3 hzr HL0;generalize hRp:rpB f=Rp at *;clear hRp
     go_loopg [11,12] (lK f.code.length Rp (fun _=>false)) (fun d vl vt wx=>∃ (c:Nat->Nat) (rem:Nat->Bool) (td:List Int) (p:Nat),d=lK f.code.length Rp rem/\vl=.int .i64 (lK f.code.length Rp rem:Nat)/\Hid (pQ (G 1) f.code.length Rp c rem td [])/\p+4096*d<=8388608/\d<=1024/\Below w.heap.size w wx/\w.heap.size+4<=wx.heap.size/\Hid (aF wx w.heap.size [.map (some b0),.map (some (b0+1)),.map (some (b0+2))])/\Hid (aF wx (w.heap.size+1) [.string f.name,.slice pa pl pc,.int .i64 f.regs,.int .i64 f.words,.slice ca f.code.length cc])/\Hid (jG wx (w.heap.size+1+1) p c)/\(∀ j,vt.ownBlock=some j->w.heap.size+4<=j)/\Hid (wx.ownsRow 0 3 1 vt td.length (aR td)))
     case atStart=>exact⟨c0,_,_,q,rfl,rfl,HKS,oz,hLE,hb04,hz4,OB4,OF4,OM4,hvb4,hrow⟩
     case round =>
      clear HKS hLE hb04 hz4 OB4 OF4 OM4 hvb4 hrow HC0 hq0;rename_i wq2;obtain⟨c,rem,td,p,rfl,rfl,hK,hp,hd,hbr,hzr,OB,OF,OM,hvb,hrow⟩:=hrel;have b3:=gV OB.out;have f5:=aX OF.out;rcases lD td with rfl|⟨t,x,rfl⟩
      ·obtain⟨va,vc,rfl⟩:∃ va vc,u12=.slice va 0 vc:=by
        rcases bU hrow.out with⟨rfl,_,_⟩|⟨g,c,rfl,_,_,_⟩
        ·exact⟨_,_,rfl⟩
        ·exact⟨_,_,rfl⟩
       have HKN:=qd (fun h0=>hK.out.none HGE.out hR4.out h0);generalize lK f.code.length Rp rem=L at *;by_cases hL:L=0
       ·subst hL;go_wp2;go_ret2;go_light;have h0:=HKN.out (by trivial);rw[eB _ _ (fun i _=>h0 i)];exact⟨rfl,hbr⟩
       ·have q1:¬(L:Int)=0:=oz
        have q2:((L:Int)==0)=false:=oI
        have HKA:=qd (fun v (h:c v=0)=>zW HGE.out (hK.out.acc h));clear HKN hK hp hd;obtain⟨W7,hW7⟩:∃ wo:World,wo=wr:=⟨_,rfl⟩
        rw[<-hW7]at hbr hzr OB OF OM f5 ⊢;clear hW7 hrow b3;have hn64':f.code.length<=9223372036854775807:=oz
        go_upto_region 34 with(fail)
        clear f5;go_loopw [101] (fun i wx=>∃ j:Nat,j<=f.code.length/\i=.int .i64 j/\Hid (∀ v,v<j->eG G v=false)/\Below W7.heap.size W7 wx) (fun i _=>f.code.length-(intOf i).toNat)
        case atStart=>exact⟨0,Nat.zero_le _,rfl,qd (fun i hi=>by omega),Below.refl _ _⟩
        case round =>
         rename_i wq3;obtain⟨j,hj,rfl,hno,hbx⟩:=hrel;have hbw:Below w.heap.size w wr:=hbr.trans (hbx.mono hbr.size);have b3:=gV (OB.out.below hbx);have hlk:=fun h=>(OM.out.below hbx).get (v:=j) h;by_cases hjt:j<f.code.length
         ·have d3:(j:Int)<(f.code.length:Int):=oz
          have hwj:IntKind.i64.wrap ((j:Int)+1)=(j:Int)+1:=IntWalk.i64_in _ oz;have hlk:=hlk oz;have HA:=qd (HKA.out j);have HCo:=qd (HCm.out wr (HG.out.below hbw) j oz);obtain⟨cv,hcv⟩:∃ cv,cv=c j:=⟨_,rfl⟩
          rw[<-hcv]at hlk HA;clear hcv;by_cases hc0:cv=0
          ·subst hc0;have hcj:=HA.out rfl;have q3:¬(0:Int)<0:=oz
           go_wp2_with fail;refine⟨⟨j+1,oz,si,qd (fun v hv=>?_),hbx⟩,?_⟩
           ·by_cases e:v=j
            ·subst e;exact hcj
            ·exact hno.out v oz
           ·go_light;exact ml
          ·have q3:(0:Int)<(cv:Int):=oz
           have HFS:=qd (fun h=>eA f.code.length (eG G) j hjt h hno.out);have HNX:=qd (fun h v (hv:v<j+1)=>show eG G v=false from(by
            by_cases e:v=j
            ·subst e;exact h
            ·exact hno.out v oz))
           generalize eG G j=cm at *;go_wp2_with (first|(go_at_call 92;refine HCo.out.mono ?_;rintro e w8 ⟨rfl,hb8⟩)|fail)
           ·go_ret2;go_light;rename_i hcm;rw[HFS.out hcm];exact⟨rfl,hbw.trans (hb8.mono hbw.size)⟩
           ·rename_i hcm;refine⟨⟨j+1,oz,si,qd (HNX.out hcm),hbx.trans (hb8.mono hbx.size)⟩,?_⟩;go_light;exact ml
         ·have hjj:j=f.code.length:=oz
          subst hjj;have d3:¬(f.code.length:Int)<(f.code.length:Int):=oz
          go_wp2;go_ret2;go_light;rw[eB _ _ hno.out];exact⟨rfl,hbw⟩
      ·obtain⟨u,hu,hun,hur,hurm,huc⟩:=hK.out.t x si;subst hu;obtain⟨hK2,-,-,-,hL2⟩:=hK.out.pop hn;have hln2:(t++[(u:Int)]).length=t.length+1:=si
       have hT2:=hrow.out;rw[hln2]at hT2;obtain⟨g,c1,rfl,hgc,hgm,hgl⟩:=bB hT2 oz;have hgm':c1<=9223372036854775807:=hgm;have t0:=aH hT2 (aV (show(t++[(u:Int)])[t.length]? = some (u:Int) by simp));have hw1:IntKind.i64.wrap ((t.length:Int)+1-1)=(t.length:Int):=tU
       have j1:(0:Int)<(t.length:Int)+1:=oz
       have hpop:=pL hT2 t.length oz;rw[Nat.mul_one,show(aR (t++[(u:Int)])).take t.length=aR t by rw[bK,<-pX t,List.take_left]]at hpop;have hvg:=hvb g rfl;have HP:=qd hpop;clear hpop hT2 hrow;have hu1:u<1024:=oz
       have hg5:=HG.out.below hbr;have hlk:=(hg5.map 1 dc).get Tryz.mapS pE (dI hu1);rw[fC]at hlk;have hrow5:=hg5.row (c:=1) (v:=u) dc;have hl5:=hA u;obtain⟨sa,sc,hsv⟩:∃ sa sc,(S 1 u).getD kN=.slice sa (G 1 u).length sc:=by
        rcases bU hrow5 with⟨h1,h2,_⟩|⟨g,c,h1,_⟩
        ·exact⟨none,0,by rw[h1,h2]⟩
        ·exact⟨_,c,h1⟩
       have hrw:∀ k,((S 1 u).getD kN).ownBlock=some k->k<w.heap.size:=fun k hk=>cA (HG.out.row (c:=1) (v:=u) dc) hk;rw[hsv]at hlk hrw hrow5;have HRow:=qd hrow5;clear hrow5 hg5 hsv;have HK2:=qd hK2;clear hK2 hK;have hwl:IntKind.i64.wrap ((lK f.code.length Rp rem:Nat)-1:Int)=(lK f.code.length Rp (nS rem u):Nat):=by rw[IntWalk.i64_in _ (by omega)];omega
       have HL2:=qd hL2;clear hL2;have hbx0:∀ j,(Value.slice (some ⟨g,0,none⟩) t.length c1).ownBlock=some j->w.heap.size+4<=j:=fun j hj=>hvb j hj;obtain⟨W6,hW6⟩:∃ wo:World,wo=wr:=⟨_,rfl⟩
       go_upto_region 25 with(fail)
       rw[<-hW6]at hbr hzr OB OF OM HP HRow ⊢;have hbw0:=hbr;clear hW6 hlk b3 f5 t0 hvb;go_loopw [12,79] (fun vt i wx=>∃ (j p2:Nat) (c:Nat->Nat) (td:List Int),j<=(G 1 u).length/\i=.int .i64 j/\p2<=p+j/\Hid (pQ (G 1) f.code.length Rp c (nS rem u) td ((G 1 u).drop j))/\Below w.heap.size w wx/\w.heap.size+4<=wx.heap.size/\Hid (aF wx w.heap.size [.map (some b0),.map (some (b0+1)),.map (some (b0+2))])/\Hid (aF wx (w.heap.size+1) [.string f.name,.slice pa pl pc,.int .i64 f.regs,.int .i64 f.words,.slice ca f.code.length cc])/\Hid (jG wx (w.heap.size+1+1) p2 c)/\(∀ j,vt.ownBlock=some j->w.heap.size+4<=j)/\Hid (wx.ownsRow 0 3 1 vt td.length (aR td))) (fun vt i _=>(G 1 u).length-(intOf i).toNat)
       case atStart=>exact⟨0,p,c,t,Nat.zero_le _,rfl,oz,by simpa using HK2,hbr,hzr,OB,OF,OM,hbx0,HP⟩
       case round =>
        rename_i wq3;clear hbr hzr OB OF OM hbx0 HP HK2;obtain⟨j,p2,c,td,hj,rfl,hp2,hK,hbr,hzr,OB,OF,OM,hvb,hrow⟩:=hrel;by_cases hjt:j<(G 1 u).length
        ·have d3:(j:Int)<((G 1 u).length:Int):=oz
         have hwj:IntKind.i64.wrap ((j:Int)+1)=(j:Int)+1:=IntWalk.i64_in _ oz;have hgj:(G 1 u)[j]? = some ((G 1 u).getD j 0):=aAe
         obtain⟨v0,hv0,hvn,hvr⟩:=hR4.out u _ (List.mem_of_getElem? hgj);have hdr:(G 1 u).drop j=(v0:Int)::(G 1 u).drop (j+1):=by
          rw[List.drop_eq_getElem_cons hjt,<-hv0,List.getD_eq_getElem?_getD,List.getElem?_eq_getElem hjt];rfl
         have hK1:=hK.out;rw[hdr]at hK1;obtain⟨hK2,hcp⟩:=hK1.step hvn hvr;have hcl:c v0<=4198400:=by
          have h1:=hK.out.cn v0;have h2:=aDr hA (nS rem u) v0;have h3:=List.count_le_length (a:=(v0:Int)) (l:=(G 1 u).drop j);rw[List.length_drop]at h3;omega
         have htl:=hK.out.len;obtain⟨g2,gc2,hgv,-,-,hgl2⟩:=bB HRow.out oz;cases hgv;have hgw:g2<w.heap.size:=hrw g2 rfl;have cc0:=((hbr.cell (p:=⟨g2,j,none⟩) hgw).trans ((hbw0.cell (p:=⟨g2,j,none⟩) hgw).symm)).trans (aH HRow.out (aV hgj));rw[hv0]at cc0;have hv1:v0<1024:=oz
         have hlk:=OM.out.get hv1;obtain⟨W8,hrun8,hM8,hc8⟩:=OM.out.put bH hv1 (c v0-1);have hz8:=hc8.size;have hlk8:=hM8.get hv1;rw[if_pos rfl]at hlk8;have OB8:=hc8.own OB.out oz;have OF8:=hc8.own OF.out oz;have hb8:Below w.heap.size w W8:=hbr.trans (hc8.below _ hbr.size (fun k hk e=>by omega));have R8:=aN hc8 hrow.out (fun k hk e=>by have:=hvb k hk;omega);have M8:=qd (hM8.cast (c':=aD4 c v0) (fun k _=>rfl));have HK3:=qd hK2;have OB9:=qd OB8;have OF9:=qd OF8;have R9:=qd R8;have b3:=gV OB8;clear hK hK1 hK2 hdr hgj hM8 OB OF OM OB8 OF8 R8 hrow;unfold aKc at HK3;obtain⟨C,hC⟩:∃ C,C=c v0:=⟨_,rfl⟩
         rw[<-hC]at hlk hrun8 hlk8 hcp hcl HK3;have hwc:IntKind.i64.wrap ((C:Int)-1)=((C-1:Nat):Int):=tU
         clear hC;by_cases hC0:C-1=0
         ·rw[hC0]at hwc hrun8 hlk8;rw[show((0:Nat):Int)=0 from rfl]at hwc hrun8 hlk8;rw[if_pos hC0]at HK3;go_wp2_with (first|(at_builtin;refine bO rfl (.tmp 91) (.tmp 93) 50 3 1 8 (.int .i64 0) rfl Tryz.underlying50 Tryz.infoI rfl dc _ _ _ rfl (aA eN R9.out) ⟨W8.heap.size,0,none⟩ 1 1 (aR [(v0:Int)]) rfl rfl (cC (aF.new' _ _ _ _ rfl)) (bZ _) bH oz dc ?_;intro g4 c4 w4 hr4 hc4 hg4)|fail)
          have hbA:Below W8.heap.size W8 (W8.alloc (.cells #[.int .i64 v0] 3)):=eN;have hc9:aG (fun j=>u12.ownBlock=some j) W8 w4:=(aG.of hbA).trans hc4;have hz9:=hc9.size;have hvb4:∀ i,(Value.slice (some ⟨g4,0,none⟩) (td.length+1) c4).ownBlock=some i->w.heap.size+4<=i:=fun i hi=>by
           have e:g4=i:=by simpa[Value.ownBlock]using hi
           subst e;exact aQ8
          refine⟨⟨j+1,p2+1,aD4 c v0,td++[(v0:Int)],oz,si,oz,HK3,hb8.trans (hc9.below _ hb8.size (fun j hj e=>by have:=hvb j e;omega)),oz,qd (hc9.own OB9.out (fun e=>by have:=hvb _ e;omega)),qd (hc9.own OF9.out (fun e=>by have:=hvb _ e;omega)),qd (M8.out.chg hc9 (fun e=>by have:=hvb _ e;omega)),hvb4,qd (by rw[List.length_append,bK];exact hr4)⟩,?_⟩;go_light;exact ml
         ·have q1:¬((C-1:Nat):Int)=0:=oz
          have q2:(((C-1:Nat):Int)==0)=false:=oI
          rw[if_neg hC0]at HK3;generalize C-1=C2 at *;go_wp2_with fail;refine⟨⟨j+1,p2+1,aD4 c v0,td,oz,si,oz,HK3,hb8,oz,OB9,OF9,M8,hvb,R9⟩,?_⟩;go_light;exact ml
        ·have hjj:j=(G 1 u).length:=oz
         subst hjj;have d3:¬((G 1 u).length:Int)<((G 1 u).length:Int):=oz
         rw[List.drop_length]at hK;go_wp2
         go_roundg (lK f.code.length Rp (nS rem u))
         case measure=>have:=HL2.out;omega
         case rel=>exact⟨c,nS rem u,td,p2,rfl,rfl,hK,by have:=HL2.out;omega,by have:=HL2.out;omega,hbr,hzr,OB,OF,OM,hvb,hrow⟩
  ·have hi0:0<=i:=by
    unfold jJ at hMi;split at hMi
    ·assumption
    ·cases hMi
   obtain⟨a,rfl⟩:=Int.eq_ofNat_of_zero_le hi0;rw[fC]at hMi;have ha:a<1024:=by
    refine Classical.byContradiction fun h=>?_;rw[HG.out.big 1 a (by decide) h]at hMi;cases hMi
   have hlt:=hR.out.lt;have hgr:=HG.out.below hbr;have hb2:Below w.heap.size w W2:=hbr.trans (hc2.below _ hbr.size (fun k hk e=>by omega));have hrow:=(HG.out.below hb2).each 1 a s dc hMi;have hal:=hA a;obtain⟨sa,sc,rfl⟩:∃ sa sc,s=.slice sa (G 1 a).length sc:=by
    exact aJ6
   have hlc:=aAp ha hli;have HR2:=qd hR2;have HRow:=qd hrow;have OB2:=qd (hc2.own OB.out oz);have OF2:=qd (hc2.own OF.out oz);have OM2:=qd (OM.out.chg hc2 oz);have hc':Below W2.heap.size W2 W2:=Below.refl _ _;clear OB OF OM hR hR2 hrow hgr hc2;go_wp2;go_loopw [29] (fun i wx=>∃ j p:Nat,j<=(G 1 a).length/\i=.int .i64 j/\p<=q+j/\aG (· = w.heap.size+1+1) W2 wx/\Hid (jG wx (w.heap.size+1+1) p (fun v=>lS (G 1) (fun u=>left u) v+((G 1 a).take j).count (v:Int)))) (fun i _=>(G 1 a).length-(intOf i).toNat)
   case atStart=>exact⟨0,q,Nat.zero_le _,rfl,oz,aG.refl _ _,qd (OM2.out.cast fun v _=>by simp)⟩
   case round =>
    rename_i wq;obtain⟨j,p,hj,rfl,hp,hcx,OMx⟩:=hrel;by_cases hjt:j<(G 1 a).length
    ·have d3:(j:Int)<((G 1 a).length:Int):=oz
     have hwj:IntKind.i64.wrap ((j:Int)+1)=(j:Int)+1:=IntWalk.i64_in _ oz;have hgj:(G 1 a)[j]? = some ((G 1 a).getD j 0):=aAe
     obtain⟨v0,hv0,hv1⟩:=HGE.out.el 1 a _ (List.mem_of_getElem? hgj);obtain⟨g,gc,hgv,-,-,-⟩:=bB HRow.out oz;cases hgv;have hgw:g<w.heap.size:=cA (HG.out.each 1 a _ dc hMi) rfl;have c0:=(hcx.cellAt j (show g<W2.heap.size by omega) oz).trans (aH HRow.out (aV hgj));rw[hv0]at c0;have hlk:=OMx.out.get hv1;have hbd:lS (G 1) (fun u=>left u) v0+((G 1 a).take j).count (v0:Int)<=4198400:=by
      have h1:=aDr hA (fun u=>left u) v0;have h2:=List.count_le_length (a:=(v0:Int)) (l:=(G 1 a).take j);rw[List.length_take]at h2;omega
     obtain⟨W3,hrun3,hc3,hk3⟩:=OMx.out.put bH hv1 (lS (G 1) (fun u=>left u) v0+((G 1 a).take j).count (v0:Int)+1);rw[Int.natCast_add (lS (G 1) (fun u=>left u) v0+((G 1 a).take j).count (v0:Int)) 1]at hrun3;have HC3:=qd (hc3.cast (c':=fun v=>lS (G 1) (fun u=>left u) v+((G 1 a).take (j+1)).count (v:Int)) (fun v hv=>by
      rw[aIh hjt,hv0];by_cases e:v=v0
      ·subst e;simp;omega
      ·rw[if_neg (by omega),if_neg e];rfl))
     clear hc3;generalize lS (G 1) (fun u=>left u) v0+((G 1 a).take j).count (v0:Int)=C at hlk hbd hrun3;rw[show((1:Nat):Int)=1 from rfl]at hrun3;have hwc:IntKind.i64.wrap ((C:Int)+1)=(C:Int)+1:=IntWalk.i64_in _ oz;go_wp2;refine⟨⟨j+1,p+1,oz,si,oz,hcx.trans hk3,HC3⟩,?_⟩;go_light;exact ml
    ·have hjj:j=(G 1 a).length:=oz
     subst hjj;have d3:¬((G 1 a).length:Int)<((G 1 a).length:Int):=oz
     have hzx:=hcx.size;have hbx:Below w.heap.size w wr:=hb2.trans (hcx.below _ hb2.size (fun k hk e=>by omega));go_wp2
     go_roundg c2
     case measure=>exact hlt2
     case rel =>
      refine⟨_,p,qd (HR2.out.keep (hcx.block _ HR2.out.owns.lt (by have:=HG.out.lb;have:=(HG.out.map 1 dc).lt;omega)) (hcx.block _ HR2.out.lt.1 oz)),oz,qd (fun i h=>hsm.out i (by simp at h;exact h.1)),hbx,oz,qd (hcx.own OB2.out oz),qd (hcx.own OF2.out oz),qd (OMx.out.cast fun v hv=>?_)⟩;rw[List.take_length];rw[aFx (rem:=fun u:Nat=>left (u:Int)&&decide ((u:Int)≠(a:Int))) (u:=a) ha (by simp) v];congr 1;refine yH (fun u _=>.inl ?_) v;unfold nS;by_cases e:u=a
      ·subst e;simpa using hli.symm
      ·have:(u:Int)≠(a:Int):=oz
       simp[e,this]
def wrB (op:Int):Bool:=(decide (1<=op)&&decide (op<=11))||decide (op=18)||decide (op=19)
theorem aU9 (op:Int):(dK op&&(dM op.toNat).writes)=wrB op:=by
 by_cases h:0<=op/\op<20
 ·obtain⟨k,rfl⟩:=Int.eq_ofNat_of_zero_le h.1;have hk:k<20:=oz
  have:∀ k:Fin 20,(dK ((k.val:Nat):Int)&&(dM ((k.val:Nat):Int).toNat).writes)=wrB ((k.val:Nat):Int):=dc
  exact this ⟨k,hk⟩
 ·have h1:dK op=false:=by unfold dK;simp;omega
  have h2:wrB op=false:=by unfold wrB;simp;omega
  rw[h1,h2];rfl
theorem nP {p:Prop}(h:p:=by
 unfold wrB at h;simp at h ⊢;omega):p:=h
theorem aE0 (x:dJ) (w:World):Calls Tryz.prog 76 #[nF x] w fun e w'=>e=.returned (.int .i64 (dP x))/\Below w.heap.size w w':=by
 have hE:dP x=if wrB x.op then x.a else -1:=by unfold dP;rw[aU9]
 rw[hE];clear hE;obtain⟨op,a,b,c,n⟩:=x;unfold nF;dsimp only;by_cases h:wrB op=true
 ·rw[h];have h2:op=1\/op=2\/op=3\/op=4\/op=5\/op=6\/op=7\/op=8\/op=9\/op=10\/op=11\/op=18\/op=19:=by unfold wrB at h;simp at h;omega
  clear h;rcases h2 with rfl|rfl|rfl|rfl|rfl|rfl|rfl|rfl|rfl|rfl|rfl|rfl|rfl
  all_goals
   go_enter Tryz.func76,Tryz.ntmps76;go_wp2
   try rw[Exit.noGoto_ret]
   go_ret;exact⟨rfl,bel⟩
 ·have h2:wrB op=false:=by simpa using h
  rw[h2];have e1:(op==1)=false:=nP
  have e2:(op==2)=false:=nP
  have e3:(op==3)=false:=nP
  have e4:(op==4)=false:=nP
  have e5:(op==5)=false:=nP
  have e6:(op==6)=false:=nP
  have e7:(op==7)=false:=nP
  have e8:(op==8)=false:=nP
  have e9:(op==9)=false:=nP
  have e10:(op==10)=false:=nP
  have e11:(op==11)=false:=nP
  have e18:(op==18)=false:=nP
  have e19:(op==19)=false:=nP
  clear h h2;go_enter Tryz.func76,Tryz.ntmps76;go_wp2
  try rw[Exit.noGoto_ret]
  go_ret;exact⟨rfl,bel⟩
end Go.Proofs.YteebpnbdihcfmaaGreatDoor
