/- loops; The plain forms of package loops; The plain forms of package trips, and what they tell of a fu; Loops as they lie in memory; Depth, walked; loops -/
import Derived.Test.YteebpnbdihcfmaaGreatDoorJ07
import Derived.Test.YteebpnbdihcfmaaGreatDoorJ05
import Derived.Test.YteebpnbdihcfmaaGreatDoorJ01
set_option linter.unusedVariables false
set_option linter.unusedSimpArgs false
set_option maxRecDepth 100000
set_option maxHeartbeats 20000000
namespace Go.Proofs.YteebpnbdihcfmaaGreatDoor
open Go.RowKit
section
attribute [local go_sem] Oper.semAt_some
open Classical in
/-- does v dominate u? -/
noncomputable def domB (f:PFunc) (v u:Nat):Bool:=decide (¬(v≠0/\Wx (EdgeP f) v 0 u))
/-- what the maps hold, of some edges: who leads there; where it leads by edges that are no back edges; who leads back -/
noncomputable def grP (f:PFunc) (pre:List (Nat×Int)) (c k:Nat):List Int :=
 if c=0 then fromL pre k else if c=1 then(pre.filter (fun x=>x.1==k && !domB f x.2.toNat x.1)).map (fun x=>x.2)
 else(pre.filter (fun x=>x.2==(k:Int)&&domB f x.2.toNat x.1)).map (fun x=>(x.1:Int))
theorem grP_zero (f:PFunc) (pre:List (Nat×Int)) (k:Nat):grP f pre 0 k=fromL pre k:=rfl
theorem grP_back (f:PFunc) (pre:List (Nat×Int)) (u v:Nat) (hd:domB f v u=true) (c k:Nat) (hc:c<3):grP f (pre++[(u,(v:Int))]) c k=updG (updG (grP f pre) 0 v u) 2 v u c k:=by
 obtain rfl|rfl|rfl:c=0\/c=1\/c=2:=oz
 ·rw[updG_ne (by omega),grP_zero,fromL_snoc];by_cases e:k=v
  ·subst e;rw[if_pos rfl,updG_self,grP_zero]
  ·rw[if_neg e,updG_ne (by omega),grP_zero]
 ·rw[updG_ne (by omega),updG_ne (by omega)];unfold grP;rw[if_neg (by omega),if_pos rfl,if_neg (by omega),if_pos rfl,List.filter_append];simp[hd]
 ·unfold updG grP;simp only[List.filter_append];by_cases e:k=v
  ·subst e;simp[hd]
  ·simp[e];omega
theorem grP_ahead (f:PFunc) (pre:List (Nat×Int)) (u v:Nat) (hd:domB f v u=false) (c k:Nat) (hc:c<3):grP f (pre++[(u,(v:Int))]) c k=updG (updG (grP f pre) 0 v u) 1 u v c k:=by
 obtain rfl|rfl|rfl:c=0\/c=1\/c=2:=oz
 ·rw[updG_ne (by omega),grP_zero,fromL_snoc];by_cases e:k=v
  ·subst e;rw[if_pos rfl,updG_self,grP_zero]
  ·rw[if_neg e,updG_ne (by omega),grP_zero]
 ·unfold updG grP;simp only[List.filter_append];by_cases e:k=u
  ·subst e;simp[hd]
  ·have e2:¬u=k:=fun h=>e h.symm;simp[e,e2]
 ·rw[updG_ne (by omega),updG_ne (by omega)];unfold grP;rw[if_neg (by omega),if_neg (by omega),if_neg (by omega),if_neg (by omega),List.filter_append];simp[hd]
theorem grP_nil (f:PFunc) (c k:Nat):grP f [] c k=[]:=by unfold grP fromL;simp
theorem grP_len (f:PFunc) (pre:List (Nat×Int)) (c k:Nat):(grP f pre c k).length<=pre.length:=by
 unfold grP;split
 ·exact fromL_len _ _
 ·split<;>(rw[List.length_map];exact List.length_filter_le _ _)
theorem GraphAt.cast {W:World}{lo b0 n:Nat}{G G':Nat->Nat->List Int}{S:Nat->Nat->Option Value}(h:GraphAt W lo b0 n G S) (e:∀ c k,c<3->G' c k=G c k):GraphAt W lo b0 n G' S :=
 ⟨h.map,fun c v s hc hs=>by rw[e c v hc];exact h.each c v s hc hs,fun c v hc=>by rw[e c v hc];exact h.ent c v hc,h.low,h.lb,h.dis,h.big⟩
theorem TreeOk.step {f:PFunc}{near:List Int}{nr:Nat->Int}{rk:Nat->Nat}(h:TreeOk f near nr rk) {a v:Nat}(hne:a≠v) (ha:Rch f a) (hal:a<f.code.length) :
 (near[a]? = some (-1)/\¬Ch nr a v)\/∃ y:Nat,near[a]? = some (y:Int)/\Rch f y/\rk y<rk a/\(Ch nr a v↔Ch nr y v):=by
 by_cases h0:a=0
 ·subst h0;refine .inl ⟨h.z,fun hc=>?_⟩;rcases hc.inv with e|⟨_,k,_⟩
  ·exact hne e
  ·exact k rfl
 ·have hd:=h.dn a ha;have hu:=h.up a (nr a).toNat h0 oz;refine .inr ⟨(nr a).toNat,by rw[h.at_ a (by omega) hal];congr 1;omega,hu.2.1,hu.2.2,fun hc=>?_,fun hc=>.up a _ v h0 oz hc⟩;rcases hc.inv with e|⟨y,_,e,k⟩
  ·exact absurd e hne
  ·rw[e,Int.toNat_natCast];exact k
open Classical in
theorem TreeOk.domIff {f:PFunc}{near:List Int}{nr:Nat->Int}{rk:Nat->Nat}(h:TreeOk f near nr rk) {u v:Nat}(hu:Rch f u):domB f v u=true↔Ch nr u v:=by
 unfold domB;exact decide_eq_true_iff.trans (h.dom u v hu).symm
def atM (rk:Nat->Nat) (v:Value):Nat:=if intOf v<0 then 0 else rk (intOf v).toNat+1
theorem atM_neg (rk:Nat->Nat):atM rk (.int .i64 (-1))=0:=by unfold atM;exact if_pos (show(-1:Int)<0 by omega)
theorem atM_nat (rk:Nat->Nat) (a:Nat):atM rk (.int .i64 a)=rk a+1:=by unfold atM;exact(if_neg (show ¬(a:Int)<0 by omega)).trans (by simp[intOf])
theorem KpE.trans {own:World->Nat->Prop}{W W1 W2:World}(h1:KpE own W W1) (h2:KpE own W1 W2):KpE own W W2 :=
 ⟨Chg.trans2 h1.1 h2.1 (fun k hk ho=>by
  rcases h1.2 k ho with h|h
  ·exact h
  ·omega),fun k hk=>by
  rcases h2.2 k hk with h|h
  ·exact h1.2 k h
  ·exact .inr (Nat.le_trans h1.1.size h)⟩
/-- what loops.graphOf holds -/
structure GInv (n:Nat) (w W:World) (zb nb nc:Nat) (near:List Int) (G:Nat->Nat->List Int) (m:Nat):Prop where
 bel:Below w.heap.size w W
 sz:zb+2<=W.heap.size
 gr:∃ q S,q<=m/\GraphAt W (zb+4) (w.heap.size+2) q G S
 res:Own W (w.heap.size+1) [.map none,.map none,.map none]
 gb:Own W (w.heap.size+5) [.map (some (w.heap.size+2)),.map (some (w.heap.size+2+1)),.map (some (w.heap.size+2+2))]
 zx:Own W zb [.slice (some ⟨nb,0,none⟩) n nc]
 nr:W.ownsRow 0 3 1 (.slice (some ⟨nb,0,none⟩) n nc) n (Nums near)
 l1:w.heap.size+6<=nb
 l2:nb<zb
section
variable {n m : Nat} {w W W' : World} {zb nb nc : Nat} {near : List Int} {G G' : Nat -> Nat -> List Int}
theorem GInv.notOwn (h:GInv n w W zb nb nc near G m) {k:Nat}(hk:k<zb+4) (hne:¬(w.heap.size+2<=k/\k<w.heap.size+5)):¬OwnG (w.heap.size+2) W k:=fun ho=>by
 obtain⟨q,S,_,hg⟩:=h.gr;rcases hg.ownGe ho with e|e
 ·exact hne ⟨oz,oz⟩
 ·omega
theorem GInv.kept (h:GInv n w W zb nb nc near G m) (hk:KpE (OwnG (w.heap.size+2)) W W') {m':Nat}(hg:∃ q S,q<=m'/\GraphAt W' (zb+4) (w.heap.size+2) q G' S):GInv n w W' zb nb nc near G' m':=by
 have l1:=h.l1;have l2:=h.l2;refine⟨h.bel.trans (hk.1.below _ h.bel.size (fun k hk=>h.notOwn oz oz)),Nat.le_trans h.sz hk.1.size,hg,hk.1.own h.res (h.notOwn oz oz),hk.1.own h.gb (h.notOwn oz oz),hk.1.own h.zx (h.notOwn oz oz),?_,l1,l2⟩;exact row_chg hk.1 h.nr (fun k hk=>h.notOwn (by have:nb=k:=ob1 hk;omega) (by have:nb=k:=ob1 hk;omega))
theorem GInv.cast (h:GInv n w W zb nb nc near G m) (e:∀ c k,c<3->G' c k=G c k) {m':Nat}(hm:m<=m'):GInv n w W zb nb nc near G' m':=by
 obtain⟨q,S,hq,hg⟩:=h.gr;exact⟨h.bel,h.sz,⟨q,S,oz,hg.cast e⟩,h.res,h.gb,h.zx,h.nr,h.l1,h.l2⟩
theorem GInv.below (h:GInv n w W zb nb nc near G m) (hb:Below W.heap.size W W'):GInv n w W' zb nb nc near G m:=by
 obtain⟨q,S,hq,hg⟩:=h.gr;exact⟨h.bel.trans (hb.mono h.bel.size),Nat.le_trans h.sz hb.size,⟨q,S,hq,hg.below hb⟩,h.res.below hb,h.gb.below hb,h.zx.below hb,row_below hb h.nr,h.l1,h.l2⟩
theorem GInv.turn (h:GInv n w W zb nb nc near G m) (c:Turn (zb+2) W W'):GInv n w W' zb nb nc near G m:=by
 obtain⟨q,S,hq,hg⟩:=h.gr;have l1:=h.l1;have l2:=h.l2;exact⟨h.bel.trans (c.below.mono oz),by rw[c.size];exact h.sz,⟨q,S,hq,hg.turn c oz⟩,h.res.turn c oz,h.gb.turn c oz,h.zx.turn c oz,row_turn c h.nr,l1,l2⟩
end
theorem MapAt.made' (W:World) (b:Nat) (hb:b=W.heap.size):MapAt (W.alloc (.map #[] 0)) b 0 (fun _=>none):=by subst hb;exact MapAt.made W
theorem MapAt.alloc {W:World}{b n:Nat}{M:Int->Option Value}(h:MapAt W b n M) (o:Obj):MapAt (W.alloc o) b n M:=h.below ((Below.refl _ _).alloc lr o)
theorem GraphAt.start {W:World}{b0 lo:Nat}(h0:MapAt W b0 0 (fun _=>none)) (h1:MapAt W (b0+1) 0 (fun _=>none)) (h2:MapAt W (b0+2) 0 (fun _=>none)) (hlo:b0+3<=lo):GraphAt W lo b0 0 (fun _ _=>[]) (fun _ _=>none):=by
 have e:rowM (fun _=>none)=fun _=>none:=by funext i;unfold rowM;split<;>rfl
 refine⟨?_,?_,?_,?_,hlo,?_,?_⟩
 ·intro c hc;rw[e];obtain rfl|rfl|rfl:c=0\/c=1\/c=2:=oz
  ·exact h0
  ·exact h1
  ·exact h2
 ·intro c v s _ h;cases h
 ·intro c v _;simp
 ·intro c v s k _ h;cases h
 ·intro c v s d u t k _ _ h;cases h
 ·intro c v _ _;rfl
theorem graph_res {F:Func}{i:Nat}{T:Array Value}{W:World}{k:Nat}{x y z:Value}(hF:F.results=#[.cell i 106]) (hT:T[i]? = some (.pointer (some ⟨k,0,none⟩))) (ho:Own W k [x,y,z]):(results F T).run Tryz.prog W=.ok (.agg #[x,y,z]) W:=by
 have r:=own3 ho;simp[results,hF,go_sem,hT,r]
theorem graphOf_any (B:Nat) (hh:HF) (f:PFunc) (w:World) (hB:B<=w.heap.size) (hf:FuncOk B w hh f) (hn0:0<f.code.length) (hn:f.code.length<=1024):Calls Tryz.prog 49 #[FuncVal hh f] w fun e w' =>
 ∃ b0 lo n S,e=.returned (.agg #[.map (some b0),.map (some (b0+1)),.map (some (b0+2))])/\Below w.heap.size w w'/\w.heap.size<=b0/\GraphAt w' lo b0 n (grP f (edgesL f)) S:=by
 have hmm:=@run_makeMap Tryz.prog;have HF:=qd hf;have HTr:=qd (fun w hB hf=>tree_any B hh f w hB hf hn0 hn);have HEd:=qd (fun w=>edges_any hh f w);obtain⟨pa,pl,pc,ca,cl,cc⟩:=hh;obtain⟨h1,h2,⟨hcl,hcm,hcx⟩,h4,h5⟩:=hf;dsimp only at *;subst hcl;clear h2 hcm hcx h1 h4 h5;unfold FuncVal at *;dsimp only at *;refine(callsIn_wide (n:=3)).1 ?_;refine callsIn_of_wp_marks Tryz.func49 rfl trivial ?_ rfl;refine wpIn_wide.2 ?_;simp only[Tryz.ntmps49,List.size_toArray,List.length_cons,List.length_nil,Nat.reduceAdd,Nat.reduceSub,Array.replicate_succ,Array.replicate_zero,List.push_toArray,List.append_toArray,List.nil_append,List.cons_append];go_upto_region 2 with(fail)
 generalize hW0:World.alloc _ _=W0;have hb0:Below w.heap.size w W0:=by rw[<-hW0];exact bel
 have OB:Own W0 w.heap.size [.string f.name,.slice pa pl pc,.int .i64 f.regs,.int .i64 f.words,.slice ca f.code.length cc]:=by rw[<-hW0];exact(((((Own.new _ _ _).alloc _).alloc _).alloc _).alloc _).alloc _
 have OR:Own W0 (w.heap.size+1) [.map none,.map none,.map none]:=by rw[<-hW0];exact((((Own.new' _ _ _ _ si).alloc _).alloc _).alloc _).alloc _
 have OX:Own W0 (w.heap.size+5) [.map (some (w.heap.size+2)),.map (some (w.heap.size+2+1)),.map (some (w.heap.size+2+2))]:=by rw[<-hW0];exact Own.new' _ _ _ _ si
 have hz0:W0.heap.size=w.heap.size+6:=by rw[<-hW0];simp
 have OG:∀ lo,w.heap.size+5<=lo->GraphAt W0 lo (w.heap.size+2) 0 (fun _ _=>[]) (fun _ _=>none):=fun lo hlo=>by
  refine GraphAt.start ?_ ?_ ?_ hlo
  ·rw[<-hW0];exact(((MapAt.made' _ _ si).alloc _).alloc _).alloc _
  ·rw[<-hW0];exact((MapAt.made' _ _ si).alloc _).alloc _
  ·rw[<-hW0];exact(MapAt.made' _ _ si).alloc _
 have HB:=qd OB;have HR:=qd OR;have HX:=qd OX;have HG:=qd OG;have b5:=own5 OB;clear OR OX OG OB hW0 hmm;go_upto_region 3 with(first|(go_at_call 91;refine(HTr.out _ oz (HF.out.same (Same.of hb0 hB))).mono ?_;rintro e w1 ⟨near,nr,rk,hok,nv,rfl,hb1,hr1,hf1,hn1⟩;obtain⟨nb,nc,rfl,hnc1,hnc2,hnb⟩:=row_pos hr1 (by rw[hok.len];exact hn0))|fail)
 have hnl:near.length=f.code.length:=hok.len;rw[hnl]at hr1 ⊢;have hz1:=hb1.size;have hf1':=hf1 nb rfl;generalize hzb:w1.heap.size=zb at *;generalize hW2:World.alloc _ _=W2;have hz2:W2.heap.size=zb+1:=by rw[<-hW2];simp[hzb]
 have hb2:Below W0.heap.size W0 W2:=by rw[<-hW2];exact hb1.alloc oz _
 have HB2:=qd (HB.out.below hb2);have b5':=own5 HB2.out;have hZ2:Own W2 zb [.slice (some ⟨nb,0,none⟩) f.code.length nc]:=by rw[<-hW2,<-hzb];exact Own.new _ _ _
 have hN2:W2.ownsRow 0 3 1 (.slice (some ⟨nb,0,none⟩) f.code.length nc) f.code.length (Nums near):=by rw[<-hW2];exact row_below bal hr1
 have HZ2:=qd hZ2;have HN2:=qd hN2;clear hZ2 hN2 hW2 hr1 hf1 hn1 hb1 b5 HB;unfold boxOf at HEd;go_wp2_with (first|(go_at_call 22;refine(HEd.out _).mono ?_;rintro e w4 ⟨rfl,hw4⟩)|fail)
 rw[<-hw4];have hz4:w4.heap.size=zb+2:=by rw[hw4];simp[hz2]
 have hb4:Below W2.heap.size W2 w4:=by rw[hw4];exact(Below.refl _ W2).alloc oz _
 have hb04:Below W0.heap.size W0 w4:=hb2.trans (hb4.mono oz);have X4:Own w4 (zb+1) [.string f.name,.slice pa pl pc,.int .i64 f.regs,.int .i64 f.words,.slice ca f.code.length cc]:=by rw[hw4];exact Own.new' _ _ _ _ oz
 have HM4:Hid (GInv f.code.length w w4 zb nb nc near (grP f []) 0):=qd ⟨hb0.trans (hb04.mono oz),oz,⟨0,_,Nat.le_refl _,((HG.out (zb+4) oz).below hb04).cast (fun c k _=>grP_nil f c k)⟩,HR.out.below hb04,HX.out.below hb04,HZ2.out.below hb4,row_below hb4 HN2.out,oz,oz⟩;have HF4:=qd (HF.out.same (Same.of (hb0.trans (hb04.mono oz)) hB));have hl1:w.heap.size+6<=nb:=oz
 clear HF HG HR HX HZ2 HN2 HB2 hb4 hb04 hb2 hb0 b5' hw4 hz2 HEd HTr;refine range_edges (OwnG (w.heap.size+2)) (fun pre W=>GInv f.code.length w W zb nb nc near (grP f pre) (2*pre.length))
  B (w.heap.size+2) (zb+1) ⟨pa,pl,pc,ca,f.code.length,cc⟩ f rfl rfl hn0 hn oz oz HF4.out X4 ⟨?_,?_,?_⟩ ?_ ?_ ?_ ?_ HM4.out ?_ ?_
 ·rintro pre W k h hk;obtain⟨q,S,_,hg⟩:=h.gr;exact hg.ownLt hk
 ·rintro pre W W' k h hb hk;obtain⟨q,S,_,hg⟩:=h.gr;exact(OwnG.iff (fun c hc=>hb.block _ (hg.map c hc).lt)).1 hk
 ·rintro pre W k h hk;obtain⟨q,S,_,hg⟩:=h.gr;rcases hg.ownGe hk with e|e<;>omega
 ·rintro pre W h hk;exact h.notOwn oz oz hk
 ·rintro pre W W' h hb;exact h.below hb
 ·rintro pre W W' h hc;rw[hz4]at hc;exact h.turn hc
 ·rintro pre W W' k h hc;exact OwnG.iff (fun c hc'=>hc.block _ (.inl oz))
 ·apply Exists.intro;constructor
  ·intro l' x W K hK;have HK:=qd hK;clear hK;unfold encE;gi_wp2;exact HK.out
  ·rintro l' pre x W hT hok2 hsz;obtain⟨v,hxv,hvn,hun⟩:=edges_nat f x (hok2.subset si);obtain⟨u,y⟩:=x;dsimp only at hxv hun ⊢;subst hxv;have hl0:(grP f pre 0 v).length<=4096:=by
    have h1:=grP_len f pre 0 v;have h2:=hok2.length_le;have h3:=edges_len f;rw[List.length_append]at h2;omega
   have hm0:2*pre.length<=8192:=by
    have h2:=hok2.length_le;have h3:=edges_len f;rw[List.length_append]at h2;omega
   gi_wp2;obtain⟨q,S,hq,hg⟩:=hT.gr;have hx:=own3 hT.gb;have hrow:=hg.row (c:=0) (v:=v) dc;obtain⟨sa,sc,hsv⟩:∃ sa sc,(S 0 v).getD nilS=.slice sa (grP f pre 0 v).length sc:=by
    rcases row_form hrow with⟨h1,h2,_⟩|⟨g,c,h1,_⟩
    ·exact⟨none,0,by rw[h1,h2]⟩
    ·exact⟨_,c,h1⟩
   have hbA:Below W.heap.size W W.drew:=(Below.refl _ W).drew;have hbB:Below W.heap.size W (W.alloc (.cells #[.int .i64 (u:Int)] 3)).drew:=bal.drew;have hlk:=((hg.map 0 dc).below hbA).get Tryz.mapS zeroS (inI_nat (show v<1024 by omega));have hlk2:=((hg.map 0 dc).below hbB).get Tryz.mapS zeroS (inI_nat (show v<1024 by omega));rw[rowM_nat,hsv]at hlk hlk2
   try simp only[Nat.add_zero]at hlk hlk2
   rw[hsv]at hrow;have hx0:W.cell? ⟨w.heap.size+5,0,none⟩=some (.map (some (w.heap.size+2+0))):=hx.2.1
   try simp only[Nat.add_zero]at hx0
   refine wpIn_cut (fun _ _ w'=>Hid (GInv f.code.length w w' zb nb nc near (updG (grP f pre) 0 v u) (2*pre.length+1))/\Hid (KpE (OwnG (w.heap.size+2)) W w')) ?_;apply Exists.intro;constructor
   ·refine region_held_round (fun w'=>w'.cell? ⟨w.heap.size+5,0,none⟩=some (.map (some (w.heap.size+2+0)))) kr kr hx0 ?_;intro K0 hK0 hHeld
    try simp only[Nat.add_zero]at hHeld
    (refine wtb 0 rfl ?_ (by intro w' hSw;(try dsimp only at hSw);go_simp;(try with_reducible rfl));try simp only[Act.put,SU])
    (refine wtb 1 rfl ?_ (by intro w' hSw;(try dsimp only at hSw);go_simp;(try with_reducible rfl));try simp only[Act.put,SU])
    (refine wtb 2 rfl ?_ (by intro w' hSw;(try dsimp only at hSw);go_simp;(try with_reducible rfl));try simp only[Act.put,SU])
    (refine wtb 3 rfl ?_ (by intro w' hSw;(try dsimp only at hSw);go_simp;(try with_reducible rfl));try simp only[Act.put,SU])
    (refine wtb 4 rfl ?_ (by intro w' hSw;(try dsimp only at hSw);go_simp;(try with_reducible rfl));try simp only[Act.put,SU])
    (refine wtb 5 rfl ?_ (by intro w' hSw;(try dsimp only at hSw);go_simp;(try with_reducible rfl));try simp only[Act.put,SU])
    (refine wtb 7 rfl ?_ (by intro w' hSw;(try dsimp only at hSw);go_simp;(try with_reducible rfl));try simp only[Act.put,SU])
    refine wpAnyH_ready (rs:=[6,8]) kr si ?_;refine AllReadyH.cons rfl (fun K hK=>?_) (AllReadyH.cons rfl (fun K hK=>?_) AllReadyH.nil)
    all_goals go_simp
    refine hK.out _ _ ?_ (fun hHeld=>?_);(focus((try dsimp only);any_goals (first|assumption|go_keep)));clear hK K;try simp only[Act.put,SU]
    (refine wpAnyH_ready (rs:=[8]) kr si ?_;refine AllReadyH.cons rfl (fun K hK=>?_) AllReadyH.nil)
    go_simp
    refine hK.out _ _ ?_ (fun hHeld=>?_);(focus((try dsimp only);any_goals (first|assumption|go_keep)));clear hK K;try simp only[Act.put,SU]
    rotate_left;refine hK.out _ _ ?_ (fun hHeld=>?_);(focus((try dsimp only);any_goals (first|assumption|go_keep)));clear hK K;try simp only[Act.put,SU]
    (refine wpAnyH_ready (rs:=[6]) kr si ?_;refine AllReadyH.cons rfl (fun K hK=>?_) AllReadyH.nil)
    go_simp
    refine hK.out _ _ ?_ (fun hHeld=>?_);(focus((try dsimp only);any_goals (first|assumption|go_keep)));clear hK K;try simp only[Act.put,SU]
    all_goals
     (refine wpAnyH_ready (rs:=[9]) kr si ?_;refine AllReadyH.cons rfl (fun K hK=>?_) AllReadyH.nil)
     refine step_app rfl (.tmp 24) (.tmp 26) 50 3 1 8 (.int .i64 0) rfl Tryz.underlying50 Tryz.infoI rfl dc (.slice sa (grP f pre 0 v).length sc) _ _ rfl (row_below hbB hrow) ⟨W.heap.size,0,none⟩ 1 1 (Nums [(u:Int)]) rfl rfl (src_own (show Own (W.alloc (.cells #[.int .i64 (u:Int)] 3)).drew W.heap.size _ from(Own.new W [.int .i64 (u:Int)] 3).drew)) (Nums_one _) (by unfold maxLen;omega) oz dc ?_;intro g6 c6 w6 hr6 hc6 hg6;have hc7:Chg (fun k=>((S 0 v).getD nilS).ownBlock=some k) W w6:=by rw[hsv];exact(Chg.of hbB).trans hc6
     have hg7:∀ k,(Value.slice (some ⟨g6,0,none⟩) ((grP f pre 0 v).length+1) c6).ownBlock=some k->((S 0 v).getD nilS).ownBlock=some k\/W.heap.size<=k:=fun k hk=>by
      have e:g6=k:=ob1 hk
      subst e;rw[hsv];rcases hg6 with h|h
      ·exact .inl h
      ·simp at h;exact .inr oz
     have hnb:∀ k,k<zb+4->¬((S 0 v).getD nilS).ownBlock=some k:=fun k hk e=>by
      obtain⟨s,hs,e⟩:=hg.ownBlock (c:=0) (v:=v) dc e;have:=hg.low 0 v s k dc hs e;omega
     obtain⟨w7,hrun7,hm7,hc8⟩:=((hg.map 0 dc).chg hc7 (hnb _ (by have:=hT.l1;have:=hT.l2;omega))).set Tryz.mapS (by unfold maxLen;omega) (inI_nat (show v<1024 by omega)) (.slice (some ⟨g6,0,none⟩) ((grP f pre 0 v).length+1) c6);obtain⟨hG2,hK2⟩:=hg.push dc oz hc7 hr6 hg7 oz hm7 hc8;have hB6:w6.cell? ⟨w.heap.size+5,0,none⟩=some (.map (some (w.heap.size+2+0))):=(hc7.cellAt 0 hx.1 (hnb _ (by have:=hT.l1;have:=hT.l2;omega))).trans hx.2.1;have hB7:w7.cell? ⟨w.heap.size+5,0,none⟩=some (.map (some (w.heap.size+2+0))):=(hc8.cellAt 0 (by have:=hc7.size;have:=hx.1;omega) oz).trans hB6
     try simp only[Nat.add_zero]at hB6 hB7 hrun7
     have HG2:=qd (hT.kept hK2 ⟨_,_,Nat.succ_le_succ hq,hG2⟩);have HK2:=qd hK2;clear hG2 hK2 hg7 hnb hc7 hr6 hc6 hm7 hc8;refine hK.out _ _ ?_ (fun hHeld=>?_);(focus((try dsimp only);any_goals (assumption)));clear hK K;try simp only[Act.put,SU]
     (refine wpAnyH_ready (rs:=[10]) kr si ?_;refine AllReadyH.cons rfl (fun K hK=>?_) AllReadyH.nil)
     go_simp
     refine hK.out _ _ ?_ (fun hHeld=>?_);(focus((try dsimp only);any_goals (assumption)));clear hK K;try simp only[Act.put,SU]
     refine anyH_done kr ?_;exact hK0.out _ _ ⟨rfl,g6,c6,rfl,HG2,HK2⟩
   rintro g6 c6 w7 ⟨hG7,hK7⟩;clear hx0 hlk hlk2 hx hrow hsv hbA hbB hg hq;have hur:Rch f u:=((edges_mem f u v).1 (hok2.subset si)).2.1;have HK7:=hK7;have hz7:=hK7.out.1.size;have HN0:=fun k (h1:k<zb+4) h2=>hT.notOwn (k:=k) h1 h2;clear hT hK7;gi_wp2;gi_loopw [7] (fun va wr=>wr=w7/\((va=.int .i64 (-1)/\¬Ch nr u v)\/∃ a:Nat,va=.int .i64 a/\Rch f a/\(Ch nr u v↔Ch nr a v))) (fun va _=>atM rk va)
   case atStart=>exact⟨rfl,.inr ⟨u,rfl,hur,Iff.rfl⟩⟩
   case round =>
    obtain⟨rfl,hrel⟩:=hrel;rcases hrel with⟨rfl,hno⟩|⟨a,rfl,har,hiff⟩
    ·have hdb:domB f v u=false:=by
      cases e:domB f v u with
      | false=>rfl
      | true=>exact absurd ((hok.domIff hur).1 e) hno
     have q1:¬(-1:Int)=(v:Int):=oz
     have q2:((-1:Int)==(v:Int))=false:=by rw[beq_eq_false_iff_ne];omega
     gi_wp2;have hl9:(updG (grP f pre) 0 v u 1 u).length<=4096:=by
      rw[updG_ne (by omega)];have h1:=grP_len f pre 1 u;have h2:=hok2.length_le;have h3:=edges_len f;rw[List.length_append]at h2;omega
     obtain⟨hT,-⟩:∃ h:GInv f.code.length w wr zb nb nc near (updG (grP f pre) 0 v u) (2*pre.length+1),True:=⟨hG7.out,trivial⟩
     obtain⟨q,S,hq,hg⟩:=hT.gr;have hx:=own3 hT.gb;have hrow:=hg.row (c:=1) (v:=u) dc;obtain⟨sa,sc,hsv⟩:∃ sa sc,(S 1 u).getD nilS=.slice sa (updG (grP f pre) 0 v u 1 u).length sc:=by
      rcases row_form hrow with⟨h1,h2,_⟩|⟨g,c,h1,_⟩
      ·exact⟨none,0,by rw[h1,h2]⟩
      ·exact⟨_,c,h1⟩
     have hbA:Below wr.heap.size wr wr.drew:=(Below.refl _ wr).drew;have hbB:Below wr.heap.size wr (wr.alloc (.cells #[.int .i64 (v:Int)] 3)).drew:=bal.drew;have hlk:=((hg.map 1 dc).below hbA).get Tryz.mapS zeroS (inI_nat (show u<1024 by omega));have hlk2:=((hg.map 1 dc).below hbB).get Tryz.mapS zeroS (inI_nat (show u<1024 by omega));rw[rowM_nat,hsv]at hlk hlk2
     try simp only[Nat.add_zero]at hlk hlk2
     rw[hsv]at hrow;have hx0:wr.cell? ⟨w.heap.size+5,1,none⟩=some (.map (some (w.heap.size+2+1))):=hx.2.2.1
     try simp only[Nat.add_zero]at hx0
     refine wpIn_cut (fun _ _ w'=>Hid (GInv f.code.length w w' zb nb nc near (updG (updG (grP f pre) 0 v u) 1 u v) (2*pre.length+1+1))/\Hid (KpE (OwnG (w.heap.size+2)) wr w')) ?_;apply Exists.intro;constructor
     ·refine region_held_round (fun w'=>w'.cell? ⟨w.heap.size+5,1,none⟩=some (.map (some (w.heap.size+2+1)))) kr kr hx0 ?_;intro K0 hK0 hHeld
      try simp only[Nat.add_zero]at hHeld
      (refine wtb 0 rfl ?_ (by intro w' hSw;(try dsimp only at hSw);go_simp;(try with_reducible rfl));try simp only[Act.put,SU])
      (refine wtb 1 rfl ?_ (by intro w' hSw;(try dsimp only at hSw);go_simp;(try with_reducible rfl));try simp only[Act.put,SU])
      (refine wtb 2 rfl ?_ (by intro w' hSw;(try dsimp only at hSw);go_simp;(try with_reducible rfl));try simp only[Act.put,SU])
      (refine wtb 3 rfl ?_ (by intro w' hSw;(try dsimp only at hSw);go_simp;(try with_reducible rfl));try simp only[Act.put,SU])
      (refine wtb 4 rfl ?_ (by intro w' hSw;(try dsimp only at hSw);go_simp;(try with_reducible rfl));try simp only[Act.put,SU])
      (refine wtb 5 rfl ?_ (by intro w' hSw;(try dsimp only at hSw);go_simp;(try with_reducible rfl));try simp only[Act.put,SU])
      (refine wtb 7 rfl ?_ (by intro w' hSw;(try dsimp only at hSw);go_simp;(try with_reducible rfl));try simp only[Act.put,SU])
      refine wpAnyH_ready (rs:=[6,8]) kr si ?_;refine AllReadyH.cons rfl (fun K hK=>?_) (AllReadyH.cons rfl (fun K hK=>?_) AllReadyH.nil)
      all_goals go_simp
      refine hK.out _ _ ?_ (fun hHeld=>?_);(focus((try dsimp only);any_goals (first|assumption|go_keep)));clear hK K;try simp only[Act.put,SU]
      (refine wpAnyH_ready (rs:=[8]) kr si ?_;refine AllReadyH.cons rfl (fun K hK=>?_) AllReadyH.nil)
      go_simp
      refine hK.out _ _ ?_ (fun hHeld=>?_);(focus((try dsimp only);any_goals (first|assumption|go_keep)));clear hK K;try simp only[Act.put,SU]
      rotate_left;refine hK.out _ _ ?_ (fun hHeld=>?_);(focus((try dsimp only);any_goals (first|assumption|go_keep)));clear hK K;try simp only[Act.put,SU]
      (refine wpAnyH_ready (rs:=[6]) kr si ?_;refine AllReadyH.cons rfl (fun K hK=>?_) AllReadyH.nil)
      go_simp
      refine hK.out _ _ ?_ (fun hHeld=>?_);(focus((try dsimp only);any_goals (first|assumption|go_keep)));clear hK K;try simp only[Act.put,SU]
      all_goals
       (refine wpAnyH_ready (rs:=[9]) kr si ?_;refine AllReadyH.cons rfl (fun K hK=>?_) AllReadyH.nil)
       refine step_app rfl (.tmp 59) (.tmp 61) 50 3 1 8 (.int .i64 0) rfl Tryz.underlying50 Tryz.infoI rfl dc (.slice sa (updG (grP f pre) 0 v u 1 u).length sc) _ _ rfl (row_below hbB hrow) ⟨wr.heap.size,0,none⟩ 1 1 (Nums [(v:Int)]) rfl rfl (src_own (show Own (wr.alloc (.cells #[.int .i64 (v:Int)] 3)).drew wr.heap.size _ from(Own.new wr [.int .i64 (v:Int)] 3).drew)) (Nums_one _) (by unfold maxLen;omega) oz dc ?_;intro g6 c6 w6 hr6 hc6 hg6;have hc7:Chg (fun k=>((S 1 u).getD nilS).ownBlock=some k) wr w6:=by rw[hsv];exact(Chg.of hbB).trans hc6
       have hg7:∀ k,(Value.slice (some ⟨g6,0,none⟩) ((updG (grP f pre) 0 v u 1 u).length+1) c6).ownBlock=some k->((S 1 u).getD nilS).ownBlock=some k\/wr.heap.size<=k:=fun k hk=>by
        have e:g6=k:=ob1 hk
        subst e;rw[hsv];rcases hg6 with h|h
        ·exact .inl h
        ·simp at h;exact .inr oz
       have hnb:∀ k,k<zb+4->¬((S 1 u).getD nilS).ownBlock=some k:=fun k hk e=>by
        obtain⟨s,hs,e⟩:=hg.ownBlock (c:=1) (v:=u) dc e;have:=hg.low 1 u s k dc hs e;omega
       obtain⟨w7,hrun7,hm7,hc8⟩:=((hg.map 1 dc).chg hc7 (hnb _ (by have:=hT.l1;have:=hT.l2;omega))).set Tryz.mapS (by unfold maxLen;omega) (inI_nat (show u<1024 by omega)) (.slice (some ⟨g6,0,none⟩) ((updG (grP f pre) 0 v u 1 u).length+1) c6);obtain⟨hG2,hK2⟩:=hg.push dc oz hc7 hr6 hg7 oz hm7 hc8;have hB6:w6.cell? ⟨w.heap.size+5,1,none⟩=some (.map (some (w.heap.size+2+1))):=(hc7.cellAt 1 hx.1 (hnb _ (by have:=hT.l1;have:=hT.l2;omega))).trans hx.2.2.1;have hB7:w7.cell? ⟨w.heap.size+5,1,none⟩=some (.map (some (w.heap.size+2+1))):=(hc8.cellAt 1 (by have:=hc7.size;have:=hx.1;omega) oz).trans hB6
       try simp only[Nat.add_zero]at hB6 hB7 hrun7
       have HG2:=qd (hT.kept hK2 ⟨_,_,Nat.succ_le_succ hq,hG2⟩);have HK2:=qd hK2;clear hG2 hK2 hg7 hnb hc7 hr6 hc6 hm7 hc8;refine hK.out _ _ ?_ (fun hHeld=>?_);(focus((try dsimp only);any_goals (assumption)));clear hK K;try simp only[Act.put,SU]
       (refine wpAnyH_ready (rs:=[10]) kr si ?_;refine AllReadyH.cons rfl (fun K hK=>?_) AllReadyH.nil)
       go_simp
       refine hK.out _ _ ?_ (fun hHeld=>?_);(focus((try dsimp only);any_goals (assumption)));clear hK K;try simp only[Act.put,SU]
       refine anyH_done kr ?_;exact hK0.out _ _ ⟨rfl,g6,c6,rfl,HG2,HK2⟩
     rintro g6 c6 w7 ⟨hG7,hK7⟩;clear hx0 hlk hlk2 hx hrow hsv hbA hbB hg hq;have KF:=HK7.out.trans hK7.out;gi_wp2;refine⟨fun k h1 h2=>KF.1.block k oz (HN0 k oz oz),KF,?_⟩;exact hG7.out.cast (fun c k hc=>grP_ahead f pre u v hdb c k hc) (by simp;omega)
    ·by_cases hav:a=v
     ·subst hav;have hdb:domB f a u=true:=(hok.domIff hur).2 (hiff.2 (.self a));have q2:((a:Int)==(a:Int))=true:=si
      gi_wp2;have hl9:(updG (grP f pre) 0 a u 2 a).length<=4096:=by
       rw[updG_ne (by omega)];have h1:=grP_len f pre 2 a;have h2:=hok2.length_le;have h3:=edges_len f;rw[List.length_append]at h2;omega
      obtain⟨hT,-⟩:∃ h:GInv f.code.length w wr zb nb nc near (updG (grP f pre) 0 a u) (2*pre.length+1),True:=⟨hG7.out,trivial⟩
      obtain⟨q,S,hq,hg⟩:=hT.gr;have hx:=own3 hT.gb;have hrow:=hg.row (c:=2) (v:=a) dc;obtain⟨sa,sc,hsv⟩:∃ sa sc,(S 2 a).getD nilS=.slice sa (updG (grP f pre) 0 a u 2 a).length sc:=by
       rcases row_form hrow with⟨h1,h2,_⟩|⟨g,c,h1,_⟩
       ·exact⟨none,0,by rw[h1,h2]⟩
       ·exact⟨_,c,h1⟩
      have hbA:Below wr.heap.size wr wr.drew:=(Below.refl _ wr).drew;have hbB:Below wr.heap.size wr (wr.alloc (.cells #[.int .i64 (u:Int)] 3)).drew:=bal.drew;have hlk:=((hg.map 2 dc).below hbA).get Tryz.mapS zeroS (inI_nat (show a<1024 by omega));have hlk2:=((hg.map 2 dc).below hbB).get Tryz.mapS zeroS (inI_nat (show a<1024 by omega));rw[rowM_nat,hsv]at hlk hlk2
      try simp only[Nat.add_zero]at hlk hlk2
      rw[hsv]at hrow;have hx0:wr.cell? ⟨w.heap.size+5,2,none⟩=some (.map (some (w.heap.size+2+2))):=hx.2.2.2.1
      try simp only[Nat.add_zero]at hx0
      refine wpIn_cut (fun _ _ w'=>Hid (GInv f.code.length w w' zb nb nc near (updG (updG (grP f pre) 0 a u) 2 a u) (2*pre.length+1+1))/\Hid (KpE (OwnG (w.heap.size+2)) wr w')) ?_;apply Exists.intro;constructor
      ·refine region_held_round (fun w'=>w'.cell? ⟨w.heap.size+5,2,none⟩=some (.map (some (w.heap.size+2+2)))) kr kr hx0 ?_;intro K0 hK0 hHeld
       try simp only[Nat.add_zero]at hHeld
       (refine wtb 0 rfl ?_ (by intro w' hSw;(try dsimp only at hSw);go_simp;(try with_reducible rfl));try simp only[Act.put,SU])
       (refine wtb 1 rfl ?_ (by intro w' hSw;(try dsimp only at hSw);go_simp;(try with_reducible rfl));try simp only[Act.put,SU])
       (refine wtb 2 rfl ?_ (by intro w' hSw;(try dsimp only at hSw);go_simp;(try with_reducible rfl));try simp only[Act.put,SU])
       (refine wtb 3 rfl ?_ (by intro w' hSw;(try dsimp only at hSw);go_simp;(try with_reducible rfl));try simp only[Act.put,SU])
       (refine wtb 4 rfl ?_ (by intro w' hSw;(try dsimp only at hSw);go_simp;(try with_reducible rfl));try simp only[Act.put,SU])
       (refine wtb 5 rfl ?_ (by intro w' hSw;(try dsimp only at hSw);go_simp;(try with_reducible rfl));try simp only[Act.put,SU])
       (refine wtb 7 rfl ?_ (by intro w' hSw;(try dsimp only at hSw);go_simp;(try with_reducible rfl));try simp only[Act.put,SU])
       refine wpAnyH_ready (rs:=[6,8]) kr si ?_;refine AllReadyH.cons rfl (fun K hK=>?_) (AllReadyH.cons rfl (fun K hK=>?_) AllReadyH.nil)
       all_goals go_simp
       refine hK.out _ _ ?_ (fun hHeld=>?_);(focus((try dsimp only);any_goals (first|assumption|go_keep)));clear hK K;try simp only[Act.put,SU]
       (refine wpAnyH_ready (rs:=[8]) kr si ?_;refine AllReadyH.cons rfl (fun K hK=>?_) AllReadyH.nil)
       go_simp
       refine hK.out _ _ ?_ (fun hHeld=>?_);(focus((try dsimp only);any_goals (first|assumption|go_keep)));clear hK K;try simp only[Act.put,SU]
       rotate_left;refine hK.out _ _ ?_ (fun hHeld=>?_);(focus((try dsimp only);any_goals (first|assumption|go_keep)));clear hK K;try simp only[Act.put,SU]
       (refine wpAnyH_ready (rs:=[6]) kr si ?_;refine AllReadyH.cons rfl (fun K hK=>?_) AllReadyH.nil)
       go_simp
       refine hK.out _ _ ?_ (fun hHeld=>?_);(focus((try dsimp only);any_goals (first|assumption|go_keep)));clear hK K;try simp only[Act.put,SU]
       all_goals
        (refine wpAnyH_ready (rs:=[9]) kr si ?_;refine AllReadyH.cons rfl (fun K hK=>?_) AllReadyH.nil)
        refine step_app rfl (.tmp 49) (.tmp 51) 50 3 1 8 (.int .i64 0) rfl Tryz.underlying50 Tryz.infoI rfl dc (.slice sa (updG (grP f pre) 0 a u 2 a).length sc) _ _ rfl (row_below hbB hrow) ⟨wr.heap.size,0,none⟩ 1 1 (Nums [(u:Int)]) rfl rfl (src_own (show Own (wr.alloc (.cells #[.int .i64 (u:Int)] 3)).drew wr.heap.size _ from(Own.new wr [.int .i64 (u:Int)] 3).drew)) (Nums_one _) (by unfold maxLen;omega) oz dc ?_;intro g6 c6 w6 hr6 hc6 hg6;have hc7:Chg (fun k=>((S 2 a).getD nilS).ownBlock=some k) wr w6:=by rw[hsv];exact(Chg.of hbB).trans hc6
        have hg7:∀ k,(Value.slice (some ⟨g6,0,none⟩) ((updG (grP f pre) 0 a u 2 a).length+1) c6).ownBlock=some k->((S 2 a).getD nilS).ownBlock=some k\/wr.heap.size<=k:=fun k hk=>by
         have e:g6=k:=ob1 hk
         subst e;rw[hsv];rcases hg6 with h|h
         ·exact .inl h
         ·simp at h;exact .inr oz
        have hnb:∀ k,k<zb+4->¬((S 2 a).getD nilS).ownBlock=some k:=fun k hk e=>by
         obtain⟨s,hs,e⟩:=hg.ownBlock (c:=2) (v:=a) dc e;have:=hg.low 2 a s k dc hs e;omega
        obtain⟨w7,hrun7,hm7,hc8⟩:=((hg.map 2 dc).chg hc7 (hnb _ (by have:=hT.l1;have:=hT.l2;omega))).set Tryz.mapS (by unfold maxLen;omega) (inI_nat (show a<1024 by omega)) (.slice (some ⟨g6,0,none⟩) ((updG (grP f pre) 0 a u 2 a).length+1) c6);obtain⟨hG2,hK2⟩:=hg.push dc oz hc7 hr6 hg7 oz hm7 hc8;have hB6:w6.cell? ⟨w.heap.size+5,2,none⟩=some (.map (some (w.heap.size+2+2))):=(hc7.cellAt 2 hx.1 (hnb _ (by have:=hT.l1;have:=hT.l2;omega))).trans hx.2.2.2.1;have hB7:w7.cell? ⟨w.heap.size+5,2,none⟩=some (.map (some (w.heap.size+2+2))):=(hc8.cellAt 2 (by have:=hc7.size;have:=hx.1;omega) oz).trans hB6
        try simp only[Nat.add_zero]at hB6 hB7 hrun7
        have HG2:=qd (hT.kept hK2 ⟨_,_,Nat.succ_le_succ hq,hG2⟩);have HK2:=qd hK2;clear hG2 hK2 hg7 hnb hc7 hr6 hc6 hm7 hc8;refine hK.out _ _ ?_ (fun hHeld=>?_);(focus((try dsimp only);any_goals (assumption)));clear hK K;try simp only[Act.put,SU]
        (refine wpAnyH_ready (rs:=[10]) kr si ?_;refine AllReadyH.cons rfl (fun K hK=>?_) AllReadyH.nil)
        go_simp
        refine hK.out _ _ ?_ (fun hHeld=>?_);(focus((try dsimp only);any_goals (assumption)));clear hK K;try simp only[Act.put,SU]
        refine anyH_done kr ?_;exact hK0.out _ _ ⟨rfl,g6,c6,rfl,HG2,HK2⟩
      rintro g6 c6 w7 ⟨hG7,hK7⟩;clear hx0 hlk hlk2 hx hrow hsv hbA hbB hg hq;have KF:=HK7.out.trans hK7.out;gi_wp2;refine⟨fun k h1 h2=>KF.1.block k oz (HN0 k oz oz),KF,?_⟩;exact hG7.out.cast (fun c k hc=>grP_back f pre u a hdb c k hc) (by simp;omega)
     ·have hal:a<f.code.length:=Rch.lt hn0 har;have q1:¬(a:Int)=(v:Int):=oz
      have q2:((a:Int)==(v:Int))=false:=by rw[beq_eq_false_iff_ne];omega
      have q3:(0:Int)<=(a:Int):=oz
      have q4:(a:Int)<(f.code.length:Int):=oz
      have c0:=(own1 hG7.out.zx)
      rcases hok.step hav har hal with⟨hy,hno⟩|⟨y,hy,hyr,hrk,hyi⟩
      ·have c1:=row_cell hG7.out.nr (Nums_some hy);gi_wp2;refine⟨⟨trivial,.inl ⟨rfl,fun k=>hno (hiff.1 k)⟩⟩,?_⟩;go_light;rw[atM_neg,atM_nat];omega
      ·have c1:=row_cell hG7.out.nr (Nums_some hy);gi_wp2;refine⟨⟨trivial,.inr ⟨y,rfl,hyr,hiff.trans hyi⟩⟩,?_⟩;go_light;rw[atM_nat,atM_nat];omega
 ·rintro W7 hT hD;rw[hz4]at hD ⊢;have r3:=own3 hT.res;have g3:=own3 hT.gb;have s3:=set3 hT.res;go_wp2;have l1:=hT.l1;have l2:=hT.l2;generalize hW8:World.setCell _ _ _=W8;have hc8:Chg (· = w.heap.size+1) W7 W8:=by
   rw[<-hW8];exact(((Chg.refl (· = w.heap.size+1) W7).setCell (p:=⟨w.heap.size+1,0,none⟩) (.inl rfl) _).setCell (p:=⟨w.heap.size+1,1,none⟩) (.inl rfl) _).setCell (p:=⟨w.heap.size+1,2,none⟩) (.inl rfl) _
  have hO8:Own W8 (w.heap.size+1) [.map (some (w.heap.size+2)),.map (some (w.heap.size+2+1)),.map (some (w.heap.size+2+2))]:=by
   rw[<-hW8];exact((hT.res.set 0 _ si).set 1 _ si).set 2 _ si
  have hD8:W8.heap[zb+2]? = some (.deferred (some [])):=by
   rw[<-hD];exact hc8.block _ (Array.getElem?_eq_some_iff.1 hD).1 oz
  obtain⟨q,S,hq,hg⟩:=hT.gr;have htn:=Turn.put (b:=zb+2) W8 (zb+2) _ (.deferred none) lr hD8 rfl;have hg8:=(hg.chgLow hc8 (fun k e=>by omega)).turn htn oz;have hb8:Below w.heap.size w W8:=hT.bel.trans (hc8.below _ hT.bel.size (fun k hk e=>by omega));refine⟨si,.inl ⟨_,_,rfl,run_takeDeferred hD8,?_⟩⟩;exact⟨_,graph_res rfl rfl (hO8.turn htn oz),w.heap.size+2,zb+4,q,S,rfl,hb8.trans (htn.below.mono oz),oz,hg8⟩
end
/-- what a graph's lists hold -/
structure GBnd (G:Nat->Nat->List Int):Prop where
 el:∀ c u x,x∈G c u->∃ k:Nat,x=k/\k<1024
 ln:∀ c u,(G c u).length<=4096
 ky:∀ c u x,x∈G c u->u<1024
def nxG (G:Nat->Nat->List Int) (c:Nat):Int->List Int:=fun i=>G c i.toNat
open Classical in
noncomputable def comesB (G:Nat->Nat->List Int) (v:Nat):Bool:=decide (Cl (nxG G 1) (fun _=>false) (G 1 v) v)
open Classical in
theorem comesB_iff {G:Nat->Nat->List Int}{v:Nat}:comesB G v=true↔Cl (nxG G 1) (fun _=>false) (G 1 v) v:=by unfold comesB;exact decide_eq_true_iff
theorem comesB_true {G:Nat->Nat->List Int}{v:Nat}(h:Cl (nxG G 1) (fun _=>false) (G 1 v) v):comesB G v=true:=comesB_iff.2 h
theorem comesB_false {G:Nat->Nat->List Int}{v:Nat}(h:¬Cl (nxG G 1) (fun _=>false) (G 1 v) v):comesB G v=false:=by
 cases e:comesB G v with
 | false=>rfl
 | true=>exact absurd (comesB_iff.1 e) h
theorem Cl.nat {G:Nat->Nat->List Int}{c v:Nat}{q:Nat}(hB:GBnd G) {b0:Int->Bool}{x:Int}(h:Cl (nxG G c) b0 (G q v) x):∃ k:Nat,x=k/\k<1024:=by
 cases h with
 | start _ h=>exact hB.el _ _ _ h
 | step y _ h1 h2 h3=>exact hB.el _ _ _ h3
noncomputable def GL (f:PFunc):Nat->Nat->List Int:=grP f (edgesL f)
theorem GL_mem (f:PFunc) (c u:Nat) (x:Int) (h:x∈GL f c u):∃ k:Nat,x=k/\k<f.code.length/\u<f.code.length/\(if c=1 then EdgeP f u k else EdgeP f k u):=by
 have key:∀ e∈edgesL f,∃ a b:Nat,e=(a,(b:Int))/\a<f.code.length/\b<f.code.length/\EdgeP f a b:=fun e he=>by
  obtain⟨v,hv,h1,h2⟩:=edges_nat f e he;obtain⟨a,b⟩:=e;dsimp only at hv h2;subst hv;exact⟨a,v,rfl,h2,h1,((edges_mem f a v).1 he).2⟩
 unfold GL grP at h;split at h
 ·unfold fromL at h;obtain⟨e,he,rfl⟩:=List.mem_map.1 h;obtain⟨he,hq⟩:=List.mem_filter.1 he;obtain⟨a,b,rfl,h1,h2,h3⟩:=key e he;have h9:(b:Int)=u:=by simpa using hq
  have:b=u:=oz
  subst this;exact⟨a,rfl,h1,h2,by rw[if_neg (by omega)];exact h3⟩
 ·split at h
  ·obtain⟨e,he,rfl⟩:=List.mem_map.1 h;obtain⟨he,hq⟩:=List.mem_filter.1 he;obtain⟨a,b,rfl,h1,h2,h3⟩:=key e he;have:a=u:=by
    simp only[Bool.and_eq_true,beq_iff_eq]at hq;exact hq.1
   subst this;exact⟨b,rfl,h2,h1,by rw[if_pos (by assumption)];exact h3⟩
  ·obtain⟨e,he,rfl⟩:=List.mem_map.1 h;obtain⟨he,hq⟩:=List.mem_filter.1 he;obtain⟨a,b,rfl,h1,h2,h3⟩:=key e he;have:b=u:=by
    simp only[Bool.and_eq_true,beq_iff_eq]at hq;omega
   subst this;exact⟨a,rfl,h1,h2,by rw[if_neg (by assumption)];exact h3⟩
theorem GL_bnd (f:PFunc) (hn:f.code.length<=1024):GBnd (GL f):=by
 refine⟨fun c u x h=>?_,fun c u=>?_,fun c u x h=>?_⟩
 ·obtain⟨k,h1,h2,_⟩:=GL_mem f c u x h;exact⟨k,h1,oz⟩
 ·have h1:=grP_len f (edgesL f) c u;have h2:=edges_len f;unfold GL;omega
 ·obtain⟨k,_,_,h3,_⟩:=GL_mem f c u x h;omega
open Classical in
/-- those of the loop of a head -/
noncomputable def inB_ (G:Nat->Nat->List Int) (h:Nat) (v:Int):Bool:=decide (v=h)||decide (Cl (nxG G 0) (fun x=>decide (x=(h:Int))) (G 2 h) v)
/-- the numbers below n of which something is true, rising -/
def pickN (n:Nat) (p:Int->Bool):List Int:=((List.range n).filter fun k:Nat=>p (k:Int)).map Int.ofNat
structure PLoop where
 head:Nat
 parent:Int
 members:List Int
 backs:List Int
instance : Inhabited PLoop := ⟨⟨0, 0, [], []⟩⟩
noncomputable def loopP (f:PFunc) (h:Nat):PLoop:=⟨h,-1,pickN f.code.length (inB_ (GL f) h),GL f 2 h⟩
def headsP (G:Nat->Nat->List Int) (n:Nat):List Int:=pickN n fun h=>decide (G 2 h.toNat≠[])
def writesP (x:PIns):Int:=if knownB x.op&&(rowAt x.op.toNat).writes then x.a else -1
def codeAt (f:PFunc) (u:Int):PIns:=f.code.getD u.toNat default
/-- does a loop count? else what is wrong first, and where -/
def countsP (f:PFunc) (l:PLoop):Int×Int :=
 if(codeAt f l.head).op≠17 then(71,l.head)else
 match l.backs.find? (fun u=>decide ((codeAt f u).op≠18)||decide ((codeAt f u).a≠(codeAt f l.head).a))with
 | some u=>(72,u)
 | none =>
  match l.members.find? (fun u=>decide (0<=writesP (codeAt f u))&&((decide (writesP (codeAt f u)=(codeAt f l.head).a) && !l.backs.contains u)||decide (writesP (codeAt f u)=(codeAt f l.head).b)))with
  | some u=>(73,u)
  | none=>if l.members.any (fun u=>decide (u=(codeAt f l.head).n))then(74,l.head)else(0,0)
def parTo (ls:List PLoop) (i k:Nat):Int:=(List.range k).foldl (fun cur k=>if i≠k/\(ls.getD k default).members.contains ((ls.getD i default).head:Int)=true/\(cur<0\/(ls.getD k default).members.length<(ls.getD cur.toNat default).members.length)then(k:Int)else cur) (-1)
def parP (ls:List PLoop):List PLoop:=(List.range ls.length).map fun i=>{ (ls.getD i default)with parent:=parTo ls i ls.length }
noncomputable def loopsL (f:PFunc):List PLoop:=(headsP (GL f) f.code.length).map fun h=>loopP f h.toNat
/-- the loops of a function, or what is wrong first -/
noncomputable def findP (f:PFunc):List PLoop×Int×Int :=
 if 1024<f.code.length then([],97,1024)else
 match firstI f.code.length (comesB (GL f))with
 | some v=>([],70,v)
 | none =>
  match (loopsL f).find? (fun l=>decide ((countsP f l).1≠0))with
  | some l=>([],countsP f l)
  | none=>(parP (loopsL f),0,0)
section
def noSp:PSpan:=⟨1,0⟩
def comeP (c:PIns) (lh:PSpan×PSpan) (r:List PSpan):PSpan×PSpan:=(joinP lh.1 (spAt r c.a),joinP lh.2 (spAt r c.b))
/-- an edge that enters a loop: what comes on it -/
def tripE (m:PMod) (f:PFunc) (inn:List (List PSpan)) (l:PLoop) (lh:PSpan×PSpan) (e:Nat×Int):PSpan×PSpan :=
 if e.2≠(l.head:Int)\/l.members.contains (e.1:Int)=true\/inn.getD e.1 []=[]then lh else
 match wayP m f e.1 e.2 (inn.getD e.1 [])with
 | some out=>comeP (f.code.getD l.head default) lh out
 | none=>lh
def tripB (f:PFunc) (l:PLoop):PSpan×PSpan:=if l.head=0 then comeP (f.code.getD l.head default) (noSp,noSp) (beginP f)else(noSp,noSp)
def tripTo (m:PMod) (f:PFunc) (inn:List (List PSpan)) (l:PLoop) (es:List (Nat×Int)):PSpan×PSpan:=es.foldl (tripE m f inn l) (tripB f l)
def lenLH (lh:PSpan×PSpan):Int:=if lh.1.lo<=lh.1.hi then lengthP lh.1 lh.2 else 0
noncomputable def tripN (m:PMod) (f:PFunc) (inn:List (List PSpan)) (l:PLoop):Int:=lenLH (tripTo m f inn l (edgesL f))
/-- the rounds of each loop, or what is wrong -/
noncomputable def tripsP (m:PMod) (f:PFunc) (inn:List (List PSpan)):List Int×Int:=if(findP f).2.1=0 then((findP f).1.map (tripN m f inn),0)else([],(findP f).2.1)
def cntF (nm:ByteArray) (lo hi:Int):PFunc:=⟨nm,[],2,0,[⟨1,0,0,0,lo⟩,⟨1,1,0,0,hi⟩,⟨17,0,1,0,4⟩,⟨18,0,0,0,2⟩,⟨0,0,0,0,0⟩]⟩
def cntM (nm:ByteArray) (lo hi:Int):PMod:=⟨[],[cntF nm lo hi]⟩
section
variable (nm : ByteArray) (lo hi : Int)
theorem cnt_next:nextP (cntF nm lo hi) 0=[1]/\nextP (cntF nm lo hi) 1=[2]/\nextP (cntF nm lo hi) 2=[3,4]/\nextP (cntF nm lo hi) 3=[2]/\nextP (cntF nm lo hi) 4=[]:=⟨rfl,rfl,rfl,rfl,rfl⟩
theorem cnt_rch:Rch (cntF nm lo hi) 0/\Rch (cntF nm lo hi) 1/\Rch (cntF nm lo hi) 2/\Rch (cntF nm lo hi) 3/\Rch (cntF nm lo hi) 4:=by
 obtain⟨n0,n1,n2,n3,n4⟩:=cnt_next nm lo hi;have r0:Rch (cntF nm lo hi) 0:=.zero;have r1:Rch (cntF nm lo hi) 1:=.step 0 1 r0 (by rw[n0];simp);have r2:Rch (cntF nm lo hi) 2:=.step 1 2 r1 (by rw[n1];simp);exact⟨r0,r1,r2,.step 2 3 r2 (by rw[n2];simp),.step 2 4 r2 (by rw[n2];simp)⟩
theorem cnt_edges:edgesL (cntF nm lo hi)=[(0,1),(1,2),(2,3),(2,4),(3,2)]:=by
 obtain⟨n0,n1,n2,n3,n4⟩:=cnt_next nm lo hi;obtain⟨r0,r1,r2,r3,r4⟩:=cnt_rch nm lo hi;have hl:(cntF nm lo hi).code.length=5:=rfl;have key:∀ k,k<5->Rch (cntF nm lo hi) k->(reachP (cntF nm lo hi)).getD k false=true:=fun k hk h=>by
  have:=(reachP_at (cntF nm lo hi) k (by rw[hl];exact hk)).2 h;rw[List.getD_eq_getElem?_getD,this];rfl
 unfold edgesL;rw[hl,edgesTo_succ,edgesTo_succ,edgesTo_succ,edgesTo_succ,edgesTo_succ,key 0 (by omega) r0,key 1 (by omega) r1,key 2 (by omega) r2,key 3 (by omega) r3,key 4 (by omega) r4,n0,n1,n2,n3,n4];rfl
theorem cnt_edge (u v:Nat):EdgeP (cntF nm lo hi) u v↔(u=0/\v=1)\/(u=1/\v=2)\/(u=2/\v=3)\/(u=2/\v=4)\/(u=3/\v=2):=by
 have h:=edges_mem (cntF nm lo hi) u v;rw[cnt_edges]at h;have hl:(cntF nm lo hi).code.length=5:=rfl;rw[hl]at h;constructor
 ·intro he;have hu:u<5:=by
   have:=Rch.lt (by rw[hl];omega) he.1;rw[hl]at this;exact this
  have:=h.2 ⟨hu,he⟩;simp at this;omega
 ·intro he;refine(h.1 ?_).2;simp;omega
theorem cnt_dom:domB (cntF nm lo hi) 1 0=false/\domB (cntF nm lo hi) 2 1=false/\domB (cntF nm lo hi) 3 2=false/\domB (cntF nm lo hi) 4 2=false/\domB (cntF nm lo hi) 2 3=true:=by
 have hE:=cnt_edge nm lo hi;have w1:∀ x,x≠1->Wx (EdgeP (cntF nm lo hi)) x 0 1:=fun x hx=>.step 0 1 .refl ((hE 0 1).2 oz) oz;have w2:∀ x,x≠1->x≠2->Wx (EdgeP (cntF nm lo hi)) x 0 2:=fun x hx hy=>.step 1 2 (w1 x hx) ((hE 1 2).2 oz) oz;unfold domB;refine⟨?_,?_,?_,?_,?_⟩
 ·simp only[decide_eq_false_iff_not,Classical.not_not];exact⟨oz,.refl⟩
 ·simp only[decide_eq_false_iff_not,Classical.not_not];exact⟨oz,w1 2 oz⟩
 ·simp only[decide_eq_false_iff_not,Classical.not_not];exact⟨oz,w2 3 oz oz⟩
 ·simp only[decide_eq_false_iff_not,Classical.not_not];exact⟨oz,w2 4 oz oz⟩
 ·simp only[decide_eq_true_eq];rintro⟨_,hw⟩;have key:∀ y,Wx (EdgeP (cntF nm lo hi)) 2 0 y->y=0\/y=1:=fun y h=>by
   induction h with
   | refl=>exact .inl rfl
   | step u w _ he hx ih=>have:=(hE u w).1 he;omega
  have:=key 3 hw;omega
theorem cnt_GL (c u:Nat):GL (cntF nm lo hi) c u=if c=0 then(if u=1 then[0]else if u=2 then[1,3]else if u=3 then[2]else if u=4 then[2]else[])else
 if c=1 then(if u=0 then[1]else if u=1 then[2]else if u=2 then[3,4]else[])else if u=2 then[3]else[]:=by
 obtain⟨d1,d2,d3,d4,d5⟩:=cnt_dom nm lo hi;unfold GL grP fromL;rw[cnt_edges];by_cases h0:c=0
 ·rw[if_pos h0,if_pos h0];by_cases u1:u=1
  ·subst u1;rfl
  by_cases u2:u=2
  ·subst u2;rfl
  by_cases u3:u=3
  ·subst u3;rfl
  by_cases u4:u=4
  ·subst u4;rfl
  rw[if_neg u1,if_neg u2,if_neg u3,if_neg u4];have e1:((1:Int)==(u:Int))=false:=by simp;omega
  have e2:((2:Int)==(u:Int))=false:=by simp;omega
  have e3:((3:Int)==(u:Int))=false:=by simp;omega
  have e4:((4:Int)==(u:Int))=false:=by simp;omega
  simp only[List.filter_cons,List.filter_nil,List.map_nil,e1,e2,e3,e4,Bool.false_eq_true,if_false]
 ·rw[if_neg h0,if_neg h0];by_cases h1:c=1
  ·rw[if_pos h1,if_pos h1];simp only[List.filter_cons,List.filter_nil,Int.toNat_one,show(2:Int).toNat=2 from rfl,show(3:Int).toNat=3 from rfl,show(4:Int).toNat=4 from rfl,d1,d2,d3,d4,d5,Bool.not_false,Bool.not_true,Bool.and_true,Bool.and_false];by_cases u0:u=0
   ·subst u0;rfl
   by_cases u1:u=1
   ·subst u1;rfl
   by_cases u2:u=2
   ·subst u2;rfl
   rw[if_neg u0,if_neg u1,if_neg u2];have e:∀ k:Nat,k≠u->(k==u)=false:=fun k hk=>by simpa using hk
   simp[e 0 (by omega),e 1 (by omega),e 2 (by omega)]
  ·rw[if_neg h1,if_neg h1];simp only[List.filter_cons,List.filter_nil,Int.toNat_one,show(2:Int).toNat=2 from rfl,show(3:Int).toNat=3 from rfl,show(4:Int).toNat=4 from rfl,d1,d2,d3,d4,d5,Bool.and_true,Bool.and_false];by_cases u2:u=2
   ·subst u2;rfl
   rw[if_neg u2];have e:((2:Int)==(u:Int))=false:=by simp;omega
   simp[e]
theorem cnt_comes (v:Nat):comesB (GL (cntF nm lo hi)) v=false:=by
 apply comesB_false;have key:∀ y,Cl (nxG (GL (cntF nm lo hi)) 1) (fun _=>false) (GL (cntF nm lo hi) 1 v) y->(v:Int)<y:=fun y h=>by
  have step:∀ (u:Nat) (z:Int),z∈GL (cntF nm lo hi) 1 u->(u:Int)<z:=fun u z hz=>by
   rw[cnt_GL]at hz;simp only[show ¬((1:Nat)=0) by omega,if_false,if_true]at hz;by_cases u0:u=0
   ·rw[if_pos u0]at hz;simp at hz;omega
   by_cases u1:u=1
   ·rw[if_neg u0,if_pos u1]at hz;simp at hz;omega
   by_cases u2:u=2
   ·rw[if_neg u0,if_neg u1,if_pos u2]at hz;simp at hz;omega
   rw[if_neg u0,if_neg u1,if_neg u2]at hz;simp at hz
  induction h with
  | start x h=>exact step v x h
  | step x y _ _ h3 ih=>have:=step x.toNat y h3;omega
 intro h;have:=key _ h;omega
theorem cnt_inB:∀ v:Int,inB_ (GL (cntF nm lo hi)) 2 v=(decide (v=2)||decide (v=3)):=by
 intro v;have key:Cl (nxG (GL (cntF nm lo hi)) 0) (fun x=>decide (x=((2:Nat):Int))) (GL (cntF nm lo hi) 2 2) v↔v=2\/v=3:=by
  have g2:GL (cntF nm lo hi) 2 2=[3]:=by rw[cnt_GL];rfl
  have g3:GL (cntF nm lo hi) 0 3=[2]:=by rw[cnt_GL];rfl
  rw[g2];constructor
  ·intro h
   induction h with
   | start x h=>simp at h;exact .inr h
   | step x y _ hx hy ih =>
    rcases ih with rfl|rfl
    ·simp at hx
    ·unfold nxG at hy;rw[show(3:Int).toNat=3 from rfl,g3]at hy;simp at hy;exact .inl hy
  ·have c3:Cl (nxG (GL (cntF nm lo hi)) 0) (fun x=>decide (x=((2:Nat):Int))) [3] 3:=.start 3 si;rintro(rfl|rfl)
   ·exact .step 3 2 c3 si (by unfold nxG;rw[show(3:Int).toNat=3 from rfl,g3];simp)
   ·exact c3
 unfold inB_;by_cases h2:v=2
 ·subst h2;simp
 ·by_cases h3:v=3
  ·subst h3;simpa using key.2 (.inr rfl)
  ·have:¬Cl (nxG (GL (cntF nm lo hi)) 0) (fun x=>decide (x=((2:Nat):Int))) (GL (cntF nm lo hi) 2 2) v:=fun h=>by rcases key.1 h with h|h<;>contradiction
   simpa[h2,h3]using this
theorem cnt_find:findP (cntF nm lo hi)=([⟨2,-1,[2,3],[3]⟩],0,0):=by
 have hl:(cntF nm lo hi).code.length=5:=rfl;have hh:headsP (GL (cntF nm lo hi)) 5=[2]:=by
  unfold headsP pickN;have e:(fun k:Nat=>decide (GL (cntF nm lo hi) 2 ((k:Int)).toNat≠[]))=fun k=>decide (k=2):=by
   funext k;rw[Int.toNat_natCast,cnt_GL];by_cases h:k=2
   ·subst h;simp
   ·simp[h]
  rw[e];rfl
 have hm:pickN 5 (inB_ (GL (cntF nm lo hi)) 2)=[2,3]:=by
  unfold pickN;have e:(fun k:Nat=>inB_ (GL (cntF nm lo hi)) 2 (k:Int))=fun k=>(decide (k=2)||decide (k=3)):=by
   funext k;rw[cnt_inB];congr 1
   ·simp;omega
   ·simp;omega
  rw[e];rfl
 have hp:loopP (cntF nm lo hi) 2=⟨2,-1,[2,3],[3]⟩:=by
  unfold loopP;rw[hl,hm,cnt_GL];rfl
 have hL:loopsL (cntF nm lo hi)=[⟨2,-1,[2,3],[3]⟩]:=by
  unfold loopsL;rw[hl,hh];show[loopP (cntF nm lo hi) 2]=_;rw[hp]
 unfold findP;rw[hl,firstI_none 5 _ (fun i _=>cnt_comes nm lo hi i),hL,if_neg (by omega)];rfl
/-- what the rounds keep: at the first instruction stands what stood there, at the second one nothing as long as the first one is marked, then just the one number -/
def CInv (lo:Int) (s:PBS):Prop:=s.inn.length=5/\s.mrk.length=5/\s.inn.getD 0 []=[⟨0,0⟩,⟨0,0⟩]/\(s.inn.getD 1 []=[⟨lo,lo⟩,⟨0,0⟩]\/(s.inn.getD 1 []=[]/\s.mrk.getD 0 false=true))
theorem getDL_set {α:Type}(l:List α) (i j:Nat) (a d:α):(l.set i a).getD j d=if j=i/\i<l.length then a else l.getD j d:=by
 simp only[List.getD_eq_getElem?_getD];by_cases e:j=i
 ·subst e;by_cases h:j<l.length
  ·rw[if_pos ⟨rfl,h⟩,List.getElem?_set_self h];rfl
  ·rw[if_neg (fun q=>h q.2),List.set_eq_of_length_le (by omega)]
 ·rw[if_neg (fun q=>e q.1),List.getElem?_set_ne (by omega)]
theorem merge_other (thr:List Int) (s:PBS) (tt:Nat) (next:List PSpan) (j:Nat) (h:j≠tt):(mergeP thr s tt next).inn.getD j []=s.inn.getD j []/\(mergeP thr s tt next).mrk.getD j false=s.mrk.getD j false/\(mergeP thr s tt next).inn.length=s.inn.length/\(mergeP thr s tt next).mrk.length=s.mrk.length:=by
 unfold mergeP;split
 ·refine⟨?_,?_,si,si⟩
  ·rw[getDL_set,if_neg (fun q=>h q.1)]
  ·rw[getDL_set,if_neg (fun q=>h q.1)]
 ·split
  ·refine⟨?_,?_,si,si⟩
   ·rw[getDL_set,if_neg (fun q=>h q.1)]
   ·rw[getDL_set,if_neg (fun q=>h q.1)]
  ·exact⟨rfl,rfl,rfl,rfl⟩
theorem cnt_way0:wayP (cntM nm lo hi) (cntF nm lo hi) 0 1 [⟨0,0⟩,⟨0,0⟩]=some [⟨lo,lo⟩,⟨0,0⟩]:=rfl
theorem cnt_way1:wayP (cntM nm lo hi) (cntF nm lo hi) 1 2 [⟨lo,lo⟩,⟨0,0⟩]=some [⟨lo,lo⟩,⟨hi,hi⟩]:=rfl
theorem same_some (lo:Int):someB [⟨lo,lo⟩,⟨0,0⟩] [⟨lo,lo⟩,⟨0,0⟩]=false:=by
 have g:∀ x:Int,growB ⟨x,x⟩ ⟨x,x⟩=false:=fun x=>by
  unfold growB eqP joinP;simp
 show(growB ⟨lo,lo⟩ ⟨lo,lo⟩||(growB ⟨0,0⟩ ⟨0,0⟩||false))=false;rw[g,g];rfl
theorem cnt_step (s:PBS) (k:Nat) (hk:k<5) (h:CInv lo s):CInv lo (stepS (cntM nm lo hi) (cntF nm lo hi) s k)/\(k=0->(stepS (cntM nm lo hi) (cntF nm lo hi) s k).inn.getD 1 []=[⟨lo,lo⟩,⟨0,0⟩]):=by
 obtain⟨n0,n1,n2,n3,n4⟩:=cnt_next nm lo hi;obtain⟨l1,l2,i0,i1⟩:=h;unfold stepS;by_cases hm:s.mrk.getD k false=true
 ·rw[if_pos hm];by_cases hk0:k=0
  ·subst hk0;have goal:(wayS (cntM nm lo hi) (cntF nm lo hi) 0 (s.inn.getD 0 []) { s with mrk:=s.mrk.set 0 false } 1).inn.getD 1 []=[⟨lo,lo⟩,⟨0,0⟩]/\(wayS (cntM nm lo hi) (cntF nm lo hi) 0 (s.inn.getD 0 []) { s with mrk:=s.mrk.set 0 false } 1).inn.getD 0 []=[⟨0,0⟩,⟨0,0⟩]/\(wayS (cntM nm lo hi) (cntF nm lo hi) 0 (s.inn.getD 0 []) { s with mrk:=s.mrk.set 0 false } 1).inn.length=5/\(wayS (cntM nm lo hi) (cntF nm lo hi) 0 (s.inn.getD 0 []) { s with mrk:=s.mrk.set 0 false } 1).mrk.length=5:=by
    unfold wayS;rw[i0,cnt_way0];dsimp only;show(mergeP [] { s with mrk:=s.mrk.set 0 false } 1 [⟨lo,lo⟩,⟨0,0⟩]).inn.getD 1 []=_/\(mergeP [] { s with mrk:=s.mrk.set 0 false } 1 [⟨lo,lo⟩,⟨0,0⟩]).inn.getD 0 []=_/\(mergeP [] { s with mrk:=s.mrk.set 0 false } 1 [⟨lo,lo⟩,⟨0,0⟩]).inn.length=5/\(mergeP [] { s with mrk:=s.mrk.set 0 false } 1 [⟨lo,lo⟩,⟨0,0⟩]).mrk.length=5;obtain⟨m1,m2,m3,m4⟩:=merge_other [] { s with mrk:=s.mrk.set 0 false } 1 [⟨lo,lo⟩,⟨0,0⟩] 0 oz;refine⟨?_,by rw[m1];exact i0,by rw[m3];exact l1,by rw[m4];simpa using l2⟩;unfold mergeP;dsimp only;rcases i1 with i1|⟨i1,_⟩
    ·rw[i1,if_neg (by simp),same_some];simpa using i1
    ·rw[i1,if_pos rfl];dsimp only;rw[getDL_set,if_pos ⟨rfl,by omega⟩]
   rw[n0,List.foldl_cons,List.foldl_nil];exact⟨⟨goal.2.2.1,goal.2.2.2,goal.2.1,.inl goal.1⟩,fun _=>goal.1⟩
  ·refine⟨?_,fun e=>absurd e hk0⟩;have key:∀ (ts:List Int) (q:PBS),(∀ t∈ts,t.toNat≠0/\t.toNat≠1)->CInv lo q->CInv lo (ts.foldl (wayS (cntM nm lo hi) (cntF nm lo hi) k (s.inn.getD k [])) q):=fun ts=>by
    induction ts with
    | nil=>intro q _ h;exact h
    | cons t ts ih =>
     intro q ht hq;rw[List.foldl_cons];refine ih _ (fun t' h'=>ht t' (List.mem_cons_of_mem _ h')) ?_;unfold wayS;split
     ·obtain⟨q1,q2,q3,q4⟩:=hq;obtain⟨t0,t1⟩:=ht t si;obtain⟨a1,a2,a3,a4⟩:=merge_other (cntM nm lo hi).thr q t.toNat _ 0 (Ne.symm t0);obtain⟨b1,b2,_,_⟩:=merge_other (cntM nm lo hi).thr q t.toNat _ 1 (Ne.symm t1);exact⟨by rw[a3];exact q1,by rw[a4];exact q2,by rw[a1];exact q3,by rw[b1,a2];exact q4⟩
     ·exact hq
   refine key _ _ ?_ ⟨l1,by simpa using l2,i0,?_⟩
   ·obtain rfl|rfl|rfl|rfl:k=1\/k=2\/k=3\/k=4:=oz
    ·rw[n1];decide
    ·rw[n2];decide
    ·rw[n3];decide
    ·rw[n4];decide
   ·dsimp only;rw[getDL_set,if_neg (fun q=>hk0 q.1.symm)];exact i1
 ·rw[if_neg hm];refine⟨⟨l1,l2,i0,i1⟩,fun e=>?_⟩;subst e;rcases i1 with i1|⟨_,i2⟩
  ·exact i1
  ·exact absurd i2 hm
theorem cnt_pass (s:PBS) (h:CInv lo s):CInv lo (passS (cntM nm lo hi) (cntF nm lo hi) s):=by
 have key:∀ (ks:List Nat) (q:PBS),(∀ k∈ks,k<5)->CInv lo q->CInv lo (ks.foldl (stepS (cntM nm lo hi) (cntF nm lo hi)) q):=fun ks=>by
  induction ks with
  | nil=>intro q _ h;exact h
  | cons t ts ih=>intro q ht hq;rw[List.foldl_cons];exact ih _ (fun t' h'=>ht t' (List.mem_cons_of_mem _ h')) (cnt_step nm lo hi q t (ht t si) hq).1
 exact key _ s (fun k hk=>by simpa[cntF]using hk) h
theorem cnt_runs (s t:PBS) (hr:RunsS (cntM nm lo hi) (cntF nm lo hi) s t) (h:CInv lo s):t.inn.getD 1 []=[⟨lo,lo⟩,⟨0,0⟩]:=by
 induction hr with
 | stop s hs =>
  obtain⟨l1,l2,i0,i1⟩:=h;rcases i1 with i1|⟨_,i2⟩
  ·exact i1
  ·have:s.mrk[0]? = some true:=by
    rw[List.getD_eq_getElem?_getD]at i2;rw[List.getElem?_eq_getElem (by omega)]at i2 ⊢;simpa using i2
   have:=List.mem_of_getElem? this;rw[List.contains_iff_mem.2 this]at hs;cases hs
 | pass s t _ _ ih=>exact ih (cnt_pass nm lo hi s h)
/-- a loop that counts from one number to another one has as many rounds as these are apart -/
theorem cnt_trips (t:PBS) (hr:RunsS (cntM nm lo hi) (cntF nm lo hi) (startS (cntF nm lo hi)) t):tripsP (cntM nm lo hi) (cntF nm lo hi) t.inn=([lengthP ⟨lo,lo⟩ ⟨hi,hi⟩],0):=by
 have h1:=cnt_runs nm lo hi _ t hr ⟨rfl,rfl,rfl,.inr ⟨rfl,rfl⟩⟩;unfold tripsP;rw[cnt_find,if_pos rfl];show([tripN (cntM nm lo hi) (cntF nm lo hi) t.inn ⟨2,-1,[2,3],[3]⟩],(0:Int))=_;have e:tripTo (cntM nm lo hi) (cntF nm lo hi) t.inn ⟨2,-1,[2,3],[3]⟩ (edgesL (cntF nm lo hi))=(⟨lo,lo⟩,⟨hi,hi⟩):=by
  unfold tripTo;rw[cnt_edges,List.foldl_cons,List.foldl_cons,List.foldl_cons,List.foldl_cons,List.foldl_cons,List.foldl_nil];have b:tripB (cntF nm lo hi) ⟨2,-1,[2,3],[3]⟩=(noSp,noSp):=rfl;have e0:∀ lh,tripE (cntM nm lo hi) (cntF nm lo hi) t.inn ⟨2,-1,[2,3],[3]⟩ lh (0,1)=lh:=fun lh=>by unfold tripE;rw[if_pos (.inl (by decide))]
  have e2:∀ lh,tripE (cntM nm lo hi) (cntF nm lo hi) t.inn ⟨2,-1,[2,3],[3]⟩ lh (2,3)=lh:=fun lh=>by unfold tripE;rw[if_pos (.inl (by decide))]
  have e3:∀ lh,tripE (cntM nm lo hi) (cntF nm lo hi) t.inn ⟨2,-1,[2,3],[3]⟩ lh (2,4)=lh:=fun lh=>by unfold tripE;rw[if_pos (.inl (by decide))]
  have e4:∀ lh,tripE (cntM nm lo hi) (cntF nm lo hi) t.inn ⟨2,-1,[2,3],[3]⟩ lh (3,2)=lh:=fun lh=>by unfold tripE;rw[if_pos (.inr (.inl (by decide)))]
  rw[b,e0,e2,e3,e4];unfold tripE;dsimp only;rw[h1,if_neg (by simp),cnt_way1];rfl
 unfold tripN;rw[e];unfold lenLH;rw[if_pos (Int.le_refl _)]
end
end
theorem NumsAt.ofRow {B n:Nat}{W:World}{v:Value}{l:List Int}(h:W.ownsRow 0 3 1 v n (Nums l)) (hl:∀ x∈l,In64 x) (hB:∀ k,v.ownBlock=some k->k<B):∃ a c,v=.slice a n c/\NumsAt B W a n l:=by
 have hn:l.length=n:=by have:=h.1;rw[Nums_len]at this;omega
 rcases row_form h with⟨rfl,rfl,e⟩|⟨g,c,rfl,h1,h2,h3⟩
 ·exact⟨none,0,rfl,hn,by unfold maxLen;omega,0,0,fun h=>by omega,fun i hi=>by omega⟩
 ·refine⟨_,c,rfl,hn,oz,g,0,fun _=>⟨rfl,hB g rfl⟩,fun i hi=>?_⟩;have e:l[i]? = some (l.getD i 0):=by rw[List.getD_eq_getElem?_getD,List.getElem?_eq_getElem (by omega)];rfl
  refine⟨by rw[Nat.zero_add];exact row_cell h (Nums_some e),?_⟩;exact hl _ (List.mem_of_getElem? e)
/-- a loop's four cells: its members and where its back edges go from are read -/
def LpCells (B:Nat) (w:World) (b o:Nat) (l:PLoop):Prop:=∃ ma mc ba bc,w.cell? ⟨b,o,none⟩=some (.int .i64 l.head)/\w.cell? ⟨b,o+1,none⟩=some (.int .i64 l.parent)/\w.cell? ⟨b,o+2,none⟩=some (.slice ma l.members.length mc)/\w.cell? ⟨b,o+3,none⟩=some (.slice ba l.backs.length bc) /\
 NumsAt B w ma l.members.length l.members/\NumsAt B w ba l.backs.length l.backs
theorem LpCells.same {B b o:Nat}{w w':World}{l:PLoop}(h:LpCells B w b o l) (s:Same B w w') (hb:b<B):LpCells B w' b o l:=by
 obtain⟨ma,mc,ba,bc,h0,h1,h2,h3,h4,h5⟩:=h;exact⟨ma,mc,ba,bc,by rw[s _ _ hb];exact h0,by rw[s _ _ hb];exact h1,by rw[s _ _ hb];exact h2,by rw[s _ _ hb];exact h3,h4.same s,h5.same s⟩
def LoopsRd (B:Nat) (w:World) (b o n:Nat) (ls:List PLoop):Prop:=ls.length=n/\n<=maxLen/\b<B/\∀ i,i<n->LpCells B w b (o+i*4) (ls.getD i default)
def depthTo (ls:List PLoop) (x:Int) (k:Nat):Int:=(List.range k).foldl (fun d k=>if(ls.getD k default).members.contains x then d+1 else d) 0
def depthP (ls:List PLoop) (x:Int):Int:=depthTo ls x ls.length
theorem depthTo_succ (ls:List PLoop) (x:Int) (k:Nat):depthTo ls x (k+1)=if(ls.getD k default).members.contains x then depthTo ls x k+1 else depthTo ls x k:=by
 unfold depthTo;rw[List.range_succ,List.foldl_append];rfl
theorem depthTo_bd (ls:List PLoop) (x:Int) (k:Nat):0<=depthTo ls x k/\depthTo ls x k<=k:=by
 induction k with
 | zero=>exact⟨Int.le_refl _,Int.le_refl _⟩
 | succ k ih=>rw[depthTo_succ];split<;>omega
theorem contains_at {l:List Int}{x:Int}{i:Nat}(hi:i<l.length) (h:l.getD i 0=x):l.contains x=true:=by
 rw[List.getD_eq_getElem?_getD,List.getElem?_eq_getElem hi]at h;simp only[Option.getD_some]at h;subst h;simp
theorem contains_no {l:List Int}{x:Int}(h:∀ i,i<l.length->l.getD i 0≠x):l.contains x=false:=by
 rw[<-Bool.not_eq_true,List.contains_iff_mem];intro hm;obtain⟨i,hi,e⟩:=List.getElem_of_mem hm;exact h i hi (by rw[List.getD_eq_getElem?_getD,List.getElem?_eq_getElem hi];exact e)
theorem depth_any (B b o c n:Nat) (ls:List PLoop) (x:Int) (w:World) (hB:B<=w.heap.size) (hl:LoopsRd B w b o n ls) :
 Calls Tryz.prog 54 #[.slice (some ⟨b,o,none⟩) n c,.int .i64 x] w fun e w'=>e=.returned (.int .i64 (depthP ls x))/\Below w.heap.size w w':=by
 obtain⟨hln,hnm,hbB,hcells⟩:=hl;have hnm':n<=9223372036854775807:=hnm;unfold depthP;rw[hln];have HC:=qd hcells;clear hcells;go_enter Tryz.func54,Tryz.ntmps54;go_wp2;go_loopw [5,12] (fun d i wr=>∃ k:Nat,k<=n/\i=.int .i64 k/\d=.int .i64 (depthTo ls x k)/\Below w.heap.size w wr) (fun d i _=>n-(intOf i).toNat)
 case atStart=>exact⟨0,Nat.zero_le _,rfl,rfl,Below.refl _ _⟩
 case round =>
  obtain⟨k,hk,rfl,rfl,hbr⟩:=hrel;have hzr:=hbr.size;by_cases hlt:k<n
  ·have d2:(k:Int)<(n:Int):=oz
   have hwk:IntKind.i64.wrap ((k:Int)+1)=(k:Int)+1:=IntWalk.i64_in _ oz;obtain⟨ma,mc,ba,bc,g0,g1,g2,g3,g4,g5⟩:=(HC.out k hlt).same (Same.of' (hbr.mono hB)) hbB;have hd:=depthTo_bd ls x k;have hwd:IntKind.i64.wrap (depthTo ls x k+1)=depthTo ls x k+1:=IntWalk.i64_in _ oz;have HD:=qd (depthTo_succ ls x k);have HL:=qd (fun i hi h=>@contains_at (ls.getD k default).members x i hi h);have HN:=qd (@contains_no (ls.getD k default).members x);obtain⟨h1,h2,mb,mo,h3,h4⟩:=g4;have h2':(ls.getD k default).members.length<=9223372036854775807:=h2;generalize (ls.getD k default).members=ms at *;generalize (ls.getD k default).backs=bs at *;clear g5;go_wp2;generalize hW1:World.alloc _ _=W1;have hb1:Below wr.heap.size wr W1:=by rw[<-hW1];exact bel
   have hzW:=hb1.size;clear hW1;go_loopw [5,19] (fun d i wx=>∃ j:Nat,j<=ms.length/\i=.int .i64 j/\d=.int .i64 (depthTo ls x k)/\(∀ i,i<j->ms.getD i 0≠x)/\Below W1.heap.size W1 wx) (fun d i _=>ms.length-(intOf i).toNat)
   case atStart=>exact⟨0,Nat.zero_le _,rfl,rfl,(fun i hi=>by omega),Below.refl _ _⟩
   case round =>
    rename_i wq;obtain⟨j,hj,rfl,rfl,hno,hbx⟩:=hrel;have hzx:=hbx.size;have hbw:Below w.heap.size w wr:=hbr.trans ((hb1.trans (hbx.mono oz)).mono oz);by_cases hjt:j<ms.length
    ·have d3:(j:Int)<(ms.length:Int):=oz
     have hwj:IntKind.i64.wrap ((j:Int)+1)=(j:Int)+1:=IntWalk.i64_in _ oz;obtain⟨rfl,hmB⟩:=h3 oz;have c0:=((hbx.cell (p:=⟨mb,mo+j,none⟩) (by show mb<_;omega)).trans (hb1.cell (p:=⟨mb,mo+j,none⟩) (by show mb<_;omega))).trans (h4 j hjt).1;by_cases he:ms.getD j 0=x
     ·have hc:=HL.out j hjt he;have q2:(x==x)=true:=si
      rw[he]at c0;have HH:=qd (HD.out.trans (if_pos hc));go_wp2;refine⟨⟨k+1,oz,si,by rw[HH.out],hbw⟩,?_⟩;go_light;exact ml
     ·have q2:(ms.getD j 0==x)=false:=by simpa using he
      have HE:=qd he;obtain⟨y,hy⟩:∃ y,y=ms.getD j 0:=⟨_,rfl⟩
      have HY:=qd hy.symm;rw[<-hy]at c0 q2 HE he;clear hy;go_wp2;refine⟨⟨j+1,oz,si,rfl,?_,hbx⟩,?_⟩
      ·intro i hi;by_cases e:i=j
       ·subst e;rw[HY.out];exact HE.out
       ·exact hno i oz
      ·go_light;exact ml
    ·have hjj:j=ms.length:=oz
     subst hjj;have d3:¬(ms.length:Int)<(ms.length:Int):=oz
     have hc:ms.contains x=false:=HN.out hno;have HH:=qd (HD.out.trans (if_neg (by rw[hc];simp)));go_wp2;refine⟨⟨k+1,oz,si,by rw[HH.out],hbw⟩,?_⟩;go_light;exact ml
  ·have hkk:k=n:=oz
   subst hkk;have d2:¬(k:Int)<(k:Int):=oz
   go_wp2;go_ret;go_light;exact⟨rfl,hbr⟩
/-- append of what an own row holds, nil too -/
theorem wpList_appS {P:Program}{w:World}{ops:Array Oper}{rest:List Oper}{o:Oper}{a:Act}{Q:Exit->Act->World->Prop}(hgd:o.guard=none) (s x:Operand) (t e size bytes:Nat) (z:Value)
 (ho:o.op=.call { callee:=.builtin .append,args:=#[s,x],argTypes:=#[t,t] }) (ht:P.underlying t=some (.slice e)) (hinfo:(P.info? e).map (fun i=>(i.zero,i.size,i.bytes))=some (some z,size,bytes)) (hzs:z.cells.size=size) (hsz:0<size)
 (v:Value) (n:Nat) (xs:List Value) (hs:a.eval s=v) (hown:w.ownsRow 0 e size v n xs)
 (y:Value) (m:Nat) (news:List Value) (hx:a.eval x=y) (hy:w.ownsRow 0 e size y m news) (hnil:m=0->y=.slice none 0 0) (h1:∀ u∈news,u.oneCell'=true)
 (h63:n+m<=maxLen) (hbytes:(n+m)*bytes<=140737488355328)
 (h:∀ v' w',w'.ownsRow 0 e size v' (n+m) (xs++news)->Chg (fun k=>v.ownBlock=some k) w w'->(∀ k,v'.ownBlock=some k->v.ownBlock=some k\/k=w.heap.size)->wpList P ops Q rest (a.put o.dst v') w'):wpList P ops Q (o::rest) a w:=by
 by_cases hm:m=0
 ·subst hm;have hnews:news=[]:=List.eq_nil_of_length_eq_zero (by rw[hy.1];simp);subst hnews;refine wpList_app0 hgd s x t e size bytes z ho ht hinfo v n xs hs hown (by rw[hx,hnil rfl]) ?_;exact h v w (by rw[Nat.add_zero,List.append_nil];exact hown) (Chg.refl _ _) (fun k hk=>.inl hk)
 ·obtain⟨g,c,rfl,_⟩:=row_pos hy oz;refine wpList_app hgd s x t e size bytes z ho ht hinfo hzs hsz v n xs hs hown ⟨g,0,none⟩ m c news hx hy.1 (fun j u hu=>hy.cells (g:=g) rfl j u hu) h1 h63 hbytes oz ?_;intro g' cap' w' h2 h3 h4;refine h _ w' h2 h3 (fun k hk=>?_);have e:g'=k:=Option.some.inj hk;subst e;exact h4
def setM (been:Int->Bool):Int->Option Value:=fun i=>if been i then some (.agg #[])else none
theorem setM_add (been:Int->Bool) (a:Int):updM (setM been) a (.agg #[])=setM (addB been a):=by
 funext i;unfold updM setM addB;by_cases h:i=a
 ·subst h;simp
 ·simp[h]
theorem setM_get (been:Int->Bool) (a:Int):(setM been a).getD (.agg #[])=.agg #[]/\(setM been a).isSome=been a:=by
 unfold setM;cases been a<;>simp
theorem zeroU (w:World):(zeroValue 111).run Tryz.prog w=.ok (.agg #[]) w:=kr
theorem Tryz.mapU:Tryz.prog.underlying 110=some (.map 3 111):=kr
theorem GraphAt.nil {w:World}{lo b0 n c v:Nat}{G:Nat->Nat->List Int}{S:Nat->Nat->Option Value}(hg0:GraphAt w lo b0 n G S) (hc:c<3):(G c v).length=0->(S c v).getD nilS=.slice none 0 0:=fun h=>by
 have hrow:=hg0.row (c:=c) (v:=v) hc;rcases row_form hrow with⟨h1,_⟩|⟨g,cp,h1,h2,_⟩
 ·exact h1
 ·have:=hg0.ent c v hc;cases hs:S c v with
  | none=>rfl
  | some s =>
   have:=this.1 (by rw[hs];rfl);exact absurd (List.eq_nil_of_length_eq_zero h) this
theorem comes_any (lo b0 n:Nat) (G:Nat->Nat->List Int) (S:Nat->Nat->Option Value) (w:World) (hg:GraphAt w lo b0 n G S) (hB:GBnd G) (v:Nat) (hv:v<1024) :
 Calls Tryz.prog 92 #[.agg #[.map (some b0),.map (some (b0+1)),.map (some (b0+2))],.int .i64 v] w fun e w'=>e=.returned (.bool (comesB G v))/\Below w.heap.size w w':=by
 have hmm:=@run_makeMap Tryz.prog;have HG:=qd hg;clear hg;have hvi:=inI_nat hv;go_enter Tryz.func92,Tryz.ntmps92;go_upto_region 2 with(fail)
 generalize hW0:World.alloc _ _=W0;have hb0:Below w.heap.size w W0:=by rw[<-hW0];exact bel
 have OB:Own W0 w.heap.size [.map (some b0),.map (some (b0+1)),.map (some (b0+2))]:=by rw[<-hW0];exact(Own.new _ _ _).alloc _
 have OM:MapAt W0 (w.heap.size+1) 0 (setM (fun _=>false)):=by
  rw[<-hW0];have e:setM (fun _=>false)=fun _=>none:=by funext i;simp[setM]
  rw[e];have h:=MapAt.made (w.alloc (.cells #[.map (some b0),.map (some (b0+1)),.map (some (b0+2))] 106))
  rwa [World.size_alloc]at h
 have hz0:W0.heap.size=w.heap.size+2:=by rw[<-hW0];simp
 clear hW0 hmm;have hg0:=HG.out.below hb0;have b3:=own3 OB;have hlk:=(hg0.map 1 dc).get Tryz.mapS zeroS hvi;rw[rowM_nat]at hlk;have hrow:=hg0.row (c:=1) (v:=v) dc;have hnil:(G 1 v).length=0->(S 1 v).getD nilS=.slice none 0 0:=fun h=>by
  rcases row_form hrow with⟨h1,_⟩|⟨g,c,h1,h2,_⟩
  ·exact h1
  ·have:=(hg0.ent 1 v dc)
   cases hs:S 1 v with
   | none=>rfl
   | some s =>
    have:=this.1 (by rw[hs];rfl);exact absurd (List.eq_nil_of_length_eq_zero h) this
 have hln:=hB.ln 1 v;have HG0:=qd hg0;have HB0:=qd OB;have HM0:=qd OM;have HR0:=qd hrow;clear hg0 OB OM hrow;generalize (S 1 v).getD nilS=sv at *;go_wp2_with (first|(at_builtin;refine wpList_appS rfl (.const (.slice none 0 0)) (.tmp 14) 50 3 1 8 (.int .i64 0) rfl Tryz.underlying50 Tryz.infoI rfl dc (.slice none 0 0) 0 [] rfl (World.ownsRow_nil _ _ _ _) sv (G 1 v).length (Nums (G 1 v)) rfl HR0.out hnil (Nums_one _) (by unfold maxLen;omega) oz ?_;intro u6 w1 hr1 hc1 hg1)|fail)
 have hb01:Below W0.heap.size W0 w1:=hc1.below _ lr (fun k _ e=>by cases e);have hz1:=hb01.size;have hb1:Below w.heap.size w w1:=hb0.trans (hb01.mono oz);have hg1':∀ j,u6.ownBlock=some j->w.heap.size+2<=j:=fun j hj=>by
  rcases hg1 j hj with h|h
  ·cases h
  ·omega
 rw[Nat.zero_add,List.nil_append]at hr1;have HB1:=qd (HB0.out.below hb01);have HM1:=qd (HM0.out.below hb01);have HR1:=qd hr1;have HS:=qd (SInv.start (nx:=nxG G 1) (b0:=fun _=>false) (t0:=G 1 v));have hk0:sLeft (fun _=>false) (G 1 v)<=8396800:=sLeft_le oz;have hz1':w.heap.size+2<=w1.heap.size:=oz
 clear HG0 HB0 HM0 HR0 hr1 hc1 hg1 hb01 hb0 hz1 hz0 hlk b3 hnil
 go_loopg [6] (sLeft (fun _=>false) (G 1 v)) (fun k v6 wr=>∃ (been:Int->Bool) (todo:List Int) (m:Nat),k=sLeft been todo/\Hid (SInv (nxG G 1) (fun _=>false) (G 1 v) been todo)/\been v=false/\m+k<=8396800/\Below w.heap.size w wr/\w.heap.size+2<=wr.heap.size/\Hid (Own wr w.heap.size [.map (some b0),.map (some (b0+1)),.map (some (b0+2))])/\Hid (MapAt wr (w.heap.size+1) m (setM been))/\(∀ j,v6.ownBlock=some j->w.heap.size+2<=j)/\Hid (wr.ownsRow 0 3 1 v6 todo.length (Nums todo)))
 case atStart=>exact⟨_,_,0,rfl,HS,rfl,oz,hb1,hz1',HB1,HM1,hg1',HR1⟩
 case round =>
  clear hb1 hz1' HB1 HM1 hg1' HR1 HS hk0;obtain⟨been,todo,m,rfl,hI,hbv,hm,hbr,hz,hb,hM,hvb,ht⟩:=hrel;have b3:=own3 hb.out;rcases nil_or_snoc todo with rfl|⟨t,x,rfl⟩
  ·obtain⟨va,vc,rfl⟩:∃ va vc,u6=.slice va 0 vc:=by
    rcases row_form ht.out with⟨rfl,_,_⟩|⟨g,c,rfl,_,_,_⟩
    ·exact⟨_,_,rfl⟩
    ·exact⟨_,_,rfl⟩
   go_wp2;go_ret;go_light;refine⟨?_,hbr⟩;have hno:comesB G v=false:=comesB_false fun hc=>by
    have:=(hI.out.done (v:Int)).2 (.inr hc);rw[hbv]at this;cases this
   rw[hno];rfl
  ·have hln2:(t++[x]).length=t.length+1:=si
   have hlt:t.length+1<=8396800:=by
    have:=sLeft_len (been:=been) (t:=t++[x]);rw[hln2]at this;omega
   have hT2:=ht.out;rw[hln2]at hT2;obtain⟨g,c,rfl,hgc,hgm,hgl⟩:=row_pos hT2 oz;have hgm':c<=9223372036854775807:=hgm;have t0:=row_cell hT2 (Nums_some (show(t++[x])[t.length]? = some x by simp));have hw1:IntKind.i64.wrap ((t.length:Int)+1-1)=(t.length:Int):=by rw[IntWalk.i64_in _ (by omega)];omega
   have j1:(0:Int)<(t.length:Int)+1:=oz
   obtain⟨a,rfl,ha⟩:=Cl.nat hB (hI.out.tr x si);have hpop:=row_take hT2 t.length oz;rw[Nat.mul_one,show(Nums (t++[(a:Int)])).take t.length=Nums t by rw[Nums_append,<-Nums_len t,List.take_left]]at hpop;have hvg:=hvb g rfl;have HP:=qd hpop;clear hpop hT2 ht;by_cases hav:a=v
   ·subst hav;have hc:=comesB_true (hI.out.tr (a:Int) si);have q2:((a:Int)==(a:Int))=true:=si
    go_wp2;go_ret;go_light;exact⟨by rw[hc];rfl,hbr⟩
   ·have q1:¬(a:Int)=(v:Int):=oz
    have q2:((a:Int)==(v:Int))=false:=by rw[beq_eq_false_iff_ne];omega
    have hlk:=hM.out.getOk Tryz.mapU zeroU (inI_nat ha);rw[(setM_get been a).1,(setM_get been a).2]at hlk;have hmk:=qd (fun hb=>hI.out.mark (a:=(a:Int)) hb);have hdp:=qd (fun hb=>hI.out.drop (a:=(a:Int)) hb);have hlm:=qd (fun(hb:been (a:Int)=false)=>sLeft_mark (nx:=nxG G 1) (been:=been) (t:=t) ha hb (hB.ln 1 _));have hld:=qd (sLeft_drop (been:=been) (t:=t) (a:=(a:Int)));cases hba:been (a:Int)
    ·rw[hba]at hlk;go_upto_region 10 with(fail)
     have hbA:Below wr.heap.size wr (wr.alloc (.cells #[] 111)):=bal;generalize hWA:wr.alloc (.cells #[] 111)=WA at *;have hzA:=hbA.size;have hmq:m<maxLen:=by unfold maxLen;omega
     obtain⟨W2,hrun2,hM2,hc2⟩:=(hM.out.below hbA).set Tryz.mapU hmq (inI_nat ha) (.agg #[]);rw[setM_add]at hM2;have hz2:=hc2.size;have hbw:Below w.heap.size w WA:=hbr.trans (hbA.mono oz);have hb2:Below w.heap.size w W2:=hbw.trans (hc2.below _ oz (fun k hk e=>by omega));have OB2:=hc2.own (hb.out.below hbA) oz;have b3':=own3 OB2;have P2:=row_chg hc2 (row_below hbA HP.out) (fun k hk e=>by have h7:g=k:=ob1 hk;omega);have hg2:=HG.out.below hb2;have hlk2:=(hg2.map 1 dc).get Tryz.mapS zeroS (inI_nat ha);rw[rowM_nat]at hlk2;have hrow2:=hg2.row (c:=1) (v:=a) dc;have hnil2:=hg2.nil (c:=1) (v:=a) dc;have hln3:=hB.ln 1 a;have hlm2:=hlm.out hba;have hmk2:=qd (hmk.out hba);unfold nxG at hlm2;rw[Int.toNat_natCast]at hlm2;have hnx:nxG G 1 (a:Int)=G 1 a:=by unfold nxG;rw[Int.toNat_natCast]
     have HNX:=qd hnx;clear hnx;have hsl:(t++G 1 a).length<=sLeft (addB been (a:Int)) (t++G 1 a):=sLeft_len;rw[List.length_append]at hsl;have HLM:=qd hlm2;have HR2:=qd hrow2;have HP2:=qd P2;have HO2:=qd OB2;have HM2:=qd hM2;have hz3:w.heap.size+2<=W2.heap.size:=oz
     have hvg2:∀ k,(Value.slice (some ⟨g,0,none⟩) t.length c).ownBlock=some k->k=g:=fun k hk=>by simpa[Value.ownBlock,eq_comm]using hk
     clear hM2 OB2 P2 hrow2 hg2 hlk b3 hb HP hM hbA hWA hc2 hbw hbr hmk hdp hlm hld hI hlm2;generalize (S 1 a).getD nilS=sv2 at *;go_wp2_with (first|(at_builtin;refine wpList_appS rfl (.tmp 44) (.tmp 48) 50 3 1 8 (.int .i64 0) rfl Tryz.underlying50 Tryz.infoI rfl dc _ t.length (Nums t) rfl HP2.out sv2 (G 1 a).length (Nums (G 1 a)) rfl HR2.out hnil2 (Nums_one _) (by unfold maxLen;omega) oz ?_;intro u7 w3 hr3 hc3 hg3)|fail)
     have hz4:=hc3.size;rw[<-Nums_append,<-List.length_append]at hr3
     go_roundg (sLeft (addB been (a:Int)) (t++G 1 a))
     case measure=>exact HLM.out
     case rel =>
      refine⟨addB been (a:Int),t++G 1 a,m+1,rfl,qd (HNX.out▸hmk2.out),?_,by have:=HLM.out;omega,hb2.trans (hc3.below _ hb2.size (fun k hk e=>by have:=hvg2 k e;omega)),oz,qd (hc3.own HO2.out (fun e=>by have:=hvg2 _ e;omega)),qd (HM2.out.chg hc3 (fun e=>by have:=hvg2 _ e;omega)),?_,qd hr3⟩
      ·simp[addB,hbv];omega
      ·intro j hj;rcases hg3 j hj with h|h
       ·have:=hvg2 _ h;omega
       ·omega
    ·rw[hba]at hlk;go_wp2
     go_roundg (sLeft been t)
     case measure=>exact hld.out
     case rel =>
      have hbA:Below wr.heap.size wr (wr.alloc (.cells #[] 111)):=bal;have:=hbA.size;exact⟨been,t,m,rfl,qd (hdp.out hba),hbv,by have:=hld.out;omega,hbr.trans (hbA.mono oz),oz,qd (hb.out.below hbA),qd (hM.out.below hbA),fun j hj=>hvb j hj,qd (row_below hbA HP.out)⟩
end Go.Proofs.YteebpnbdihcfmaaGreatDoor
