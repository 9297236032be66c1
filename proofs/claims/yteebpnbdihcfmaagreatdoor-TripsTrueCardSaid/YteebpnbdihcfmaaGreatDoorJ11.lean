/- loops -/
import Derived.Test.YteebpnbdihcfmaaGreatDoorJ10
import Derived.Deep.RegionLawGrows
import Derived.Test.YteebpnbdihcfmaaGreatDoorJ01
set_option linter.unusedVariables false
set_option linter.unusedSimpArgs false
set_option maxRecDepth 100000
set_option maxHeartbeats 20000000
namespace Go.Proofs.YteebpnbdihcfmaaGreatDoor
open Go.RowKit
theorem GE.{u}:(∀ {α:Type u}(l:List α) (i:Nat) (h:i<l.toArray.size),l.toArray[i]=l[i]'(by simpa using h))/\(∀ {α:Type u}(a:α) (l:List α) (i:Nat) (h:i+1<(a::l).length),(a::l)[i+1]=l[i]'(by simpa using h))/\(∀ {α:Type u}(a:α) (l:List α) (h:0<(a::l).length),(a::l)[0]=a):=⟨fun l i h=>by simp,fun _ _ _ _=>rfl,fun _ _ _=>rfl⟩
theorem MX.{u,v}:(∀ {α:Type u}{β:Type v}(f:α->β) (l:List α),l.toArray.map f=(l.map f).toArray)/\(∀ {α:Type u}{β:Type v}(f:α->β) (a:α) (l:List α),(a::l).map f=f a::l.map f)/\(∀ {α:Type u}{β:Type v}(f:α->β),([]:List α).map f=[]) :=
  ⟨fun _ _=>by simp,fun _ _ _=>rfl,fun _=>rfl⟩
theorem chg4 (W:World) (b:Nat) (u v x y:Value):Chg (· = b) W ((((W.setCell ⟨b,0,none⟩ u).setCell ⟨b,1,none⟩ v).setCell ⟨b,2,none⟩ x).setCell ⟨b,3,none⟩ y) :=
 Chg.setCell (S:=(· = b)) (Chg.setCell (S:=(· = b)) (Chg.setCell (S:=(· = b)) (Chg.setCell (S:=(· = b)) (Chg.refl _ _) (p:=⟨b,0,none⟩) (Or.inl rfl) _) (p:=⟨b,1,none⟩) (Or.inl rfl) _) (p:=⟨b,2,none⟩) (Or.inl rfl) _) (p:=⟨b,3,none⟩) (Or.inl rfl) _
def headB (S:Nat->Nat->Option Value) (left:Int->Bool):Int->Bool:=fun i=>(rowM (S 2) i).isSome && !left i
theorem headB_done {n:Nat}{f:PFunc}{W:World}{lo b0:Nat}{S:Nat->Nat->Option Value}(hg:GraphAt W lo b0 n (GL f) S) {left:Int->Bool}(hl:∀ i,left i=false):pickN f.code.length (headB S left)=headsP (GL f) f.code.length:=by
 unfold headsP pickN;congr 1;refine List.filter_congr fun k hk=>?_;unfold headB;rw[hl,rowM_nat];dsimp only;rw[Int.toNat_natCast];have:=hg.ent 2 k dc;by_cases e:GL f 2 k=[]
 ·simp[e];cases hs:S 2 k with
  | none=>rfl
  | some s=>exact absurd e (this.1 (by rw[hs];rfl))
 ·have:=this.2 e;simp[e];cases hs:S 2 k with
  | none=>rw[hs]at this;cases this
  | some s=>rfl
theorem headB_nat {n:Nat}{f:PFunc}{W:World}{lo b0:Nat}{S:Nat->Nat->Option Value}(hg:GraphAt W lo b0 n (GL f) S) {left:Int->Bool}:∀ x,headB S left x=true->∃ k:Nat,x=k/\k<f.code.length:=by
 intro x hx;unfold headB at hx;simp only[Bool.and_eq_true]at hx;have h1:=hx.1;unfold rowM at h1;split at h1
 ·rename_i h0;have h2:=(hg.ent 2 x.toNat dc).1 h1;obtain⟨y,hy⟩:=List.exists_mem_of_ne_nil _ h2;obtain⟨_,_,_,h3,_⟩:=GL_mem f 2 x.toNat y hy;exact⟨x.toNat,oz,h3⟩
 ·cases h1
theorem headB_add {S:Nat->Nat->Option Value}{left:Int->Bool}{a:Int}(h:(rowM (S 2) a).isSome=true):addB (headB S left) a=headB S (fun k=>left k&&decide (k≠a)):=by
 funext x;unfold addB headB;by_cases e:x=a
 ·subst e;simp[h]
 ·simp[e]
theorem find_atL {α:Type}{l:List α}{p:α->Bool}{j:Nat}{x:α}(hx:l[j]? = some x) (h:∀ (i:Nat) (y:α),i<j->l[i]? = some y->p y=false) (hp:p x=true):l.find? p=some x:=by
 obtain⟨hj,e⟩:=List.getElem?_eq_some_iff.1 hx;rw[List.find?_eq_some_iff_getElem];refine⟨hp,j,hj,e,fun k hk=>?_⟩;have:=h k _ hk (List.getElem?_eq_getElem oz);simp[this]
theorem find_noL {α:Type}{l:List α}{p:α->Bool}(h:∀ (i:Nat) (y:α),l[i]? = some y->p y=false):l.find? p=none:=by
 rw[List.find?_eq_none];intro x hx;obtain⟨i,hi,e⟩:=List.getElem_of_mem hx;have:=h i x (by rw[List.getElem?_eq_getElem hi,e]);simp[this]
theorem loopsL_at (f:PFunc) (i:Nat):(loopsL f)[i]? = ((headsP (GL f) f.code.length)[i]?).map fun h=>loopP f h.toNat:=by unfold loopsL;rw[List.getElem?_map]
theorem heads_at {f:PFunc}{i:Nat}{h:Int}(hi:(headsP (GL f) f.code.length)[i]? = some h):∃ k:Nat,h=k/\k<f.code.length:=by
 obtain⟨k,e,hk,_⟩:=pickN_mem.1 (List.mem_of_getElem? hi);exact⟨k,e,hk⟩
/-- what a loop being made is, in memory -/
def NewLoop (f:PFunc) (a:Nat) (W:World) (k:Nat) (ms bs:Value):Prop:=Own W k [.int .i64 a,.int .i64 (-1),ms,bs]/\W.ownsRow 0 3 1 ms (loopP f a).members.length (Nums (loopP f a).members)/\W.ownsRow 0 3 1 bs (loopP f a).backs.length (Nums (loopP f a).backs)
theorem loopP_64 (f:PFunc) (hn:f.code.length<=1024) (a:Nat):(∀ x∈(loopP f a).members,In64 x/\∃ k:Nat,x=k/\k<f.code.length)/\∀ x∈(loopP f a).backs,In64 x/\∃ k:Nat,x=k/\k<f.code.length:=by
 constructor
 ·intro x hx;obtain⟨k,e,hk,_⟩:=pickN_mem.1 hx;exact⟨by unfold In64;omega,k,e,hk⟩
 ·intro x hx;obtain⟨k,e,hk,_⟩:=GL_mem f 2 a x hx;exact⟨by unfold In64;omega,k,e,hk⟩
theorem inB_nat {f:PFunc}{a:Nat}(ha:a<f.code.length):∀ x,inB_ (GL f) a x=true->∃ k:Nat,x=k/\k<f.code.length:=by
 intro x hx;unfold inB_ at hx;simp only[Bool.or_eq_true,decide_eq_true_eq]at hx;rcases hx with rfl|hx
 ·exact⟨a,rfl,ha⟩
 ·cases hx with
  | start _ h=>obtain⟨k,e,hk,_⟩:=GL_mem f 2 a x h;exact⟨k,e,hk⟩
  | step y _ h1 h2 h3=>obtain⟨k,e,hk,_⟩:=GL_mem f 0 y.toNat x h3;exact⟨k,e,hk⟩
/-- what Find hands back -/
def FindPost (f:PFunc) (w:World) (e:Ending) (w':World):Prop:=∃ v L,e=.returned (.tuple #[v,.int .i64 (findP f).2.1,.int .i64 (findP f).2.2])/\Below w.heap.size w w'/\LoopsAt w' v L/\L.map (fun t=>t.1)=(findP f).1
theorem find_loops (B:Nat) (hh:HF) (f:PFunc) (w:World) (hB:B<=w.heap.size) (hf:FuncOk B w hh f) (hr:RowsAt w) (hn0:0<f.code.length) (hn:f.code.length<=1024) :
 Calls Tryz.prog 17 #[FuncVal hh f] w (FindPost f w):=by
 have hmm:=@run_makeMap Tryz.prog;have HF:=qd hf;have HRW:=qd hr;have HGr:=qd (fun w hB hf=>graphOf_any B hh f w hB hf hn0 hn);have HRo:=qd (fun lo b0 n S w hB hf hg=>round_any lo b0 n B (GL f) S hh f w hB hf hn0 hn hg (GL_bnd f hn) (fun u x hx=>by
  obtain⟨k,hk,_,_,h⟩:=GL_mem f 1 u x hx;exact⟨k,hk,.step _ _ h.1 h.2⟩))
 have hfp:findP f=match firstI f.code.length (comesB (GL f))with
  | some v=>([],70,(v:Int))
  | none=>match (loopsL f).find? (fun l=>decide ((countsP f l).1≠0))with
   | some l=>([],countsP f l)
   | none=>(parP (loopsL f),0,0):=by unfold findP;rw[if_neg (by omega)];rfl
 have HFP:=qd hfp;clear hfp;have hGLb:=qd (GL_bnd f hn);obtain⟨pa,pl,pc,ca,cl,cc⟩:=hh;obtain⟨h1,h2,⟨hcl,hcm,hcx⟩,h4,h5⟩:=hf;dsimp only at *;subst hcl;clear h2 hcm hcx h1 h4 h5 hr;unfold FuncVal at *;dsimp only at *;have q1:¬(1024:Int)<(f.code.length:Int):=oz
 go_enter Tryz.func17,Tryz.ntmps17;go_upto_region 3 with(fail)
 generalize hW0:World.alloc _ _=W0;have hb0:Below w.heap.size w W0:=by rw[<-hW0];exact bel
 have OF:Own W0 w.heap.size [.string f.name,.slice pa pl pc,.int .i64 f.regs,.int .i64 f.words,.slice ca f.code.length cc]:=by rw[<-hW0];exact Own.new _ _ _
 have hz0:w.heap.size<W0.heap.size:=OF.1;clear hW0;have f5:=own5 OF;have HG0:=qd (HGr.out W0 oz (HF.out.same (Same.of hb0 hB)));clear HGr;go_upto_region 4 with(first|(go_at_call 49;refine HG0.out.mono ?_;rintro e w1 ⟨b0,lo,n,S,rfl,hb1,hbl,hg1⟩)|fail)
 have HOF:=qd OF;clear OF f5 HG0;have hz1:=hb1.size;generalize hW2:World.alloc _ _=W2;have hbA:Below w1.heap.size w1 W2:=by rw[<-hW2];exact bal
 have hg2:GraphAt W2 lo b0 n (GL f) S:=hg1.below hbA;have OG:Own W2 w1.heap.size [.map (some b0),.map (some (b0+1)),.map (some (b0+2))]:=by rw[<-hW2];exact Own.new _ _ _
 have OF2:=(HOF.out.below hb1).below hbA;have hb2:Below w.heap.size w W2:=(hb0.trans (hb1.mono oz)).trans (hbA.mono oz);have hz2:W2.heap.size=w1.heap.size+1:=by rw[<-hW2];simp
 clear hW2 hbA hg1 hb1 hb0 HOF;have g3:=own3 OG;have f5:=own5 OF2;have HR2:=qd (HRo.out lo b0 n S W2 oz (HF.out.same (Same.of hb2 hB)) hg2);clear HRo;obtain⟨fr,hfr⟩:∃ fr,fr=firstI f.code.length (comesB (GL f)):=⟨_,rfl⟩
 have HFR:=qd hfr;rw[<-hfr]at HFP HR2;clear hfr;have HG2:=qd hg2;have HOG:=qd OG;have HOF2:=qd OF2;clear hg2 OG OF2;cases fr with
 | some v =>
  unfold roundV at HR2;go_wp2_with (first|(go_at_call 50;refine HR2.out.mono ?_;rintro e w3 ⟨rfl,hb3⟩)|fail)
  refine bodyPost_ret (v:=.tuple #[.slice none 0 0,.int .i64 70,.int .i64 v]) (by simp[results,Tryz.results17,go_sem]) rfl ?_;have hz3:=hb3.size;refine⟨_,[],by rw[HFP.out],hb2.trans (hb3.mono oz),LoopsAt.nil _,by rw[HFP.out];rfl⟩
 | none =>
  unfold roundV at HR2;go_upto_region 8 with(first|(go_at_call 50;refine HR2.out.mono ?_;rintro e w3 ⟨rfl,hb3⟩)|fail)
  have hz3:=hb3.size;generalize hW4:World.alloc _ _=W4;have hbA:Below w3.heap.size w3 W4:=by rw[<-hW4];exact bal
  have hz4:W4.heap.size=w3.heap.size+1:=by rw[<-hW4];simp
  have hb24:Below W2.heap.size W2 W4:=hb3.trans (hbA.mono oz);have hb4:Below w.heap.size w W4:=hb2.trans (hb24.mono oz);have OM:MapAt W4 w3.heap.size 0 (fun _=>none):=by rw[<-hW4];exact MapAt.made' _ _ rfl
  have OG4:=HOG.out.below hb24;have OF4:=HOF2.out.below hb24;have hg4:=HG2.out.below hb24;clear hW4 hbA f5 g3 hmm HR2;have g3:=own3 OG4;have hbig:∀ i,¬inI i->rowM (S 2) i=none:=fun i hi=>by
   unfold rowM;split
   ·refine hg4.big 2 _ dc (fun h=>hi ?_);unfold inI;omega
   ·rfl
  obtain⟨W5,cnt,hrun,hR,hb5,hz5,hcq⟩:=(hg4.map 2 dc).range Tryz.mapS hbig;have hgb:=hg4.lb;have hgl:b0+2<W2.heap.size:=(HG2.out.map 2 dc).lt;rw[hz4]at hR;have HR5:=qd hR;have hb25:Below W2.heap.size W2 W5:=hb24.trans (hb5.mono oz);have OM5:MapAt W5 w3.heap.size 0 (setM (headB S (fun i=>(rowM (S 2) i).isSome))):=by
   have e:setM (headB S (fun i=>(rowM (S 2) i).isSome))=fun _=>none:=by funext i;unfold setM headB;have:((rowM (S 2) i).isSome && !(rowM (S 2) i).isSome)=false:=(by cases(rowM (S 2) i).isSome<;>rfl);rw[this];rfl
   rw[e];exact OM.below hb5
  have HOM5:=qd OM5;go_upto_region 9 with(fail)
  clear hR hrun hb24 hb4 OM OG4 OF4 hg4 g3 OM5 hbig hb5
  go_loopg [] cnt (fun k wr=>∃ (left:Int->Bool) (q:Nat),Hid (MapRange wr (b0+2) (w3.heap.size+1) n (rowM (S 2)) left k)/\q+leftC left<=1024/\Hid (∀ i,left i=true->(rowM (S 2) i).isSome=true)/\Below W2.heap.size W2 wr/\w3.heap.size+2<=wr.heap.size/\Hid (MapAt wr w3.heap.size q (setM (headB S left))))
  case atStart=>exact⟨_,0,HR5,by have:=leftC_le (fun i=>(rowM (S 2) i).isSome);omega,qd (fun i h=>h),hb25,oz,HOM5⟩
  case round =>
   clear HR5 hb25 HOM5 hz5 hcq;obtain⟨left,q,hR,hq,hsm,hbr,hzr,OM⟩:=hrel;rcases hR.out.next 0 with⟨hno,hrun⟩|⟨i,s,W6,c2,hi,hli,hMi,hrun,hR2,hlt2,hc2,hz6,hent⟩
   ·have HS:=qd (sorted_any w3.heap.size q f.code.length (headB S left) wr OM.out hn (headB_nat HG2.out));rw[headB_done HG2.out hno]at HS;have hhn:=fun i h hi=>@heads_at f i h hi;have hhl:(headsP (GL f) f.code.length).length<=1024:=by
     have:(headsP (GL f) f.code.length).length<=f.code.length:=by
      unfold headsP pickN;rw[List.length_map];exact Nat.le_trans (List.length_filter_le _ _) si
     omega
    have HHN:=qd hhn;clear hhn;have HLA:=qd (loopsL_at f);have HLL:=qd (show loopsL f=(headsP (GL f) f.code.length).map fun h=>loopP f h.toNat from rfl);generalize headsP (GL f) f.code.length=Hs at *;go_upto_region 14 with(first|(go_at_call 51;refine HS.out.mono ?_;rintro e w8 ⟨hv,rfl,hb8,hr8,hf8,hn8⟩;obtain⟨ha8,hc8,rfl⟩:∃ ha hc,hv=.slice ha Hs.length hc:=(by rcases row_form hr8 with⟨rfl,h0,_⟩|⟨g,c,rfl,_,_,_⟩;exact⟨none,0,by rw[h0]⟩;exact⟨_,c,rfl⟩))|fail)
    have hz8:=hb8.size;have hb28:Below W2.heap.size W2 w8:=hbr.trans (hb8.mono hbr.size);have HR8:=qd hr8;have HOG8:=qd (HOG.out.below hb28);have HOF8:=qd (HOF2.out.below hb28);have HG8:=qd (HG2.out.below hb28);have hbw8:Below w.heap.size w w8:=hb2.trans (hb28.mono oz);have HF8:=qd (HF.out.same (Same.of hbw8 hB));have HRW8:=qd (HRW.out.same (Same.of hbw8 lr) HRW.out.1 hbw8.size);have hzz:b0+2<w8.heap.size/\w1.heap.size<w8.heap.size:=⟨oz,oz⟩
    clear HS OM hR hrun hsm hno hr8 hf8 hn8 hbr hb8 hb28 hq hzr HOG HOF2 HG2 hgl hz8;go_loopw [10,46] (fun v i wx=>∃ (j:Nat) (L:List LTri),j<=Hs.length/\i=.int .i64 j/\Hid (LoopsAt wx v L)/\Hid (L.map (fun t=>t.1)=(Hs.take j).map fun h=>loopP f h.toNat)/\L.length=j/\Hid (∀ (i:Nat) (h:Int),i<j->Hs[i]? = some h->(countsP f (loopP f h.toNat)).1=0)/\Below w8.heap.size w8 wx/\(∀ k,v.ownBlock=some k->w8.heap.size<=k)) (fun v i _=>Hs.length-(intOf i).toNat)
    case atStart=>exact⟨0,[],Nat.zero_le _,rfl,qd (LoopsAt.nil _),qd rfl,rfl,qd (fun i h hi=>by omega),Below.refl _ _,by simp[Value.ownBlock]⟩
    case round =>
     rename_i wq;obtain⟨j,L,hj,rfl,hL,hLm,hLl,hok,hbx,hvb⟩:=hrel;have hzx:=hbx.size;by_cases hjt:j<Hs.length
     ·have d3:(j:Int)<(Hs.length:Int):=oz
      have hwj:IntKind.i64.wrap ((j:Int)+1)=(j:Int)+1:=IntWalk.i64_in _ oz;have hgj:Hs[j]? = some (Hs[j]'hjt):=List.getElem?_eq_getElem hjt;obtain⟨a,ha,hal⟩:=HHN.out j _ hgj;rw[ha]at hgj;obtain⟨hg,hgc,hgv,-,-,hgl⟩:=row_pos HR8.out oz;cases hgv;have c0:=(hbx.cell (p:=⟨hg,j,none⟩) hgl).trans (row_cell HR8.out (Nums_some hgj));have g3:=own3 (HOG8.out.below hbx);have f5:=own5 (HOF8.out.below hbx);have HGx:=qd (HG8.out.below hbx);have HMb:Hid (∀ w',Below wr.heap.size wr w'->Calls Tryz.prog 52 #[.agg #[.map (some b0),.map (some (b0+1)),.map (some (b0+2))],.int .i64 a] w' fun e w2=>∃ v,e=.returned v/\∃ b q,v=.map (some b)/\w'.heap.size<=b/\MapAt w2 b q (setM (inB_ (GL f) a))/\Below w'.heap.size w' w2) :=
       qd (fun w' hw=>(members_any lo b0 n (GL f) S w' (HGx.out.below hw) hGLb.out a oz).mono (by rintro e w2 ⟨b,q,rfl,h⟩;exact⟨_,rfl,b,q,rfl,h⟩))
      have HSo:Hid (∀ w' b q,MapAt w' b q (setM (inB_ (GL f) a))->Calls Tryz.prog 51 #[.map (some b)] w' fun e w2=>∃ v,e=.returned v/\∃ ma mc,v=.slice ma (loopP f a).members.length mc/\Below w'.heap.size w' w2/\w2.ownsRow 0 3 1 (.slice ma (loopP f a).members.length mc) (loopP f a).members.length (Nums (loopP f a).members)/\∀ k,(Value.slice ma (loopP f a).members.length mc).ownBlock=some k->w'.heap.size<=k) :=
       qd (fun w' b q hw=>(sorted_any b q f.code.length (inB_ (GL f) a) w' hw hn (inB_nat hal)).mono (by
        rintro e w2 ⟨v,rfl,h1,h2,h3,h4⟩;have hl:(pickN f.code.length (inB_ (GL f) a))=(loopP f a).members:=rfl;rw[hl]at h2;rcases row_form h2 with⟨rfl,h0,h00⟩|⟨g,c,rfl,_,_,_⟩
        ·exact⟨_,rfl,none,0,by rw[h0],h1,by rw[h0]at h2 ⊢;exact h2,by simp[Value.ownBlock]⟩
        ·exact⟨_,rfl,some ⟨g,0,none⟩,c,rfl,h1,h2,h3⟩))
      obtain⟨ba,bc,hbs⟩:∃ ba bc,(S 2 a).getD nilS=.slice ba (loopP f a).backs.length bc:=by
       rcases row_form (HGx.out.row (c:=2) (v:=a) dc)with⟨h1,h2,_⟩|⟨g,c,h1,_⟩
       ·exact⟨none,0,by rw[h1];show _=Value.slice none (GL f 2 a).length 0;rw[h2]⟩
       ·exact⟨_,c,h1⟩
      have HLk:=qd (fun w' (hw:Below wr.heap.size wr w')=>by
       have h:=((HGx.out.below hw).map 2 dc).get Tryz.mapS zeroS (inI_nat (show a<1024 by omega));rw[rowM_nat,hbs]at h;exact h)
      have hrb:=HGx.out.row (c:=2) (v:=a) dc;rw[hbs]at hrb;have HRb:=qd hrb;have hrb8':=HG8.out.row (c:=2) (v:=a) dc;rw[hbs]at hrb8';have hrb8:=qd hrb8';clear hrb hbs hrb8';have hcfM:∀ (args:Array Value) (w:World),(callFunc 52 args).run Tryz.prog w=.ok (.enter 52 args) w:=fun _ _=>rfl;have hcfS:∀ (args:Array Value) (w:World),(callFunc 51 args).run Tryz.prog w=.ok (.enter 51 args) w:=fun _ _=>rfl;have HO:=qd (HOG8.out.below hbx);go_upto_region 16 with(fail)
      go_cut [13] (fun v wc=>∃ (k:Nat) (ms:Value),v=.pointer (some ⟨k,0,none⟩)/\Hid (NewLoop f a wc k ms (.slice ba (loopP f a).backs.length bc))/\Below wr.heap.size wr wc/\wr.heap.size<=k/\(∃ ma mc,ms=.slice ma (loopP f a).members.length mc)/\(∀ i,ms.ownBlock=some i->wr.heap.size<=i))
      case first =>
       clear f5 g3 hgj c0 d3 hwj ha hhl hzz hok hLm HLA HLL HHN HR8 HOG8 HOF8 HG8 HF8 HRW8 HFR HFP HF HRW hLl hL hvb hbw8 hzx hjt hrb8;have HSS:Hid (∀ w',Below wr.heap.size wr w'->w'.cell? ⟨w1.heap.size,0,none⟩=some (.map (some b0))/\w'.cell? ⟨w1.heap.size,1,none⟩=some (.map (some (b0+1)))/\w'.cell? ⟨w1.heap.size,2,none⟩=some (.map (some (b0+2)))/\(Instr.lookup 104 (.map (some (b0+2))) (.int .i64 a) false).run Tryz.prog w'=.ok (.slice ba (loopP f a).backs.length bc) w') :=
        qd (fun w' hw=>by
         have g:=own3 (HO.out.below hw);exact⟨g.2.1,g.2.2.1,g.2.2.2.1,HLk.out w' hw⟩)
       generalize hA0:(Act.mk _ _:Act)=a0;have Ee:a0.eval (.tmp 5)=.pointer (some ⟨w1.heap.size,0,none⟩)/\a0.eval (.tmp 12)=.int .i64 a/\a0.tmps.size=137:=by rw[<-hA0];exact⟨rfl,rfl,rfl⟩
       refine region_held_plain (fun w'=>Below wr.heap.size wr w') kr (Below.refl _ wr).drew ?_;intro K0 hK0 hHeld
       try dsimp only at hHeld
       refine wtk 0 rfl ?_;try simp only[GE]
       refine wtk 1 rfl ?_;try simp only[GE]
       refine wtk 2 rfl ?_;try simp only[GE]
       refine wtk 5 rfl ?_;try simp only[GE]
       refine wtk 6 rfl ?_;try simp only[GE]
       refine wtk 7 rfl ?_;try simp only[GE]
       refine wtk 8 rfl ?_;try simp only[GE]
       generalize hA1:(Act.put _ _ _:Act)=a1;replace Ee:a1.eval (.tmp 50)=.int .i64 a/\a1.eval (.tmp 51)=.agg #[.map (some b0),.map (some (b0+1)),.map (some (b0+2))]/\a1.eval (.tmp 52)=.int .i64 a/\a1.eval (.tmp 58)=.slice ba (loopP f a).backs.length bc/\a1.tmps.size=137:=ee1;refine wpAnyH_ready (rs:=[3,10]) kr si ?_;refine AllReadyH.cons rfl (fun K hK=>?_) (AllReadyH.cons rfl (fun K hK=>?_) AllReadyH.nil)
       ·refine step_callF rfl 52 [.tmp 51,.tmp 52] #[106,3] rfl hcfM [.agg #[.map (some b0),.map (some (b0+1)),.map (some (b0+2))],.int .i64 a] (by simp only[GE,MX,EX,Ee,reduceIte,Nat.reduceEqDiff,Nat.reduceLT,Nat.reduceBEq]) _ (HMb.out _ hHeld) ?_;rintro v wM ⟨bM,qM,rfl,hlM,hMM,hbM⟩;have hwM:Below wr.heap.size wr wM:=hHeld.trans (hbM.mono hHeld.size);have hzM:=hwM.size;refine hK.out _ _ (hwM) fun hHeld=>?_;clear hK K;try simp only[GE]
        generalize hA2:(Act.put _ _ _:Act)=a2;replace Ee:a2.eval (.tmp 50)=.int .i64 a/\a2.eval (.tmp 51)=.agg #[.map (some b0),.map (some (b0+1)),.map (some (b0+2))]/\a2.eval (.tmp 52)=.int .i64 a/\a2.eval (.tmp 58)=.slice ba (loopP f a).backs.length bc/\a2.eval (.tmp 53)=.map (some bM)/\a2.tmps.size=137:=ee2;refine wpAnyH_ready (rs:=[4,10]) kr si ?_;refine AllReadyH.cons rfl (fun K hK=>?_) (AllReadyH.cons rfl (fun K hK=>?_) AllReadyH.nil)
        ·refine step_callF rfl 51 [.tmp 53] #[110] rfl hcfS [.map (some bM)] (by simp only[GE,MX,EX,Ee,reduceIte,Nat.reduceEqDiff,Nat.reduceLT,Nat.reduceBEq]) _ (HSo.out _ bM qM hMM) ?_;rintro v wS ⟨ma,mc,rfl,hbS,hrS,hfS⟩;have hwS:Below wr.heap.size wr wS:=hHeld.trans (hbS.mono hHeld.size);have hzS:=hwS.size;refine hK.out _ _ (hwS) fun hHeld=>?_;clear hK K;try simp only[GE]
         generalize hA3:(Act.put _ _ _:Act)=a3;replace Ee:a3.eval (.tmp 50)=.int .i64 a/\a3.eval (.tmp 58)=.slice ba (loopP f a).backs.length bc/\a3.eval (.tmp 54)=.slice ma (loopP f a).members.length mc/\a3.tmps.size=137:=ee3;refine wtk 9 rfl ?_;try simp only[GE]
         generalize hA4:(Act.put _ _ _:Act)=a4;replace Ee:a4.eval (.tmp 59)=.agg #[.int .i64 a,.int .i64 (-1),.slice ma (loopP f a).members.length mc,.slice ba (loopP f a).backs.length bc]/\a4.tmps.size=137:=ee4;refine readyH1 10 ?_ kr ?_ ?_;rotate_left
         ·exact rfl
         intro K hK;simp only[GE];refine stv ?_;refine hK.out _ _ (bel) fun hHeld=>?_;clear hK K;try simp only[GE]
         generalize hA5:(Act.put _ _ _:Act)=a5;replace Ee:a5.eval (.tmp 59)=.agg #[.int .i64 a,.int .i64 (-1),.slice ma (loopP f a).members.length mc,.slice ba (loopP f a).backs.length bc]/\a5.eval (.tmp 13)=.pointer (some ⟨wS.heap.size,0,none⟩)/\a5.tmps.size=137:=ee5;refine readyH1 11 ?_ kr ?_ ?_;rotate_left
         ·exact rfl
         intro K hK;simp only[GE];refine sts ?_;refine hK.out _ _ (bel) fun hHeld=>?_;clear hK K;try simp only[GE]
         refine anyH_done kr ?_;refine hK0.out _ _ ?_;subst hA5;subst hA4;subst hA3;subst hA2;subst hA1;subst hA0
         try clear Ee
         simp only[GE,Act.put,SU];go_wp2;go_meet;exact⟨wS.heap.size,_,rfl,qd ⟨Own.new _ _ _,row_below bal hrS,row_below (hwS.alloc hzS _) HRb.out⟩,hwS.alloc hzS _,hzS,⟨_,_,rfl⟩,fun i hi=>by have:=hfS i hi;omega⟩
        ·simp only[GE];refine stv ?_;refine hK.out _ _ (bel) fun hHeld=>?_;clear hK K;try simp only[GE]
         generalize hA3:(Act.put _ _ _:Act)=a3;replace Ee:a3.eval (.tmp 50)=.int .i64 a/\a3.eval (.tmp 51)=.agg #[.map (some b0),.map (some (b0+1)),.map (some (b0+2))]/\a3.eval (.tmp 52)=.int .i64 a/\a3.eval (.tmp 58)=.slice ba (loopP f a).backs.length bc/\a3.eval (.tmp 53)=.map (some bM)/\a3.eval (.tmp 13)=.pointer (some ⟨wM.heap.size,0,none⟩)/\a3.tmps.size=137:=ee3;refine readyH1 4 ?_ kr ?_ ?_;rotate_left
         ·exact rfl
         intro K hK;refine step_callF rfl 51 [.tmp 53] #[110] rfl hcfS [.map (some bM)] (by simp only[GE,MX,EX,Ee,reduceIte,Nat.reduceEqDiff,Nat.reduceLT,Nat.reduceBEq]) _ (HSo.out _ bM qM (hMM.alloc _)) ?_;rintro v wS ⟨ma,mc,rfl,hbS,hrS,hfS⟩;have hwS:Below wr.heap.size wr wS:=hHeld.trans (hbS.mono hHeld.size);have hzS:=hwS.size;have pS:=Own.below (Own.new wM [.int .i64 0,.int .i64 0,.slice none 0 0,.slice none 0 0] 52) hbS;have oS:=own4 pS;refine hK.out _ _ (hwS) fun hHeld=>?_;clear hK K;try simp only[GE]
         generalize hA4:(Act.put _ _ _:Act)=a4;replace Ee:a4.eval (.tmp 50)=.int .i64 a/\a4.eval (.tmp 58)=.slice ba (loopP f a).backs.length bc/\a4.eval (.tmp 54)=.slice ma (loopP f a).members.length mc/\a4.eval (.tmp 13)=.pointer (some ⟨wM.heap.size,0,none⟩)/\a4.tmps.size=137:=ee4;refine wtk 9 rfl ?_;try simp only[GE]
         generalize hA5:(Act.put _ _ _:Act)=a5;replace Ee:a5.eval (.tmp 59)=.agg #[.int .i64 a,.int .i64 (-1),.slice ma (loopP f a).members.length mc,.slice ba (loopP f a).backs.length bc]/\a5.eval (.tmp 13)=.pointer (some ⟨wM.heap.size,0,none⟩)/\a5.tmps.size=137:=ee5;refine readyH1 11 ?_ kr ?_ ?_;rotate_left
         ·exact rfl
         intro K hK;simp only[GE];refine sts ?_;refine hK.out _ _ (bel) fun hHeld=>?_;clear hK K;try simp only[GE]
         refine anyH_done kr ?_;refine hK0.out _ _ ?_;subst hA5;subst hA4;subst hA3;subst hA2;subst hA1;subst hA0
         try clear Ee
         simp only[GE,Act.put,SU];go_wp2;go_meet;exact⟨wM.heap.size,_,rfl,qd ⟨(((pS.set 0 _ si).set 1 _ si).set 2 _ si).set 3 _ si,row_chg (chg4 wS wM.heap.size _ _ _ _) hrS (fun i hi e=>by have h1:=hfS i hi;rw[World.size_alloc]at h1;omega),row_below (((((hwS.setCell (p:=⟨wM.heap.size,0,none⟩) (by show _<=wM.heap.size;omega) _).setCell (p:=⟨wM.heap.size,1,none⟩) (by show _<=wM.heap.size;omega) _).setCell (p:=⟨wM.heap.size,2,none⟩) (by show _<=wM.heap.size;omega) _).setCell (p:=⟨wM.heap.size,3,none⟩) (by show _<=wM.heap.size;omega) _)) HRb.out⟩,((((hwS.setCell (p:=⟨wM.heap.size,0,none⟩) (by show _<=wM.heap.size;omega) _).setCell (p:=⟨wM.heap.size,1,none⟩) (by show _<=wM.heap.size;omega) _).setCell (p:=⟨wM.heap.size,2,none⟩) (by show _<=wM.heap.size;omega) _).setCell (p:=⟨wM.heap.size,3,none⟩) (by show _<=wM.heap.size;omega) _),oz,⟨_,_,rfl⟩,fun i hi=>by have h1:=hfS i hi;rw[World.size_alloc]at h1;omega⟩
       ·simp only[GE];refine stv ?_;refine hK.out _ _ (bel) fun hHeld=>?_;clear hK K;try simp only[GE]
        generalize hA2:(Act.put _ _ _:Act)=a2;replace Ee:a2.eval (.tmp 50)=.int .i64 a/\a2.eval (.tmp 51)=.agg #[.map (some b0),.map (some (b0+1)),.map (some (b0+2))]/\a2.eval (.tmp 52)=.int .i64 a/\a2.eval (.tmp 58)=.slice ba (loopP f a).backs.length bc/\a2.eval (.tmp 13)=.pointer (some ⟨wr.heap.size,0,none⟩)/\a2.tmps.size=137:=ee2;refine readyH1 3 ?_ kr ?_ ?_;rotate_left
        ·exact rfl
        intro K hK;refine step_callF rfl 52 [.tmp 51,.tmp 52] #[106,3] rfl hcfM [.agg #[.map (some b0),.map (some (b0+1)),.map (some (b0+2))],.int .i64 a] (by simp only[GE,MX,EX,Ee,reduceIte,Nat.reduceEqDiff,Nat.reduceLT,Nat.reduceBEq]) _ (HMb.out _ hHeld) ?_;rintro v wM ⟨bM,qM,rfl,hlM,hMM,hbM⟩;have hwM:Below wr.heap.size wr wM:=hHeld.trans (hbM.mono hHeld.size);have hzM:=hwM.size;have pM:=Own.below (Own.drew (Own.new' wr [.int .i64 0,.int .i64 0,.slice none 0 0,.slice none 0 0] 52 wr.heap.size rfl)) hbM;refine hK.out _ _ (hwM) fun hHeld=>?_;clear hK K;try simp only[GE]
        generalize hA3:(Act.put _ _ _:Act)=a3;replace Ee:a3.eval (.tmp 50)=.int .i64 a/\a3.eval (.tmp 51)=.agg #[.map (some b0),.map (some (b0+1)),.map (some (b0+2))]/\a3.eval (.tmp 52)=.int .i64 a/\a3.eval (.tmp 58)=.slice ba (loopP f a).backs.length bc/\a3.eval (.tmp 53)=.map (some bM)/\a3.eval (.tmp 13)=.pointer (some ⟨wr.heap.size,0,none⟩)/\a3.tmps.size=137:=ee3;refine readyH1 4 ?_ kr ?_ ?_;rotate_left
        ·exact rfl
        intro K hK;refine step_callF rfl 51 [.tmp 53] #[110] rfl hcfS [.map (some bM)] (by simp only[GE,MX,EX,Ee,reduceIte,Nat.reduceEqDiff,Nat.reduceLT,Nat.reduceBEq]) _ (HSo.out _ bM qM hMM) ?_;rintro v wS ⟨ma,mc,rfl,hbS,hrS,hfS⟩;have hwS:Below wr.heap.size wr wS:=hHeld.trans (hbS.mono hHeld.size);have hzS:=hwS.size;have pS:=Own.below pM hbS;have oS:=own4 pS;refine hK.out _ _ (hwS) fun hHeld=>?_;clear hK K;try simp only[GE]
        generalize hA4:(Act.put _ _ _:Act)=a4;replace Ee:a4.eval (.tmp 50)=.int .i64 a/\a4.eval (.tmp 58)=.slice ba (loopP f a).backs.length bc/\a4.eval (.tmp 54)=.slice ma (loopP f a).members.length mc/\a4.eval (.tmp 13)=.pointer (some ⟨wr.heap.size,0,none⟩)/\a4.tmps.size=137:=ee4;refine wtk 9 rfl ?_;try simp only[GE]
        generalize hA5:(Act.put _ _ _:Act)=a5;replace Ee:a5.eval (.tmp 59)=.agg #[.int .i64 a,.int .i64 (-1),.slice ma (loopP f a).members.length mc,.slice ba (loopP f a).backs.length bc]/\a5.eval (.tmp 13)=.pointer (some ⟨wr.heap.size,0,none⟩)/\a5.tmps.size=137:=ee5;refine readyH1 11 ?_ kr ?_ ?_;rotate_left
        ·exact rfl
        intro K hK;simp only[GE];refine sts ?_;refine hK.out _ _ (bel) fun hHeld=>?_;clear hK K;try simp only[GE]
        refine anyH_done kr ?_;refine hK0.out _ _ ?_;subst hA5;subst hA4;subst hA3;subst hA2;subst hA1;subst hA0
        try clear Ee
        simp only[GE,Act.put,SU];go_wp2;go_meet;exact⟨wr.heap.size,_,rfl,qd ⟨(((pS.set 0 _ si).set 1 _ si).set 2 _ si).set 3 _ si,row_chg (chg4 wS wr.heap.size _ _ _ _) hrS (fun i hi e=>by have h1:=hfS i hi;have h2:=hbM.size;have h3:(wr.alloc (.cells #[.int .i64 0,.int .i64 0,.slice none 0 0,.slice none 0 0] 52)).drew.heap.size=wr.heap.size+1:=World.size_alloc _ _;omega),row_below (((((hwS.setCell (p:=⟨wr.heap.size,0,none⟩) (by show _<=wr.heap.size;omega) _).setCell (p:=⟨wr.heap.size,1,none⟩) (by show _<=wr.heap.size;omega) _).setCell (p:=⟨wr.heap.size,2,none⟩) (by show _<=wr.heap.size;omega) _).setCell (p:=⟨wr.heap.size,3,none⟩) (by show _<=wr.heap.size;omega) _)) HRb.out⟩,((((hwS.setCell (p:=⟨wr.heap.size,0,none⟩) (by show _<=wr.heap.size;omega) _).setCell (p:=⟨wr.heap.size,1,none⟩) (by show _<=wr.heap.size;omega) _).setCell (p:=⟨wr.heap.size,2,none⟩) (by show _<=wr.heap.size;omega) _).setCell (p:=⟨wr.heap.size,3,none⟩) (by show _<=wr.heap.size;omega) _),oz,⟨_,_,rfl⟩,fun i hi=>by have h1:=hfS i hi;have h2:=hbM.size;have h3:(wr.alloc (.cells #[.int .i64 0,.int .i64 0,.slice none 0 0,.slice none 0 0] 52)).drew.heap.size=wr.heap.size+1:=World.size_alloc _ _;omega⟩
      case rest =>
       obtain⟨k,ms,rfl,hNL,hbc,hkl,⟨ma,mc,rfl⟩,hfm⟩:=hcut;have hbxc:Below w8.heap.size w8 wc:=hbx.trans (hbc.mono hbx.size);have hzc:=hbc.size;have k4:=own4 hNL.out.1;have f5:=own5 (HOF8.out.below hbxc);obtain⟨hl1,hl2⟩:=loopP_64 f hn a;obtain⟨ma',mc',e1,n1⟩:=NumsAt.ofRow (B:=wc.heap.size) hNL.out.2.1 (fun x hx=>(hl1 x hx).1) (fun i hi=>row_lt hNL.out.2.1 hi);obtain⟨ba',bc',e2,n2⟩:=NumsAt.ofRow (B:=wc.heap.size) hNL.out.2.2 (fun x hx=>(hl2 x hx).1) (fun i hi=>row_lt hNL.out.2.2 hi);cases e1;cases e2;have HFc:FuncOk wc.heap.size wc ⟨pa,pl,pc,ca,f.code.length,cc⟩ f:=(HF8.out.same (Same.of hbxc (by have:=hbw8.size;omega))).mono (by have:=hbxc.size;have:=hbw8.size;omega);have HCn:Hid (Calls Tryz.prog 53 #[.agg #[.string f.name,.slice pa pl pc,.int .i64 f.regs,.int .i64 f.words,.slice ca f.code.length cc],.agg #[.int .i64 a,.int .i64 (-1),.slice ma (loopP f a).members.length mc,.slice ba (loopP f a).backs.length bc]] wc fun e w'=>e=.returned (.tuple #[.int .i64 (countsP f (loopP f a)).1,.int .i64 (countsP f (loopP f a)).2])/\Below wc.heap.size wc w') :=
        qd (counts_any wc.heap.size ⟨pa,pl,pc,ca,f.code.length,cc⟩ f (loopP f a) ma ba mc bc wc lr HFc (HRW8.out.same (Same.of' hbxc) HRW8.out.1 hbxc.size) n1 n2 hal (fun x hx=>(hl1 x hx).2) (fun x hx=>(hl2 x hx).2) hn)
       clear HFc n1 n2;have hLj:(loopsL f)[j]? = some (loopP f a):=by rw[HLA.out,hgj];simp
       have hLb:∀ (i:Nat) (y:PLoop),i<j->(loopsL f)[i]? = some y->decide ((countsP f y).1≠0)=false:=fun i y hi hy=>by
        rw[HLA.out]at hy;obtain⟨h,h1,h2⟩:=Option.map_eq_some_iff.1 hy;subst h2;simpa using hok.out i h hi h1
       have HFA:=qd (fun h=>find_atL (p:=fun l=>decide ((countsP f l).1≠0)) hLj hLb h);have HLP:=qd hLj;clear hLj hLb g3 hl1 hl2;obtain⟨ce,hce⟩:∃ ce,ce=countsP f (loopP f a):=⟨_,rfl⟩
       rw[<-hce]at HCn HFA;have HCE:=qd hce;clear hce;obtain⟨ce1,ce2⟩:=ce;dsimp only at HCn;by_cases hc0:ce1=0
       ·subst hc0;go_upto_region 20 with(first|(go_at_call 53;refine HCn.out.mono ?_;rintro e w9 ⟨rfl,hb9⟩)|fail)
        have hz9:=hb9.size;have N9:=hNL.out.1.below hb9;have k4':=own4 N9;have hL9:=qd ((hL.out.below hbc).below hb9);have hm9:=qd (row_below hb9 hNL.out.2.1);have hs9:=qd (row_below hb9 hNL.out.2.2);have hb89:Below w8.heap.size w8 w9:=hbxc.trans (hb9.mono hbxc.size);have hrd:∀ i,(Value.slice ba (loopP f a).backs.length bc).ownBlock=some i->i<w8.heap.size:=fun i hi=>row_lt hrb8.out hi;obtain⟨la,lc,hlv⟩:=hL.out.form;rw[hLl]at hlv;subst hlv;clear k4 f5;have hjm:j<=1024:=oz
        go_wp2_with (first|(at_builtin;refine wpList_app rfl (.tmp 70) (.tmp 72) 43 52 4 64 (.agg #[.int .i64 0,.int .i64 0,.slice none 0 0,.slice none 0 0]) rfl Tryz.underlying43 Tryz.infoL rfl dc _ _ _ rfl (row_below bal hL9.out.row) ⟨w9.heap.size,0,none⟩ 1 1 (triCells (loopP f a,.slice ma (loopP f a).members.length mc,.slice ba (loopP f a).backs.length bc)) rfl rfl (src_own (Own.new' _ _ _ _ rfl)) (by intro u hu;simp[triCells]at hu;rcases hu with rfl|rfl|rfl|rfl<;>rfl) (by unfold maxLen;omega) oz dc ?_;intro g4 c4 w4 hr4 hc4 hg4)|fail)
        have hbA:Below w9.heap.size w9 (w9.alloc (.cells (triCells (loopP f a,.slice ma (loopP f a).members.length mc,.slice ba (loopP f a).backs.length bc)).toArray 52)):=bal;have hc5:Chg (fun i=>(Value.slice la j lc).ownBlock=some i) w9 w4:=(Chg.of hbA).trans hc4;have hz5:=hc5.size;have hr5:w4.ownsRow 0 52 4 (.slice (some ⟨g4,0,none⟩) (j+1) c4) (L.length+1) (cellsL L++triCells (loopP f a,.slice ma (loopP f a).members.length mc,.slice ba (loopP f a).backs.length bc)):=by
         first|exact hr4|(rw[hLl];exact hr4)|(rw[hLl]at hr4;rw[hLl];exact hr4)
        have hvl:∀ i,(Value.slice la j lc).ownBlock=some i->w8.heap.size<=i/\i<wr.heap.size:=fun i hi=>⟨hvb i hi,row_lt hL.out.row hi⟩
        have hnb:∀ i,(Value.slice (some ⟨g4,0,none⟩) (j+1) c4).ownBlock=some i->(Value.slice la j lc).ownBlock=some i\/w9.heap.size<=i:=fun i hi=>by
         have e:g4=i:=by simpa[Value.ownBlock]using hi
         subst e;rcases hg4 with h|h
         ·exact .inl h
         ·simp at h;exact .inr oz
        have hP:=hL9.out.push (t:=(loopP f a,.slice ma (loopP f a).members.length mc,.slice ba (loopP f a).backs.length bc)) hr5 hc5 hnb hm9.out hs9.out (fun i hi=>by
         have h1:=hvl i hi;exact⟨fun e=>by have:=hfm i e;omega,fun e=>by have:=hrd i e;omega⟩)
        have HP:=qd hP;refine⟨⟨j+1,_,oz,si,HP,qd ?_,by simp[hLl],qd (fun i h hi hh=>?_),hb89.trans (hc5.below _ hb89.size (fun i hi e=>by have:=hvl i e;omega)),fun i hi=>?_⟩,?_⟩
        ·rw[List.map_append,hLm.out,List.take_add_one,hgj];simp
        ·by_cases e:i=j
         ·subst e;rw[hgj]at hh;cases hh;rw[Int.toNat_natCast,<-HCE.out]
         ·exact hok.out i h oz hh
        ·rcases hnb i hi with h|h
         ·exact hvb i h
         ·omega
        ·go_light;exact ml
       ·have q7:(ce1==0)=false:=by simpa using hc0
        have q8:(ce1 != 0)=true:=by simpa using hc0
        go_wp2_with (first|(go_at_call 53;refine HCn.out.mono ?_;rintro e w9 ⟨rfl,hb9⟩)|fail)
        refine bodyPost_ret (v:=.tuple #[.slice none 0 0,.int .i64 ce1,.int .i64 ce2]) (by simp[results,Tryz.results17,go_sem]) rfl ?_;have e:=HFA.out (by simp[hc0]);have e3:=HFP.out
        try dsimp only at e3
        rw[e]at e3
        try dsimp only at e3
        rw[<-HCE.out]at e3;exact⟨_,[],by rw[e3],hbw8.trans ((hbxc.trans (hb9.mono hbxc.size)).mono hbw8.size),LoopsAt.nil _,by rw[e3];rfl⟩
     ·have hjj:j=Hs.length:=oz
      subst hjj;have d3:¬(Hs.length:Int)<(Hs.length:Int):=oz
      have hls:L.map (fun t=>t.1)=loopsL f:=by rw[hLm.out,List.take_length];exact HLL.out.symm
      have hlsl:(loopsL f).length=Hs.length:=by rw[<-hls,List.length_map,hLl]
      have hpar:∀ i,i<(loopsL f).length->((loopsL f).getD i default).parent = -1:=fun i hi=>by
       rw[List.getD_eq_getElem?_getD,HLA.out,List.getElem?_eq_getElem (show i<Hs.length by omega)];rfl
      have h64:∀ x∈loopsL f,(∀ y∈x.members,In64 y)/\∀ y∈x.backs,In64 y:=fun x hx=>by
       obtain⟨i,hi⟩:=List.getElem?_of_mem hx;rw[HLA.out]at hi;obtain⟨h,h1,h2⟩:=Option.map_eq_some_iff.1 hi;subst h2;obtain⟨l1,l2⟩:=loopP_64 f hn h.toNat;exact⟨fun y hy=>(l1 y hy).1,fun y hy=>(l2 y hy).1⟩
      have hmm1:∀ i,i<Hs.length->(((loopsL f).getD i default).members.length:Int)<=1024:=fun i hi=>by
       have e:(loopsL f).getD i default=loopP f (Hs[i]'hi).toNat:=by
        rw[List.getD_eq_getElem?_getD,HLA.out,List.getElem?_eq_getElem hi];rfl
       rw[e];have:(loopP f (Hs[i]'hi).toNat).members.length<=f.code.length:=by
        unfold loopP pickN;dsimp only;rw[List.length_map];exact Nat.le_trans (List.length_filter_le _ _) si
       omega
      have hfin:findP f=(parP (loopsL f),0,0):=by
       rw[HFP.out];have:=find_noL (l:=loopsL f) (p:=fun l=>decide ((countsP f l).1≠0)) (fun i y hy=>by
        rw[HLA.out]at hy;obtain⟨h,h1,h2⟩:=Option.map_eq_some_iff.1 hy;subst h2;simpa using hok.out i h (List.getElem?_eq_some_iff.1 h1).1 h1)
       rw[this]
      have HFIN:=qd hfin;have HLS:=qd hls;have H64:=qd h64;have HPAR:=qd hpar;have HMM:=qd hmm1;have HHL:=qd hlsl;clear hfin hls h64 hpar hmm1 hlsl hLm hok HLL HLA HHN HFP;obtain⟨la,lc,hlv⟩:=hL.out.form;rw[hLl]at hlv;subst hlv;have hL0:Hid (L.map (fun t=>t.1)=parS (loopsL f) 0 0):=qd (by rw[HLS.out,parS_zero _ HPAR.out]);clear HLS;obtain⟨wL,hwL⟩:∃ wL:World,wL=wr:=⟨_,rfl⟩
      subst hwL;generalize loopsL f=ls at *;obtain⟨nl,hnl⟩:∃ nl,nl=Hs.length:=⟨_,rfl⟩
      rw[<-hnl]at d3 hLl HMM HHL hhl hvb hL ⊢;clear hnl HR8 hj;go_wp2;go_loopw [77] (fun i wx=>∃ (a:Nat) (L:List LTri),a<=nl/\i=.int .i64 a/\Hid (LoopsAt wx (.slice la nl lc) L)/\Hid (L.map (fun t=>t.1)=parS ls a 0)/\L.length=nl/\Below w8.heap.size w8 wx) (fun i _=>nl-(intOf i).toNat)
      case atStart=>exact⟨0,L,Nat.zero_le _,rfl,hL,hL0,hLl,hbx⟩
      case round =>
       clear hL hL0 hLl hbx hzx d3;obtain⟨a,L,ha,rfl,hL,hL0,hLl,hbx⟩:=hrel;by_cases hat:a<nl
       ·have d3:(a:Int)<(nl:Int):=oz
        have hwa:IntKind.i64.wrap ((a:Int)+1)=(a:Int)+1:=IntWalk.i64_in _ oz;obtain⟨g,cap,hv,hc1,hc2,-⟩:=row_pos hL.out.row oz;rw[hLl]at hv;cases hv;have hgw:w8.heap.size<=g:=hvb g rfl;have hnc:nl<=lc:=oz
        obtain⟨wA,hwA⟩:∃ wA:World,wA=wr:=⟨_,rfl⟩
        subst hwA;go_wp2;go_loopw [82] (fun i wx=>∃ (k:Nat) (L:List LTri),k<=nl/\i=.int .i64 k/\Hid (LoopsAt wx (.slice (some ⟨g,0,none⟩) nl lc) L)/\Hid (L.map (fun t=>t.1)=parS ls a k)/\L.length=nl/\Below w8.heap.size w8 wx) (fun i _=>nl-(intOf i).toNat)
        case atStart=>exact⟨0,L,Nat.zero_le _,rfl,hL,hL0,hLl,hbx⟩
        case round =>
         clear hL hL0 hLl hbx d3;obtain⟨k,L,hk,rfl,hL,hL0,hLl,hbx⟩:=hrel;by_cases hkt:k<nl
         ·have d3:(k:Int)<(nl:Int):=oz
          have d4:(a:Int)<(nl:Int):=oz
          have hwk:IntKind.i64.wrap ((k:Int)+1)=(k:Int)+1:=IntWalk.i64_in _ oz;have hla:a<ls.length:=by rw[HHL.out];omega
          have hlk:k<ls.length:=by rw[HHL.out];omega
          obtain⟨ti,hti,e1,e2,e3,e4⟩:=parS_self ls a k hla;obtain⟨tk,htk,f1,f2,f3⟩:=parS_same ls a k hlk;have hti':=hti;rw[<-hL0.out,List.getElem?_map]at hti htk;obtain⟨Ti,hTi,hTi2⟩:=Option.map_eq_some_iff.1 hti;obtain⟨Tk,hTk,hTk2⟩:=Option.map_eq_some_iff.1 htk;have hL':LoopsAt wr (.slice (some ⟨g,0,none⟩) L.length lc) L:=by rw[hLl];exact hL.out
          have h64':∀ t∈L,(∀ x∈t.1.members,In64 x)/\∀ x∈t.1.backs,In64 x:=fun t ht=>by
           obtain⟨y,hy,y1,y2⟩:=parS_mem ls a k (x:=t.1) (by rw[<-hL0.out];exact List.mem_map.2 ⟨t,ht,rfl⟩);rw[y1,y2];exact H64.out y hy
          obtain⟨i0,i1,-,-⟩:=hL'.cells hTi;have hrdk:=hL'.rd h64' hTk;rw[hTi2]at i0 i1;rw[hTk2]at hrdk;rw[e1]at i0;rw[e4]at i1;have hgl2:g<wr.heap.size:=row_lt hL.out.row rfl;have HDp:Hid (∀ w',Below wr.heap.size wr w'->Calls Tryz.prog 54 #[.slice (some ⟨g,k*4,none⟩) 1 (lc-k),.int .i64 (ls.getD a default).head] w' fun e w2=>e=.returned (.int .i64 (if(ls.getD k default).members.contains ((ls.getD a default).head:Int)then 1 else 0))/\Below w'.heap.size w' w2) :=
           qd (fun w' hw=>by
            have h:=depth_any wr.heap.size g (k*4) (lc-k) 1 [tk] ((ls.getD a default).head:Int) w' hw.size ⟨rfl,dc,hgl2,fun i hi=>by
             obtain rfl:i=0:=oz
             exact hrdk.same (Same.of' hw) hgl2⟩
            rw[depth_one,f2]at h;exact h)
          obtain⟨ma,mc,ba,bc,c0,c1,c2,-,-,-⟩:=hrdk;rw[f2]at c2;have hmk:=HMM.out k hkt;have hkl:(k:Int)+1<=(lc:Int):=oz
          have hkl2:¬lc=k:=oz
          have hkl3:(0:Int)<=(k:Int)+1:=oz
          have HSS:Hid (∀ w',Below wr.heap.size wr w'->w'.cell? ⟨g,a*4,none⟩=some (.int .i64 (ls.getD a default).head)/\w'.cell? ⟨g,a*4+1,none⟩=some (.int .i64 (parTo ls a k))/\w'.cell? ⟨g,k*4+2,none⟩=some (.slice ma (ls.getD k default).members.length mc)):=qd (fun w' hw=>⟨(hw.cell (p:=⟨g,a*4,none⟩) hgl2).trans i0,(hw.cell (p:=⟨g,a*4+1,none⟩) hgl2).trans i1,(hw.cell (p:=⟨g,k*4+2,none⟩) hgl2).trans c2⟩);have hcf:∀ (args:Array Value) (w:World),(callFunc 54 args).run Tryz.prog w=.ok (.enter 54 args) w:=fun _ _=>rfl;have HDq:=qd (fun w' hw=>(HDp.out w' hw).mono (R':=fun e w2=>∃ v,e=.returned v/\v=.int .i64 (if(ls.getD k default).members.contains ((ls.getD a default).head:Int)then 1 else 0)/\Below w'.heap.size w' w2) (by rintro e w2 ⟨rfl,h⟩;exact⟨_,rfl,rfl,h⟩));have HRD:=qd (fun(q:Nat) (hq:q<nl)=>show ∃ mq cq,wr.cell? ⟨g,q*4+2,none⟩=some (.slice mq (ls.getD q default).members.length cq)from(by
           obtain⟨tq,htq,u1,u2,u3⟩:=parS_same ls a k (j:=q) (by rw[HHL.out];exact hq);rw[<-hL0.out,List.getElem?_map]at htq;obtain⟨Tq,hTq,hTq2⟩:=Option.map_eq_some_iff.1 htq;obtain⟨mq,cq,_,_,_,_,h2,_⟩:=hL'.rd h64' hTq;rw[hTq2,u2]at h2;exact⟨mq,cq,h2⟩))
          obtain⟨hda,eha⟩:∃ x:Nat,(ls.getD a default).head=x:=⟨_,rfl⟩
          obtain⟨lk,elk⟩:∃ x:Nat,(ls.getD k default).members.length=x:=⟨_,rfl⟩
          rw[eha,elk]at HSS;rw[eha]at HDq;rw[elk]at hmk;have HEH:=qd eha;have HEK:=qd elk;clear eha elk;have HBD:=qd (parTo_bnd ls a k);have HHI:=qd hti';have hlaH:=qd hla;clear HDp i0 i1 c0 c1 c2 e1 e2 e3 e4 f1 f2 f3 htk hti hti' hTk2 hTk hla hlk h64';by_cases hak:a=k
          ·have q1:((a:Int)!=(k:Int))=false:=by simp[hak]
           have HPS:=qd (parS_no ls a k (fun h=>h.1 hak));clear hak;go_upto_region 28 with(fail)
           generalize hA0:(Act.mk _ _:Act)=a0;have Ee:a0.eval (.tmp 10)=.slice (some ⟨g,0,none⟩) nl lc/\a0.eval (.tmp 16)=.int .i64 a/\a0.eval (.tmp 17)=.int .i64 k/\a0.tmps.size=137:=by rw[<-hA0];exact⟨rfl,rfl,rfl,rfl⟩
           refine region_held_plain (fun w'=>Below wr.heap.size wr w') kr ((Below.refl _ wr).drew) ?_;intro K0 hK0 hHeld
           try dsimp only at hHeld
           refine wtk 0 rfl ?_;try simp only[GE]
           refine wtk 1 rfl ?_;try simp only[GE]
           refine wtk 2 rfl ?_;try simp only[GE]
           refine wtk 3 rfl ?_;try simp only[GE]
           generalize hA1:(Act.put _ _ _:Act)=a1;replace Ee:a1.eval (.tmp 10)=.slice (some ⟨g,0,none⟩) nl lc/\a1.eval (.tmp 16)=.int .i64 a/\a1.eval (.tmp 17)=.int .i64 k/\a1.eval (.tmp 88)=.bool false/\a1.tmps.size=137:=ee1;refine wto 4 88 rfl ?_;try simp only[GE]
           refine wto 5 88 rfl ?_;try simp only[GE]
           refine wto 6 88 rfl ?_;try simp only[GE]
           refine wto 7 88 rfl ?_;try simp only[GE]
           refine wto 8 88 rfl ?_;try simp only[GE]
           refine wto 9 88 rfl ?_;try simp only[GE]
           refine wto 10 88 rfl ?_;try simp only[GE]
           refine wto 11 88 rfl ?_;try simp only[GE]
           refine wto 12 88 rfl ?_;try simp only[GE]
           refine wto 13 88 rfl ?_;try simp only[GE]
           refine wto 14 88 rfl ?_;try simp only[GE]
           refine wto 15 88 rfl ?_;try simp only[GE]
           generalize hA2:(Act.put _ _ _:Act)=a2;replace Ee:a2.eval (.tmp 10)=.slice (some ⟨g,0,none⟩) nl lc/\a2.eval (.tmp 16)=.int .i64 a/\a2.eval (.tmp 17)=.int .i64 k/\a2.eval (.tmp 88)=.bool false/\a2.tmps.size=137:=ee2;refine wtk 16 rfl ?_;try simp only[GE]
           refine wtk 17 rfl ?_;try simp only[GE]
           generalize hA3:(Act.put _ _ _:Act)=a3;replace Ee:a3.eval (.tmp 10)=.slice (some ⟨g,0,none⟩) nl lc/\a3.eval (.tmp 16)=.int .i64 a/\a3.eval (.tmp 17)=.int .i64 k/\a3.eval (.tmp 102)=.bool false/\a3.tmps.size=137:=ee3;refine wto 18 102 rfl ?_;try simp only[GE]
           refine wto 19 102 rfl ?_;try simp only[GE]
           refine wto 20 102 rfl ?_;try simp only[GE]
           refine wto 21 102 rfl ?_;try simp only[GE]
           refine wto 22 102 rfl ?_;try simp only[GE]
           refine wto 23 102 rfl ?_;try simp only[GE]
           refine wto 24 102 rfl ?_;try simp only[GE]
           generalize hA4:(Act.put _ _ _:Act)=a4;replace Ee:a4.eval (.tmp 10)=.slice (some ⟨g,0,none⟩) nl lc/\a4.eval (.tmp 16)=.int .i64 a/\a4.eval (.tmp 17)=.int .i64 k/\a4.eval (.tmp 102)=.bool false/\a4.eval (.tmp 109)=undef/\a4.tmps.size=137:=ee4;refine wtn 25 109 rfl ?_;try simp only[GE]
           refine wtn 26 109 rfl ?_;try simp only[GE]
           refine wtn 27 109 rfl ?_;try simp only[GE]
           refine wtn 28 109 rfl ?_;try simp only[GE]
           refine wtn 29 109 rfl ?_;try simp only[GE]
           refine wtn 30 109 rfl ?_;try simp only[GE]
           refine wtn 31 109 rfl ?_;try simp only[GE]
           refine wtn 32 109 rfl ?_;try simp only[GE]
           refine wtn 33 109 rfl ?_;try simp only[GE]
           refine wtn 34 109 rfl ?_;try simp only[GE]
           refine wtn 35 109 rfl ?_;try simp only[GE]
           refine wtn 36 109 rfl ?_;try simp only[GE]
           refine wtn 37 109 rfl ?_;try simp only[GE]
           refine wtn 38 109 rfl ?_;try simp only[GE]
           refine wtn 39 109 rfl ?_;try simp only[GE]
           refine wtn 40 109 rfl ?_;try simp only[GE]
           refine wtn 41 109 rfl ?_;try simp only[GE]
           generalize hA5:(Act.put _ _ _:Act)=a5;replace Ee:a5.eval (.tmp 10)=.slice (some ⟨g,0,none⟩) nl lc/\a5.eval (.tmp 16)=.int .i64 a/\a5.eval (.tmp 17)=.int .i64 k/\a5.eval (.tmp 102)=.bool false/\a5.tmps.size=137:=ee5;refine wto 42 102 rfl ?_;try simp only[GE]
           refine wtk 43 rfl ?_;try simp only[GE]
           refine anyH_done kr ?_;refine hK0.out _ _ ?_;subst hA5;subst hA4;subst hA3;subst hA2;subst hA1;subst hA0
           try clear Ee
           simp only[GE,Act.put,SU];go_wp2;have hft:Below wr.heap.size wr wr.drew:=(Below.refl _ _).drew;refine⟨⟨k+1,L,oz,si,qd (hL.out.below hft),qd (by rw[hL0.out,HPS.out]),hLl,hbx.trans (hft.mono hbx.size)⟩,?_⟩;go_light;exact ml
          ·have q1:((a:Int)!=(k:Int))=true:=by simp;omega
           have HAK:=qd hak;clear hak;by_cases hct:(ls.getD k default).members.contains (hda:Int)=true
           ·rw[if_pos hct]at HDq;have HCT:=qd hct;rcases HBD.out with hcur|⟨q,hq,hcur⟩
            ·have HYS:=qd (parS_yes ls a k hlaH.out ⟨HAK.out,by rw[HEH.out];exact HCT.out,.inl (by rw[hcur];decide)⟩ HHI.out);rw[hcur]at HSS;clear hcur hct;go_upto_region 28 with(fail)
             generalize hA0:(Act.mk _ _:Act)=a0;have Ee:a0.eval (.tmp 10)=.slice (some ⟨g,0,none⟩) nl lc/\a0.eval (.tmp 16)=.int .i64 a/\a0.eval (.tmp 17)=.int .i64 k/\a0.tmps.size=137:=by rw[<-hA0];exact⟨rfl,rfl,rfl,rfl⟩
             refine region_held_plain (fun w'=>Below wr.heap.size wr w') kr ((Below.refl _ wr).drew) ?_;intro K0 hK0 hHeld
             try dsimp only at hHeld
             refine wtk 0 rfl ?_;try simp only[GE]
             refine wtk 1 rfl ?_;try simp only[GE]
             refine wtk 2 rfl ?_;try simp only[GE]
             refine wtk 3 rfl ?_;try simp only[GE]
             generalize hA1:(Act.put _ _ _:Act)=a1;replace Ee:a1.eval (.tmp 10)=.slice (some ⟨g,0,none⟩) nl lc/\a1.eval (.tmp 16)=.int .i64 a/\a1.eval (.tmp 17)=.int .i64 k/\a1.eval (.tmp 88)=.bool true/\a1.tmps.size=137:=ee1;refine wtg 4 88 rfl ?_;try simp only[GE]
             refine wtg 5 88 rfl ?_;try simp only[GE]
             refine wtg 6 88 rfl ?_;try simp only[GE]
             refine wtg 7 88 rfl ?_;try simp only[GE]
             refine wtg 8 88 rfl ?_;try simp only[GE]
             refine wtg 9 88 rfl ?_;try simp only[GE]
             refine wtg 10 88 rfl ?_;try simp only[GE]
             refine wtg 11 88 rfl ?_;try simp only[GE]
             refine wtg 12 88 rfl ?_;try simp only[GE]
             refine wtg 13 88 rfl ?_;try simp only[GE]
             generalize hA2:(Act.put _ _ _:Act)=a2;replace Ee:a2.eval (.tmp 10)=.slice (some ⟨g,0,none⟩) nl lc/\a2.eval (.tmp 16)=.int .i64 a/\a2.eval (.tmp 17)=.int .i64 k/\a2.eval (.tmp 88)=.bool true/\a2.eval (.tmp 93)=.slice (some ⟨g,k*4,none⟩) 1 (lc-k)/\a2.eval (.tmp 98)=.int .i64 hda/\a2.tmps.size=137:=ee2;refine readyH1 14 ?_ kr ?_ ?_;rotate_left
             ·exact rfl
             intro K hK;refine step_callG (hw:=((wanted_is rfl rfl rfl (d:=88) (by simp only[GE,MX,EX,Ee,if_pos,if_neg,reduceIte,Nat.reduceEqDiff,Nat.reduceLT,Nat.reduceBEq];try rfl) (by simp only[GE,MX,EX,Ee];decide)).trans rfl)) 54 [.tmp 93,.tmp 98] #[43,3] rfl hcf [.slice (some ⟨g,k*4,none⟩) 1 (lc-k),.int .i64 hda] (by simp only[GE,MX,EX,Ee,reduceIte,Nat.reduceEqDiff,Nat.reduceLT,Nat.reduceBEq]) _ (HDq.out _ hHeld) ?_;rintro v wM ⟨rfl,hbM⟩;have hwM:Below wr.heap.size wr wM:=hHeld.trans (hbM.mono hHeld.size);have hzM:=hwM.size;refine hK.out _ _ (hwM) fun hHeld=>?_;clear hK K;try simp only[GE]
             generalize hA3:(Act.put _ _ _:Act)=a3;replace Ee:a3.eval (.tmp 10)=.slice (some ⟨g,0,none⟩) nl lc/\a3.eval (.tmp 16)=.int .i64 a/\a3.eval (.tmp 17)=.int .i64 k/\a3.eval (.tmp 88)=.bool true/\a3.eval (.tmp 99)=.int .i64 1/\a3.tmps.size=137:=ee3;refine wtg 15 88 rfl ?_;try simp only[GE]
             refine wtk 16 rfl ?_;try simp only[GE]
             refine wtk 17 rfl ?_;try simp only[GE]
             generalize hA4:(Act.put _ _ _:Act)=a4;replace Ee:a4.eval (.tmp 10)=.slice (some ⟨g,0,none⟩) nl lc/\a4.eval (.tmp 16)=.int .i64 a/\a4.eval (.tmp 17)=.int .i64 k/\a4.eval (.tmp 102)=.bool true/\a4.tmps.size=137:=ee4;refine wtg 18 102 rfl ?_;try simp only[GE]
             refine wtg 19 102 rfl ?_;try simp only[GE]
             refine wtg 20 102 rfl ?_;try simp only[GE]
             refine wtg 21 102 rfl ?_;try simp only[GE]
             refine wtg 22 102 rfl ?_;try simp only[GE]
             refine wtg 23 102 rfl ?_;try simp only[GE]
             refine wtg 24 102 rfl ?_;try simp only[GE]
             generalize hA5:(Act.put _ _ _:Act)=a5;replace Ee:a5.eval (.tmp 10)=.slice (some ⟨g,0,none⟩) nl lc/\a5.eval (.tmp 16)=.int .i64 a/\a5.eval (.tmp 17)=.int .i64 k/\a5.eval (.tmp 102)=.bool true/\a5.eval (.tmp 109)=.bool true/\a5.tmps.size=137:=ee5;refine wto 25 109 rfl ?_;try simp only[GE]
             refine wto 26 109 rfl ?_;try simp only[GE]
             refine wto 27 109 rfl ?_;try simp only[GE]
             refine wto 28 109 rfl ?_;try simp only[GE]
             refine wto 29 109 rfl ?_;try simp only[GE]
             refine wto 30 109 rfl ?_;try simp only[GE]
             refine wto 31 109 rfl ?_;try simp only[GE]
             refine wto 32 109 rfl ?_;try simp only[GE]
             refine wto 33 109 rfl ?_;try simp only[GE]
             refine wto 34 109 rfl ?_;try simp only[GE]
             refine wto 35 109 rfl ?_;try simp only[GE]
             refine wto 36 109 rfl ?_;try simp only[GE]
             refine wto 37 109 rfl ?_;try simp only[GE]
             refine wto 38 109 rfl ?_;try simp only[GE]
             refine wto 39 109 rfl ?_;try simp only[GE]
             refine wto 40 109 rfl ?_;try simp only[GE]
             refine wto 41 109 rfl ?_;try simp only[GE]
             generalize hA6:(Act.put _ _ _:Act)=a6;replace Ee:a6.eval (.tmp 10)=.slice (some ⟨g,0,none⟩) nl lc/\a6.eval (.tmp 16)=.int .i64 a/\a6.eval (.tmp 17)=.int .i64 k/\a6.eval (.tmp 102)=.bool true/\a6.eval (.tmp 109)=.bool true/\a6.tmps.size=137:=ee6;refine wtg 42 102 rfl ?_;try simp only[GE]
             refine wtk 43 rfl ?_;try simp only[GE]
             refine anyH_done kr ?_;refine hK0.out _ _ ?_;subst hA6;subst hA5;subst hA4;subst hA3;subst hA2;subst hA1;subst hA0
             try clear Ee
             simp only[GE,Act.put,SU];obtain⟨j0,j1,j2⟩:=HSS.out wM hwM;have hfz:wM.frozen? ⟨g,a*4+1,none⟩=false:=(hL'.below hwM).row.frozenAt _;go_wp2;refine⟨⟨k+1,L.set a (withPar Ti (k:Int)),oz,si,qd ?_,qd (by rw[map_par L a k Ti hTi,hTi2,hL0.out,HYS.out]),by rw[List.length_set];exact hLl,(hbx.trans (hwM.mono hbx.size)).setCell (p:=⟨g,a*4+1,none⟩) hgw _⟩,?_⟩
             ·have hL9:=(hL'.below hwM).par hTi (k:Int);rw[hLl]at hL9;exact hL9
             ·go_light;exact ml
            ·obtain⟨mq,cq,hmq⟩:=HRD.out q oz;have hqn:(q:Int)<(nl:Int):=oz
             have hq0:¬(q:Int)<0:=oz
             have hmql:=HMM.out q oz;obtain⟨lq,elq⟩:∃ x:Nat,(ls.getD q default).members.length=x:=⟨_,rfl⟩
             rw[elq]at hmq hmql;have HEQ:=qd elq;clear elq;have HSS2:Hid (∀ w',Below wr.heap.size wr w'->w'.cell? ⟨g,a*4,none⟩=some (.int .i64 hda)/\w'.cell? ⟨g,a*4+1,none⟩=some (.int .i64 q)/\w'.cell? ⟨g,k*4+2,none⟩=some (.slice ma lk mc)/\w'.cell? ⟨g,q*4+2,none⟩=some (.slice mq lq cq)):=qd (fun w' hw=>by
              obtain⟨h0,h1,h2⟩:=HSS.out w' hw;rw[hcur]at h1;exact⟨h0,h1,h2,(hw.cell (p:=⟨g,q*4+2,none⟩) hgl2).trans hmq⟩)
             have hcq:(parTo ls a k).toNat=q:=by rw[hcur];simp
             by_cases hlt:lk<lq
             ·have HYS:=qd (parS_yes ls a k hlaH.out ⟨HAK.out,by rw[HEH.out];exact HCT.out,.inr (by rw[hcq,HEK.out,HEQ.out];exact hlt)⟩ HHI.out);have hlt2:(lk:Int)<(lq:Int):=oz
              clear hcur hct hcq hmq hlt;go_upto_region 28 with(fail)
              generalize hA0:(Act.mk _ _:Act)=a0;have Ee:a0.eval (.tmp 10)=.slice (some ⟨g,0,none⟩) nl lc/\a0.eval (.tmp 16)=.int .i64 a/\a0.eval (.tmp 17)=.int .i64 k/\a0.tmps.size=137:=by rw[<-hA0];exact⟨rfl,rfl,rfl,rfl⟩
              refine region_held_plain (fun w'=>Below wr.heap.size wr w') kr ((Below.refl _ wr).drew) ?_;intro K0 hK0 hHeld
              try dsimp only at hHeld
              refine wtk2 0 rfl ?_;try simp only[GE]
              refine wtk2 1 rfl ?_;try simp only[GE]
              refine wtk2 2 rfl ?_;try simp only[GE]
              refine wtk2 3 rfl ?_;try simp only[GE]
              generalize hA1:(Act.put _ _ _:Act)=a1;replace Ee:a1.eval (.tmp 10)=.slice (some ⟨g,0,none⟩) nl lc/\a1.eval (.tmp 16)=.int .i64 a/\a1.eval (.tmp 17)=.int .i64 k/\a1.eval (.tmp 88)=.bool true/\a1.tmps.size=137:=ee1;refine wtg2 4 88 rfl ?_;try simp only[GE]
              refine wtg2 5 88 rfl ?_;try simp only[GE]
              refine wtg2 6 88 rfl ?_;try simp only[GE]
              refine wtg2 7 88 rfl ?_;try simp only[GE]
              refine wtg2 8 88 rfl ?_;try simp only[GE]
              refine wtg2 9 88 rfl ?_;try simp only[GE]
              refine wtg2 10 88 rfl ?_;try simp only[GE]
              refine wtg2 11 88 rfl ?_;try simp only[GE]
              refine wtg2 12 88 rfl ?_;try simp only[GE]
              refine wtg2 13 88 rfl ?_;try simp only[GE]
              generalize hA2:(Act.put _ _ _:Act)=a2;replace Ee:a2.eval (.tmp 10)=.slice (some ⟨g,0,none⟩) nl lc/\a2.eval (.tmp 16)=.int .i64 a/\a2.eval (.tmp 17)=.int .i64 k/\a2.eval (.tmp 88)=.bool true/\a2.eval (.tmp 93)=.slice (some ⟨g,k*4,none⟩) 1 (lc-k)/\a2.eval (.tmp 98)=.int .i64 hda/\a2.tmps.size=137:=ee2;refine readyH1 14 ?_ kr ?_ ?_;rotate_left
              ·exact rfl
              intro K hK;refine step_callG (hw:=((wanted_is rfl rfl rfl (d:=88) (by simp only[GE,MX,EX,Ee,if_pos,if_neg,reduceIte,Nat.reduceEqDiff,Nat.reduceLT,Nat.reduceBEq];try rfl) (by simp only[GE,MX,EX,Ee];decide)).trans rfl)) 54 [.tmp 93,.tmp 98] #[43,3] rfl hcf [.slice (some ⟨g,k*4,none⟩) 1 (lc-k),.int .i64 hda] (by simp only[GE,MX,EX,Ee,reduceIte,Nat.reduceEqDiff,Nat.reduceLT,Nat.reduceBEq]) _ (HDq.out _ hHeld) ?_;rintro v wM ⟨rfl,hbM⟩;have hwM:Below wr.heap.size wr wM:=hHeld.trans (hbM.mono hHeld.size);have hzM:=hwM.size;refine hK.out _ _ (hwM) fun hHeld=>?_;clear hK K;try simp only[GE]
              generalize hA3:(Act.put _ _ _:Act)=a3;replace Ee:a3.eval (.tmp 10)=.slice (some ⟨g,0,none⟩) nl lc/\a3.eval (.tmp 16)=.int .i64 a/\a3.eval (.tmp 17)=.int .i64 k/\a3.eval (.tmp 88)=.bool true/\a3.eval (.tmp 99)=.int .i64 1/\a3.tmps.size=137:=ee3;refine wtg2 15 88 rfl ?_;try simp only[GE]
              refine wtk2 16 rfl ?_;try simp only[GE]
              refine wtk2 17 rfl ?_;try simp only[GE]
              generalize hA4:(Act.put _ _ _:Act)=a4;replace Ee:a4.eval (.tmp 10)=.slice (some ⟨g,0,none⟩) nl lc/\a4.eval (.tmp 16)=.int .i64 a/\a4.eval (.tmp 17)=.int .i64 k/\a4.eval (.tmp 102)=.bool true/\a4.tmps.size=137:=ee4;refine wtg2 18 102 rfl ?_;try simp only[GE]
              refine wtg2 19 102 rfl ?_;try simp only[GE]
              refine wtg2 20 102 rfl ?_;try simp only[GE]
              refine wtg2 21 102 rfl ?_;try simp only[GE]
              refine wtg2 22 102 rfl ?_;try simp only[GE]
              refine wtg2 23 102 rfl ?_;try simp only[GE]
              refine wtg2 24 102 rfl ?_;try simp only[GE]
              generalize hA5:(Act.put _ _ _:Act)=a5;replace Ee:a5.eval (.tmp 10)=.slice (some ⟨g,0,none⟩) nl lc/\a5.eval (.tmp 16)=.int .i64 a/\a5.eval (.tmp 17)=.int .i64 k/\a5.eval (.tmp 102)=.bool true/\a5.eval (.tmp 109)=.bool false/\a5.tmps.size=137:=ee5;refine wtg2 25 109 rfl ?_;try simp only[GE]
              refine wtg2 26 109 rfl ?_;try simp only[GE]
              refine wtg2 27 109 rfl ?_;try simp only[GE]
              refine wtg2 28 109 rfl ?_;try simp only[GE]
              refine wtg2 29 109 rfl ?_;try simp only[GE]
              refine wtg2 30 109 rfl ?_;try simp only[GE]
              refine wtg2 31 109 rfl ?_;try simp only[GE]
              refine wtg2 32 109 rfl ?_;try simp only[GE]
              refine wtg2 33 109 rfl ?_;try simp only[GE]
              refine wtg2 34 109 rfl ?_;try simp only[GE]
              refine wtg2 35 109 rfl ?_;try simp only[GE]
              refine wtg2 36 109 rfl ?_;try simp only[GE]
              refine wtg2 37 109 rfl ?_;try simp only[GE]
              refine wtg2 38 109 rfl ?_;try simp only[GE]
              refine wtg2 39 109 rfl ?_;try simp only[GE]
              refine wtg2 40 109 rfl ?_;try simp only[GE]
              refine wtg2 41 109 rfl ?_;try simp only[GE]
              generalize hA6:(Act.put _ _ _:Act)=a6;replace Ee:a6.eval (.tmp 10)=.slice (some ⟨g,0,none⟩) nl lc/\a6.eval (.tmp 16)=.int .i64 a/\a6.eval (.tmp 17)=.int .i64 k/\a6.eval (.tmp 102)=.bool true/\a6.eval (.tmp 109)=.bool false/\a6.eval (.tmp 126)=.bool true/\a6.tmps.size=137:=ee6;refine wtg2 42 102 rfl ?_;try simp only[GE]
              refine wtk2 43 rfl ?_;try simp only[GE]
              refine anyH_done kr ?_;refine hK0.out _ _ ?_;subst hA6;subst hA5;subst hA4;subst hA3;subst hA2;subst hA1;subst hA0
              try clear Ee
              simp only[GE,Act.put,SU];obtain⟨j0,j1,j2⟩:=HSS.out wM hwM;have hfz:wM.frozen? ⟨g,a*4+1,none⟩=false:=(hL'.below hwM).row.frozenAt _;go_wp2;refine⟨⟨k+1,L.set a (withPar Ti (k:Int)),oz,si,qd ?_,qd (by rw[map_par L a k Ti hTi,hTi2,hL0.out,HYS.out]),by rw[List.length_set];exact hLl,(hbx.trans (hwM.mono hbx.size)).setCell (p:=⟨g,a*4+1,none⟩) hgw _⟩,?_⟩
              ·have hL9:=(hL'.below hwM).par hTi (k:Int);rw[hLl]at hL9;exact hL9
              ·go_light;exact ml
             ·have HPS:=qd (parS_no ls a k (fun h=>by have h3:=h.2.2;rw[hcq,hcur,HEK.out,HEQ.out]at h3;omega));have hlt2:¬(lk:Int)<(lq:Int):=oz
              clear hcur hct hcq hmq hlt;go_upto_region 28 with(fail)
              generalize hA0:(Act.mk _ _:Act)=a0;have Ee:a0.eval (.tmp 10)=.slice (some ⟨g,0,none⟩) nl lc/\a0.eval (.tmp 16)=.int .i64 a/\a0.eval (.tmp 17)=.int .i64 k/\a0.tmps.size=137:=by rw[<-hA0];exact⟨rfl,rfl,rfl,rfl⟩
              refine region_held_plain (fun w'=>Below wr.heap.size wr w') kr ((Below.refl _ wr).drew) ?_;intro K0 hK0 hHeld
              try dsimp only at hHeld
              refine wtk2 0 rfl ?_;try simp only[GE]
              refine wtk2 1 rfl ?_;try simp only[GE]
              refine wtk2 2 rfl ?_;try simp only[GE]
              refine wtk2 3 rfl ?_;try simp only[GE]
              generalize hA1:(Act.put _ _ _:Act)=a1;replace Ee:a1.eval (.tmp 10)=.slice (some ⟨g,0,none⟩) nl lc/\a1.eval (.tmp 16)=.int .i64 a/\a1.eval (.tmp 17)=.int .i64 k/\a1.eval (.tmp 88)=.bool true/\a1.tmps.size=137:=ee1;refine wtg2 4 88 rfl ?_;try simp only[GE]
              refine wtg2 5 88 rfl ?_;try simp only[GE]
              refine wtg2 6 88 rfl ?_;try simp only[GE]
              refine wtg2 7 88 rfl ?_;try simp only[GE]
              refine wtg2 8 88 rfl ?_;try simp only[GE]
              refine wtg2 9 88 rfl ?_;try simp only[GE]
              refine wtg2 10 88 rfl ?_;try simp only[GE]
              refine wtg2 11 88 rfl ?_;try simp only[GE]
              refine wtg2 12 88 rfl ?_;try simp only[GE]
              refine wtg2 13 88 rfl ?_;try simp only[GE]
              generalize hA2:(Act.put _ _ _:Act)=a2;replace Ee:a2.eval (.tmp 10)=.slice (some ⟨g,0,none⟩) nl lc/\a2.eval (.tmp 16)=.int .i64 a/\a2.eval (.tmp 17)=.int .i64 k/\a2.eval (.tmp 88)=.bool true/\a2.eval (.tmp 93)=.slice (some ⟨g,k*4,none⟩) 1 (lc-k)/\a2.eval (.tmp 98)=.int .i64 hda/\a2.tmps.size=137:=ee2;refine readyH1 14 ?_ kr ?_ ?_;rotate_left
              ·exact rfl
              intro K hK;refine step_callG (hw:=((wanted_is rfl rfl rfl (d:=88) (by simp only[GE,MX,EX,Ee,if_pos,if_neg,reduceIte,Nat.reduceEqDiff,Nat.reduceLT,Nat.reduceBEq];try rfl) (by simp only[GE,MX,EX,Ee];decide)).trans rfl)) 54 [.tmp 93,.tmp 98] #[43,3] rfl hcf [.slice (some ⟨g,k*4,none⟩) 1 (lc-k),.int .i64 hda] (by simp only[GE,MX,EX,Ee,reduceIte,Nat.reduceEqDiff,Nat.reduceLT,Nat.reduceBEq]) _ (HDq.out _ hHeld) ?_;rintro v wM ⟨rfl,hbM⟩;have hwM:Below wr.heap.size wr wM:=hHeld.trans (hbM.mono hHeld.size);have hzM:=hwM.size;refine hK.out _ _ (hwM) fun hHeld=>?_;clear hK K;try simp only[GE]
              generalize hA3:(Act.put _ _ _:Act)=a3;replace Ee:a3.eval (.tmp 10)=.slice (some ⟨g,0,none⟩) nl lc/\a3.eval (.tmp 16)=.int .i64 a/\a3.eval (.tmp 17)=.int .i64 k/\a3.eval (.tmp 88)=.bool true/\a3.eval (.tmp 99)=.int .i64 1/\a3.tmps.size=137:=ee3;refine wtg2 15 88 rfl ?_;try simp only[GE]
              refine wtk2 16 rfl ?_;try simp only[GE]
              refine wtk2 17 rfl ?_;try simp only[GE]
              generalize hA4:(Act.put _ _ _:Act)=a4;replace Ee:a4.eval (.tmp 10)=.slice (some ⟨g,0,none⟩) nl lc/\a4.eval (.tmp 16)=.int .i64 a/\a4.eval (.tmp 17)=.int .i64 k/\a4.eval (.tmp 102)=.bool true/\a4.tmps.size=137:=ee4;refine wtg2 18 102 rfl ?_;try simp only[GE]
              refine wtg2 19 102 rfl ?_;try simp only[GE]
              refine wtg2 20 102 rfl ?_;try simp only[GE]
              refine wtg2 21 102 rfl ?_;try simp only[GE]
              refine wtg2 22 102 rfl ?_;try simp only[GE]
              refine wtg2 23 102 rfl ?_;try simp only[GE]
              refine wtg2 24 102 rfl ?_;try simp only[GE]
              generalize hA5:(Act.put _ _ _:Act)=a5;replace Ee:a5.eval (.tmp 10)=.slice (some ⟨g,0,none⟩) nl lc/\a5.eval (.tmp 16)=.int .i64 a/\a5.eval (.tmp 17)=.int .i64 k/\a5.eval (.tmp 102)=.bool true/\a5.eval (.tmp 109)=.bool false/\a5.tmps.size=137:=ee5;refine wtg2 25 109 rfl ?_;try simp only[GE]
              refine wtg2 26 109 rfl ?_;try simp only[GE]
              refine wtg2 27 109 rfl ?_;try simp only[GE]
              refine wtg2 28 109 rfl ?_;try simp only[GE]
              refine wtg2 29 109 rfl ?_;try simp only[GE]
              refine wtg2 30 109 rfl ?_;try simp only[GE]
              refine wtg2 31 109 rfl ?_;try simp only[GE]
              refine wtg2 32 109 rfl ?_;try simp only[GE]
              refine wtg2 33 109 rfl ?_;try simp only[GE]
              refine wtg2 34 109 rfl ?_;try simp only[GE]
              refine wtg2 35 109 rfl ?_;try simp only[GE]
              refine wtg2 36 109 rfl ?_;try simp only[GE]
              refine wtg2 37 109 rfl ?_;try simp only[GE]
              refine wtg2 38 109 rfl ?_;try simp only[GE]
              refine wtg2 39 109 rfl ?_;try simp only[GE]
              refine wtg2 40 109 rfl ?_;try simp only[GE]
              refine wtg2 41 109 rfl ?_;try simp only[GE]
              generalize hA6:(Act.put _ _ _:Act)=a6;replace Ee:a6.eval (.tmp 10)=.slice (some ⟨g,0,none⟩) nl lc/\a6.eval (.tmp 16)=.int .i64 a/\a6.eval (.tmp 17)=.int .i64 k/\a6.eval (.tmp 102)=.bool true/\a6.eval (.tmp 109)=.bool false/\a6.eval (.tmp 126)=.bool false/\a6.tmps.size=137:=ee6;refine wtg2 42 102 rfl ?_;try simp only[GE]
              refine wtk2 43 rfl ?_;try simp only[GE]
              refine anyH_done kr ?_;refine hK0.out _ _ ?_;subst hA6;subst hA5;subst hA4;subst hA3;subst hA2;subst hA1;subst hA0
              try clear Ee
              simp only[GE,Act.put,SU];go_wp2;have hft:Below wr.heap.size wr wM:=hwM;refine⟨⟨k+1,L,oz,si,qd (hL.out.below hft),qd (by rw[hL0.out,HPS.out]),hLl,hbx.trans (hft.mono hbx.size)⟩,?_⟩;go_light;exact ml
           ·rw[if_neg hct]at HDq;have HPS:=qd (parS_no ls a k (fun h=>hct (by rw[<-HEH.out];exact h.2.1)));clear hct;go_upto_region 28 with(fail)
            generalize hA0:(Act.mk _ _:Act)=a0;have Ee:a0.eval (.tmp 10)=.slice (some ⟨g,0,none⟩) nl lc/\a0.eval (.tmp 16)=.int .i64 a/\a0.eval (.tmp 17)=.int .i64 k/\a0.tmps.size=137:=by rw[<-hA0];exact⟨rfl,rfl,rfl,rfl⟩
            refine region_held_plain (fun w'=>Below wr.heap.size wr w') kr ((Below.refl _ wr).drew) ?_;intro K0 hK0 hHeld
            try dsimp only at hHeld
            refine wtk 0 rfl ?_;try simp only[GE]
            refine wtk 1 rfl ?_;try simp only[GE]
            refine wtk 2 rfl ?_;try simp only[GE]
            refine wtk 3 rfl ?_;try simp only[GE]
            generalize hA1:(Act.put _ _ _:Act)=a1;replace Ee:a1.eval (.tmp 10)=.slice (some ⟨g,0,none⟩) nl lc/\a1.eval (.tmp 16)=.int .i64 a/\a1.eval (.tmp 17)=.int .i64 k/\a1.eval (.tmp 88)=.bool true/\a1.tmps.size=137:=ee1;refine wtg 4 88 rfl ?_;try simp only[GE]
            refine wtg 5 88 rfl ?_;try simp only[GE]
            refine wtg 6 88 rfl ?_;try simp only[GE]
            refine wtg 7 88 rfl ?_;try simp only[GE]
            refine wtg 8 88 rfl ?_;try simp only[GE]
            refine wtg 9 88 rfl ?_;try simp only[GE]
            refine wtg 10 88 rfl ?_;try simp only[GE]
            refine wtg 11 88 rfl ?_;try simp only[GE]
            refine wtg 12 88 rfl ?_;try simp only[GE]
            refine wtg 13 88 rfl ?_;try simp only[GE]
            generalize hA2:(Act.put _ _ _:Act)=a2;replace Ee:a2.eval (.tmp 10)=.slice (some ⟨g,0,none⟩) nl lc/\a2.eval (.tmp 16)=.int .i64 a/\a2.eval (.tmp 17)=.int .i64 k/\a2.eval (.tmp 88)=.bool true/\a2.eval (.tmp 93)=.slice (some ⟨g,k*4,none⟩) 1 (lc-k)/\a2.eval (.tmp 98)=.int .i64 hda/\a2.tmps.size=137:=ee2;refine readyH1 14 ?_ kr ?_ ?_;rotate_left
            ·exact rfl
            intro K hK;refine step_callG (hw:=((wanted_is rfl rfl rfl (d:=88) (by simp only[GE,MX,EX,Ee,if_pos,if_neg,reduceIte,Nat.reduceEqDiff,Nat.reduceLT,Nat.reduceBEq];try rfl) (by simp only[GE,MX,EX,Ee];decide)).trans rfl)) 54 [.tmp 93,.tmp 98] #[43,3] rfl hcf [.slice (some ⟨g,k*4,none⟩) 1 (lc-k),.int .i64 hda] (by simp only[GE,MX,EX,Ee,reduceIte,Nat.reduceEqDiff,Nat.reduceLT,Nat.reduceBEq]) _ (HDq.out _ hHeld) ?_;rintro v wM ⟨rfl,hbM⟩;have hwM:Below wr.heap.size wr wM:=hHeld.trans (hbM.mono hHeld.size);have hzM:=hwM.size;refine hK.out _ _ (hwM) fun hHeld=>?_;clear hK K;try simp only[GE]
            generalize hA3:(Act.put _ _ _:Act)=a3;replace Ee:a3.eval (.tmp 10)=.slice (some ⟨g,0,none⟩) nl lc/\a3.eval (.tmp 16)=.int .i64 a/\a3.eval (.tmp 17)=.int .i64 k/\a3.eval (.tmp 88)=.bool true/\a3.eval (.tmp 99)=.int .i64 0/\a3.tmps.size=137:=ee3;refine wtg 15 88 rfl ?_;try simp only[GE]
            refine wtk 16 rfl ?_;try simp only[GE]
            refine wtk 17 rfl ?_;try simp only[GE]
            generalize hA4:(Act.put _ _ _:Act)=a4;replace Ee:a4.eval (.tmp 10)=.slice (some ⟨g,0,none⟩) nl lc/\a4.eval (.tmp 16)=.int .i64 a/\a4.eval (.tmp 17)=.int .i64 k/\a4.eval (.tmp 102)=.bool false/\a4.tmps.size=137:=ee4;refine wto 18 102 rfl ?_;try simp only[GE]
            refine wto 19 102 rfl ?_;try simp only[GE]
            refine wto 20 102 rfl ?_;try simp only[GE]
            refine wto 21 102 rfl ?_;try simp only[GE]
            refine wto 22 102 rfl ?_;try simp only[GE]
            refine wto 23 102 rfl ?_;try simp only[GE]
            refine wto 24 102 rfl ?_;try simp only[GE]
            generalize hA5:(Act.put _ _ _:Act)=a5;replace Ee:a5.eval (.tmp 10)=.slice (some ⟨g,0,none⟩) nl lc/\a5.eval (.tmp 16)=.int .i64 a/\a5.eval (.tmp 17)=.int .i64 k/\a5.eval (.tmp 102)=.bool false/\a5.eval (.tmp 109)=undef/\a5.tmps.size=137:=ee5;refine wtn 25 109 rfl ?_;try simp only[GE]
            refine wtn 26 109 rfl ?_;try simp only[GE]
            refine wtn 27 109 rfl ?_;try simp only[GE]
            refine wtn 28 109 rfl ?_;try simp only[GE]
            refine wtn 29 109 rfl ?_;try simp only[GE]
            refine wtn 30 109 rfl ?_;try simp only[GE]
            refine wtn 31 109 rfl ?_;try simp only[GE]
            refine wtn 32 109 rfl ?_;try simp only[GE]
            refine wtn 33 109 rfl ?_;try simp only[GE]
            refine wtn 34 109 rfl ?_;try simp only[GE]
            refine wtn 35 109 rfl ?_;try simp only[GE]
            refine wtn 36 109 rfl ?_;try simp only[GE]
            refine wtn 37 109 rfl ?_;try simp only[GE]
            refine wtn 38 109 rfl ?_;try simp only[GE]
            refine wtn 39 109 rfl ?_;try simp only[GE]
            refine wtn 40 109 rfl ?_;try simp only[GE]
            refine wtn 41 109 rfl ?_;try simp only[GE]
            generalize hA6:(Act.put _ _ _:Act)=a6;replace Ee:a6.eval (.tmp 10)=.slice (some ⟨g,0,none⟩) nl lc/\a6.eval (.tmp 16)=.int .i64 a/\a6.eval (.tmp 17)=.int .i64 k/\a6.eval (.tmp 102)=.bool false/\a6.tmps.size=137:=ee6;refine wto 42 102 rfl ?_;try simp only[GE]
            refine wtk 43 rfl ?_;try simp only[GE]
            refine anyH_done kr ?_;refine hK0.out _ _ ?_;subst hA6;subst hA5;subst hA4;subst hA3;subst hA2;subst hA1;subst hA0
            try clear Ee
            simp only[GE,Act.put,SU];go_wp2;have hft:Below wr.heap.size wr wM:=hwM;refine⟨⟨k+1,L,oz,si,qd (hL.out.below hft),qd (by rw[hL0.out,HPS.out]),hLl,hbx.trans (hft.mono hbx.size)⟩,?_⟩;go_light;exact ml
         ·have hkk:nl=k:=oz
          subst hkk;have d3:¬(nl:Int)<(nl:Int):=oz
          have hL1:Hid (L.map (fun t=>t.1)=parS ls (a+1) 0):=qd (by rw[hL0.out,<-HHL.out];exact parS_next ls HPAR.out a);go_wp2
          go_roundw
          case rel=>exact⟨a+1,L,oz,si,hL,hL1,hLl,hbx⟩
          case measure=>go_light;exact ml
       ·have haa:nl=a:=oz
        subst haa;have d3:¬(nl:Int)<(nl:Int):=oz
        go_wp2;refine bodyPost_ret (v:=.tuple #[.slice la nl lc,.int .i64 0,.int .i64 0]) (by simp[results,Tryz.results17,go_sem]) rfl ?_;refine⟨_,L,by rw[HFIN.out],hbw8.trans (hbx.mono hbw8.size),hL.out,?_⟩;rw[hL0.out,HFIN.out,<-HHL.out];exact parS_end ls
   ·have hi0:0<=i:=by
     unfold rowM at hMi;split at hMi
     ·assumption
     ·cases hMi
    obtain⟨a,rfl⟩:=Int.eq_ofNat_of_zero_le hi0;have hMi2:=hMi;rw[rowM_nat]at hMi;have ha:a<1024:=by
     refine Classical.byContradiction fun h=>?_;rw[HG2.out.big 2 a (by decide) h]at hMi;cases hMi
    have hlc:=leftC_step ha hli;have hlt:=hR.out.lt;have hb26:Below W2.heap.size W2 W6:=hbr.trans (hc2.below _ hbr.size (fun k hk e=>by omega));obtain⟨W7,hrun7,hM7,hc7⟩:=(OM.out.chg hc2 oz).set Tryz.mapU (by unfold maxLen;omega) hi (.agg #[]);rw[setM_add,headB_add (by rw[hMi2];rfl)]at hM7;have hz7:=hc7.size;have HM7:=qd hM7;have HR7:=qd (hR2.keep (hc7.block _ hR2.owns.lt oz) (hc7.block _ hR2.lt.1 oz));clear hM7 OM hR hR2 hMi2;go_wp2
    go_roundg c2
    case measure=>exact hlt2
    case rel=>exact⟨_,q+1,HR7,oz,qd (fun i h=>hsm.out i (by simp at h;exact h.1)),hb26.trans (hc7.below _ hb26.size (fun k hk e=>by omega)),oz,HM7⟩
end Go.Proofs.YteebpnbdihcfmaaGreatDoor
