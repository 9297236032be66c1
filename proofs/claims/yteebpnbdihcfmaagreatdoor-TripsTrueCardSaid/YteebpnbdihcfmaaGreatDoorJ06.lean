/- Package flow; A range over a function whose rounds all go on; Package flow; Package flow; Package dom; What dom; The memory that dom -/
import Derived.Test.YteebpnbdihcfmaaGreatDoorJ05
import Derived.Deep.LoopGhost
import Derived.WalkMore
import Derived.Test.YteebpnbdihcfmaaGreatDoorJ02
import Derived.RangeFuncNested
import Derived.RangeFuncBound
import Derived.RangeFuncCalls
import Derived.RangeFuncLeaves
import Derived.OwnWalkIn
import Derived.TacticsInMore
import Derived.LoopNIn
import Derived.LoopIn
import Derived.Test.YteebpnbdihcfmaaGreatDoorJ01
set_option linter.unusedVariables false
set_option linter.unusedSimpArgs false
set_option maxRecDepth 100000
set_option maxHeartbeats 20000000
namespace Go.Proofs.YteebpnbdihcfmaaGreatDoor
open Go.RowKit
theorem Tryz.infoB:(Tryz.prog.info? 4).map (fun i=>(i.zero,i.size,i.bytes))=some (some (.bool false),1,1):=kr
theorem Bools_some {l:List Bool}{i:Nat}{v:Bool}(h:l[i]? = some v):(Bools l)[i]? = some (.bool v):=by simp[Bools,h]
theorem Bools_set (l:List Bool) (i:Nat) (b:Bool):(Bools l).set i (.bool b)=Bools (l.set i b):=by simp[Bools]
theorem madeBools (n:Nat):madeCells #[.bool false] n=(Bools (List.replicate n false)).toArray:=by
 apply Array.ext
 ·simp[madeCells,Bools]
 ·intro i h1 h2;simp[madeCells,Bools,Nat.mod_one]
theorem nil_or_snoc {α:Type}(l:List α):l=[]\/∃ t x,l=t++[x]:=by
 rcases List.eq_nil_or_concat l with h|⟨t,x,h⟩
 ·exact .inl h
 ·exact .inr ⟨t,x,by rw[h,List.concat_eq_append]⟩
/-- a list of flags in memory of its own -/
def FreshB (w:World) (l:List Bool) (e:Ending) (w':World):Prop:=∃ v,e=.returned v/\Below w.heap.size w w'/\w'.ownsRow 0 4 1 v l.length (Bools l)/\(∀ k,v.ownBlock=some k->w.heap.size<=k)
theorem reach_any (B:Nat) (hh:HF) (f:PFunc) (w:World) (hB:B<=w.heap.size) (hf:FuncOk B w hh f) (hn0:0<f.code.length) (hn:f.code.length<=1024):Calls Tryz.prog 57 #[FuncVal hh f] w (FreshB w (reachP f)):=by
 obtain⟨j0,gi,gz0,gz1,gz2⟩:=info_parts Tryz.infoB;have hmk:=run_make_row' (P:=Tryz.prog) 89 4 (.bool false) 1 Tryz.underlying89 Tryz.infoB rfl .i64 .i64 f.code.length oz oz;rw[madeBools]at hmk;have HF:=qd hf;obtain⟨pa,pl,pc,ca,cl,cc⟩:=hh;obtain⟨h1,h2,⟨hcl,hcm,hcx⟩,h4,h5⟩:=hf;dsimp only at *;subst hcl;clear h2 hcm hcx h1 h4 h5;have i1:¬(f.code.length:Int)=0:=oz
 have i2:¬(1024:Int)<(f.code.length:Int):=oz
 have i3:((f.code.length:Int)==0)=false:=by rw[beq_eq_false_iff_ne];omega
 have i4:decide ((1024:Int)<(f.code.length:Int))=false:=by rw[decide_eq_false_iff_not];omega
 have hNX:=qd (fun(a:Nat) w hB hf hat=>next_any B ⟨pa,pl,pc,ca,f.code.length,cc⟩ f a w hB hf hat);unfold FuncVal at *;dsimp only at *;have hS:=qd (RInv.start f hn0);have hR:∀ can,RInv f can []->can=reachP f:=fun can h=>h.done;have HRR:=qd hR;clear hR;generalize reachP f=RP at *;have hnl:(List.replicate f.code.length false).length=f.code.length:=si
 generalize List.replicate f.code.length false=F0 at *;go_enter Tryz.func57,Tryz.ntmps57;go_wp2;go_step3;go_wp2;go_step3;go_wp2;generalize hW0:World.alloc _ _=W0;have hb0:Below w.heap.size w W0:=by rw[<-hW0];exact bel
 have OB:Own W0 w.heap.size [.string f.name,.slice pa pl pc,.int .i64 f.regs,.int .i64 f.words,.slice ca f.code.length cc]:=by rw[<-hW0];exact((Own.new _ _ _).alloc _).alloc _
 have OC:W0.ownsRow 0 4 1 (.slice (some ⟨w.heap.size+1,0,none⟩) f.code.length f.code.length) f.code.length (Bools F0):=by
  rw[<-hW0];have:=(World.ownsRow_lit (w.alloc (.cells #[.string f.name,.slice pa pl pc,.int .i64 f.regs,.int .i64 f.words,.slice ca f.code.length cc] 42)) (base:=0) (e:=4) (size:=1) (Bools F0).toArray f.code.length (Nat.zero_le _) (by unfold maxLen;omega) (by simp[Bools,hnl])).alloc (.cells #[.int .i64 0] 3);simpa using this
 have OT:W0.ownsRow 0 3 1 (.slice (some ⟨w.heap.size+1+1,0,none⟩) 1 1) 1 (Nums [0]):=by
  rw[<-hW0];have:=World.ownsRow_lit ((w.alloc (.cells #[.string f.name,.slice pa pl pc,.int .i64 f.regs,.int .i64 f.words,.slice ca f.code.length cc] 42)).alloc (.cells (Bools F0).toArray 4)) (base:=0) (e:=3) (size:=1) (Nums [0]).toArray 1 (Nat.zero_le _) (by unfold maxLen;omega) (by simp[Nums]);simpa[Nums]using this
 clear hW0 hmk gz0 gz1 gz2 gi
 go_loopg [4] (rLeft F0 [0]) (fun k v wr=>∃ (can:List Bool) (todo:List Int),k=rLeft can todo/\Hid (RInv f can todo)/\k<=4000/\Below w.heap.size w wr/\Hid (Own wr w.heap.size [.string f.name,.slice pa pl pc,.int .i64 f.regs,.int .i64 f.words,.slice ca f.code.length cc])/\Hid (wr.ownsRow 0 4 1 (.slice (some ⟨w.heap.size+1,0,none⟩) f.code.length f.code.length) f.code.length (Bools can))/\(∀ j,v.ownBlock=some j->w.heap.size+2<=j)/\Hid (wr.ownsRow 0 3 1 v todo.length (Nums todo)))
 case atStart=>exact⟨F0,[0],rfl,hS,by have:F0.count false<=F0.length:=List.count_le_length;unfold rLeft;simp;omega,hb0,qd OB,qd OC,by simp[Value.ownBlock],qd OT⟩
 case round =>
  clear hb0 OB OC OT hnl;obtain⟨can,todo,rfl,hI,hk,hbr,hb,hc,hvb,ht⟩:=hrel;have b5:=own5 hb.out;rcases nil_or_snoc todo with rfl|⟨t,x,rfl⟩
  ·obtain⟨va,vc,rfl⟩:∃ va vc,u4=.slice va 0 vc:=by
    rcases row_form ht.out with⟨rfl,_,_⟩|⟨g,c,rfl,_,_,_⟩
    ·exact⟨_,_,rfl⟩
    ·exact⟨_,_,rfl⟩
   go_wp2
   try rw[Exit.noGoto_ret]
   go_ret;go_light;have e:=HRR.out can hI.out;have hl:RP.length=f.code.length:=by rw[<-e];exact hI.out.len
   exact⟨_,rfl,bel,by rw[hl,<-e];exact hc.out,(fun k hk=>by
    have:w.heap.size+1=k:=by simpa[Value.ownBlock]using hk
    omega)⟩
  ·have hx:=hI.out.tr x si;obtain⟨a,rfl,ha,-⟩:=hx;have hlt:t.length+1<=4000:=by
    have:=rLeft_len can (t++[(a:Int)]);simp only[List.length_append,List.length_cons,List.length_nil]at this;omega
   have hln:(t++[(a:Int)]).length=t.length+1:=si
   have ht2:=ht.out;rw[hln]at ht2;obtain⟨g,c,rfl,hgc,hgm,hgl⟩:=row_pos ht2 oz;have hgm':c<=9223372036854775807:=hgm;have t0:=row_cell ht2 (j:=t.length) (u:=.int .i64 a) (Nums_some si);have hpop:=row_take ht2 t.length oz;rw[Nat.mul_one,show(Nums (t++[(a:Int)])).take t.length=Nums t by rw[Nums_append,<-Nums_len t,List.take_left]]at hpop;have hcl:can.length=f.code.length:=hI.out.len;have hab:w.heap.size+2<=g:=hvb g rfl;have c0:=row_cell hc.out (j:=a) (u:=.bool (can[a]'(oz))) (Bools_some (by rw[List.getElem?_eq_getElem]));have hgf:=hc.out.frozenAt a;have hca:can[a]? = some (can[a]'(oz)):=List.getElem?_eq_getElem oz;have hw1:IntKind.i64.wrap ((t.length:Int)+1-1)=(t.length:Int):=by rw[IntWalk.i64_in _ (by omega)];omega
   have j1:(0:Int)<(t.length:Int)+1:=oz
   have hvb':∀ j,(Value.slice (some ⟨g,0,none⟩) t.length c).ownBlock=some j->w.heap.size+2<=j:=fun j hj=>hvb j hj;have HP:=qd hpop;clear hpop ht2;have HCA:=qd hca;clear hca;generalize can[a]'(oz)=m at *;cases m
   ·go_wp2_with fail;have hst:Chg (· = w.heap.size+1) wr (wr.setCell ⟨w.heap.size+1,a,none⟩ (.bool true)):=Chg.setCell (S:=(· = w.heap.size+1)) (Chg.refl _ _) (p:=⟨w.heap.size+1,a,none⟩) (Or.inl rfl) _;have P2:=row_chg hst HP.out (by intro k hk e;have h7:g=k:=ob1 hk;omega);have C2:=row_set hc.out a (.bool true);rw[Bools_set]at C2;have B2:=hst.own hb.out oz;have hb2:Below w.heap.size w (wr.setCell ⟨w.heap.size+1,a,none⟩ (.bool true)):=bel;have hI2:=qd (hI.out.mark ha);have hM:=qd (rLeft_mark (f:=f) (t:=t) HCA.out);have hL2:=nextP_len f a;generalize wr.setCell ⟨w.heap.size+1,a,none⟩ (.bool true)=W1 at *;clear hbr hb hc ht HP t0 c0 hgf b5 hst hgl;have hz2:=hb2.size;refine(hNX.out a W1 oz (HF.out.same (Same.of hb2 hB)) ha).mono ?_;rintro e w5 ⟨nv,rfl,hb5,hr5,hf5,hn5⟩;have hk3:rLeft (can.set a true) (t++nextP f a)<=4000:=by have:=hM.out;omega
    have HK3:=qd hk3;clear hk3;have hcl2:=row_ltB C2;have P3:=row_below hb5 P2;have C3:=row_below hb5 C2;have B3:=B2.below hb5;have hb3:Below w.heap.size w w5:=bel;clear P2 C2 B2;generalize nextP f a=nl at *;by_cases hne:nl=[]
    ·subst hne;obtain rfl:=hn5 rfl;go_wp2_with (first|(at_builtin;refine wpList_app0 rfl (.tmp 42) (.tmp 45) 50 3 1 8 (.int .i64 0) rfl Tryz.underlying50 Tryz.infoI _ _ _ rfl P3 rfl ?_)|fail)
     go_roundg (rLeft (can.set a true) (t++[]))
     case measure=>exact hM.out
     case rel=>exact⟨_,_,rfl,hI2,HK3.out,hb3,qd B3,qd C3,hvb',qd (by simpa using P3)⟩
    ·have hnl:0<nl.length:=List.length_pos_iff.2 hne;obtain⟨g5,c5,rfl,-,-,hg5⟩:=row_pos hr5 hnl;clear hn5;go_wp2_with (first|(at_builtin;refine wpList_app rfl (.tmp 42) (.tmp 45) 50 3 1 8 (.int .i64 0) rfl Tryz.underlying50 Tryz.infoI rfl dc _ _ _ rfl P3 ⟨g5,0,none⟩ nl.length c5 (Nums nl) rfl (by simp[Nums]) (hr5.cells rfl) (Nums_one _) (by unfold maxLen;omega) oz hnl ?_;intro g6 c6 w6 hr6 hc6 hg6)|fail)
     go_roundg (rLeft (can.set a true) (t++nl))
     case measure=>exact hM.out
     case rel =>
      have e6:∀ k,(Value.slice (some ⟨g,0,none⟩) t.length c).ownBlock=some k->k=g:=fun k hk=>by simpa[Value.ownBlock,eq_comm]using hk
      refine⟨_,_,rfl,hI2,HK3.out,hb3.trans (hc6.below _ hb3.size (fun k hk e=>by have:=e6 k e;omega)),qd (hc6.own B3 (fun e=>by have:=e6 _ e;omega)),qd (row_chg hc6 C3 (by intro k hk e;have h6:=e6 _ e;have h7:w.heap.size+1=k:=ob1 hk;omega)),?_,qd (by rw[List.length_append,Nums_append];exact hr6)⟩;intro k hk;have hk':g6=k:=by simpa[Value.ownBlock]using hk
      subst hk';rcases hg6 with h|h
      ·have:=e6 _ h;omega
      ·have:=hb5.size;omega
   ·go_wp2_with fail
    go_roundg (rLeft can t)
    case measure=>exact rLeft_drop
    case rel=>exact⟨can,t,rfl,qd (hI.out.drop HCA.out),by have:=@rLeft_drop can t a;omega,hbr,hb,hc,hvb',HP⟩
/-- the walk's own book-keeping: blocks from b on that hold a loop's record or deferred calls are turned -/
structure Turn (b:Nat) (W W':World):Prop where
 os:W'.os=W.os
 tape:W'.tape=W.tape
 output:W'.output=W.output
 size:W'.heap.size=W.heap.size
 block:∀ k,(k<b\/∀ o,W.heap[k]? = some o->o.isCells=true)->W'.heap[k]? = W.heap[k]?
theorem Turn.below {b:Nat}{W W':World}(h:Turn b W W'):Below b W W':=⟨h.os,h.tape,h.output,Nat.le_of_eq h.size.symm,fun k hk=>h.block k (.inl hk)⟩
theorem Turn.cellsAt {b:Nat}{W W':World}(h:Turn b W W') {k:Nat}{c:Array Value}{t:TypeId}{p:Nat×Nat}(hk:W.heap[k]? = some (.cells c t p)):W'.heap[k]? = W.heap[k]? :=
 h.block k (.inr fun o ho=>by rw[hk]at ho;cases ho;rfl)
theorem Turn.put {b:Nat}(W:World) (l:Nat) (o o':Obj) (hl:b<=l) (h:W.heap[l]? = some o) (hc:o.isCells=false):Turn b W (W.putObj l o'):=by
 have hg:=grownBy_putObj' W l o';have hs:(W.putObj l o').heap.size=W.heap.size:=by simp[World.putObj]
 refine⟨hg.os,hg.tape,hg.output,hs,fun k hk=>?_⟩;by_cases e:k=l
 ·subst e;rcases hk with hk|hk
  ·omega
  ·have:=hk _ h;rw[hc]at this;cases this
 ·exact World.putObj_heap_other oz
/-- how a round's body is left -/
def roundT (P:World->Prop):Exit->Act->World->Prop
 | .normal,_,W=>P W
 | _,_,_=>False
theorem range_law {α:Type}{n:Nat}{P:Program}{g:Operand}{ps:Array Tmp}{assign body:Code}{Q:Exit->Act->World->Prop}{a:Act}{w:World}
 (gf:Nat) (lb:Array Value) (hg:a.eval g=.func (.func gf) #[] lb) (eg:∀ args w,(callFunc gf args).run P w=.ok (.enter gf args) w)
 (encs:α->Array Value) (hps:∀ x,(encs x).size=ps.size)
 (I:List α->World->Prop) (hIB:∀ pre W W',I pre W->Below W.heap.size W W'->I pre W') (hIT:∀ pre W W',I pre W->Turn w.heap.size W W'->I pre W') (h0:I [] w)
 (S:List α->Prop) (Ok:List α->α->Prop) (Kp:List α->α->World->World->Prop)
 (hKp:∀ pre x W Wb W3 W',I pre W->Turn w.heap.size W Wb->Kp pre x Wb W3->Turn w.heap.size W3 W'->(∀ k,w.heap.size<=k->k<w.heap.size+2->W'.heap[k]? = W.heap[k]?)->(∀ k,k≠w.heap.size+1->Wb.heap[k]? = W.heap[k]? /\ W'.heap[k]? = W3.heap[k]?)->Kp pre x W W')
 (hseq:∀ (l:Nat) (W:World) (J:List α->World->Prop),(∀ pre W,J pre W->I pre W)->(∀ pre W W',J pre W->Below W.heap.size W W'->J pre W')->Below w.heap.size w W ->
   (∀ pre x W1,J pre W1->Ok pre x->YieldAt Fence.wide (n-1-1) P l (encs x) W1 fun e W'=>e=.returned (.bool true)/\J (pre++[x]) W'/\Kp pre x W1 W') ->
   J [] W->CallsIn Fence.wide (n-1) P gf (#[.func (.yield l) #[] #[]]++lb) W fun e W'=>(∃ v,e=.returned v)/\∃ xs,S xs/\J xs W')
 (a₁:α->Act)
 (hassign:∀ (l:Nat) (x:α) (W:World) (K:Act->World->Prop),K (a₁ x) W ->
   assign.wpIn (Fence.wide.inRound l) (n-1-1) P (Exit.then K (fun _ _ _=>False)) { tmps:=(ps.zip (encs x)).foldl (fun t (p,v)=>t.setIfInBounds p v) a.tmps,defers:=[] } W)
 (hbody:∀ (l:Nat) (pre:List α) (x:α) (W:World),I pre W->Ok pre x->w.heap.size+1<W.heap.size ->
   body.wpIn (Fence.wide.inRound l) (n-1-1) P (roundT fun W'=>(∀ k,w.heap.size<=k->k<w.heap.size+2->W'.heap[k]? = W.heap[k]?)/\Kp pre x W W'/\I (pre++[x]) W') (a₁ x) W)
 (hdone:∀ (xs:List α) (W:World),S xs->I xs W->W.heap[w.heap.size]? = some (.deferred (some []))->Q .normal { a with defers:={ target:=.collected w.heap.size,args:=#[] }::a.defers } W) :
 (Code.rangeFunc g ps assign body).wpIn Fence.wide n P Q a w:=by
 refine wpIn_rangeFunc fun fn hfn=>?_;obtain⟨rc,hrc⟩:∃ rc:LoopState->Option Code->Loop,rc=fun st pe=>{ state:=st,pending:=pe,fn,tmps:=a.tmps,params:=ps,assign,body,defers:=w.heap.size }:=⟨_,rfl⟩
 obtain⟨W1,hW1⟩:∃ W1,(w.alloc (.deferred (some []))).alloc (.loop (rc .ready none))=W1:=⟨_,rfl⟩
 have hbel:Below w.heap.size w W1:=by rw[<-hW1];exact bal.alloc si _
 have hL1:W1.heap[w.heap.size+1]? = some (.loop (rc .ready none)):=by
  rw[<-hW1];have:=World.alloc_heap_new (w.alloc (.deferred (some []))) (.loop (rc .ready none));rwa [World.size_alloc]at this
 have hD1:W1.heap[w.heap.size]? = some (.deferred (some [])):=by
  rw[<-hW1];exact(Below.heap_alloc _ _ _ si).trans (World.alloc_heap_new w _)
 refine⟨w.heap.size+1,[{ target:=.collected w.heap.size,args:=#[] }],W1,{ target:=.fn (.func gf) lb,args:=#[.func (.yield (w.heap.size+1)) #[] #[]] },W1,gf,
  #[.func (.yield (w.heap.size+1)) #[] #[]]++lb,W1,?_,?_,?_,?_,(fun h=>(by cases h)),?_⟩
 ·rw[<-hW1,hrc];exact run_enterLoop_outer _ _ _ _ _
 ·simp only[resolve,hg];simp[go_sem]
 ·intro f' _;trivial
 ·simp[invoke,go_sem,eg]
 ·have hlt:∀ {W:World}{k:Nat}{o:Obj},W.heap[k]? = some o->k<W.heap.size:=fun h=>(Array.getElem?_eq_some_iff.1 h).1;refine(hseq (w.heap.size+1) W1 (fun pre W=>I pre W/\W.heap[w.heap.size+1]? = some (.loop (rc .ready none))/\W.heap[w.heap.size]? = some (.deferred (some [])))
   (fun pre W h=>h.1) (fun pre W W' h hb=>⟨hIB pre W W' h.1 hb,(hb.block _ (hlt h.2.1)).trans h.2.1,(hb.block _ (hlt h.2.2)).trans h.2.2⟩) hbel ?_ ⟨hIB _ _ _ h0 hbel,hL1,hD1⟩).mono ?_
  ·rintro pre x W ⟨hi,hl,hd⟩ hok;have hy:=run_yield (P:=P) (args:=encs x) hl (by rw[hrc];exact hps x);rw[hrc]at hy;refine⟨fn,_,assign,body,hy,roundIn_of_wpIn hfn (hassign _ x W _ ⟨_,run_beginRound hl (by rw[hrc]),?_⟩)⟩;have tb:=Turn.put (b:=w.heap.size) W (w.heap.size+1) _ (.loop { rc .ready none with state:=.busy }) oz hl rfl;have hob:∀ k,k≠w.heap.size+1->(W.putObj (w.heap.size+1) (.loop { rc .ready none with state:=.busy })).heap[k]? = W.heap[k]? := fun k hk=>World.putObj_heap_other oz;have hl2:(W.putObj (w.heap.size+1) (.loop { rc .ready none with state:=.busy })).heap[w.heap.size+1]? = some (.loop { rc .ready none with state:=.busy }):=World.putObj_heap_same (hlt hl);have hd2:=(hob w.heap.size oz).trans hd;generalize W.putObj (w.heap.size+1) (.loop { rc .ready none with state:=.busy })=Wb at *;refine wpIn_mono (hbody _ pre x Wb (hIT _ _ _ hi tb) hok (hlt hl2)) ?_;rintro e a3 W3 hp;cases e with
   | normal =>
    obtain⟨hk,hkp,hi3⟩:=hp;have hl3:=(hk _ oz oz).trans hl2;have hd3:=(hk _ oz oz).trans hd2;have hend:=run_endRound (P:=P) none hl3;have te:=Turn.put (b:=w.heap.size) W3 (w.heap.size+1) _ (.loop (rc .ready none)) oz hl3 rfl;have hoe:∀ k,k≠w.heap.size+1->(W3.putObj (w.heap.size+1) (.loop (rc .ready none))).heap[k]? = W3.heap[k]? := fun k hk=>World.putObj_heap_other oz;have hl4:(W3.putObj (w.heap.size+1) (.loop (rc .ready none))).heap[w.heap.size+1]? = some (.loop (rc .ready none)):=World.putObj_heap_same (hlt hl3);refine⟨_,_,hend,?_⟩;have hre:({ ({ rc .ready none with state:=.busy }:Loop)with state:=if(none:Option Code).isNone then .ready else .done,pending:=none }:Loop)=rc .ready none:=by rw[hrc];rfl
    rw[hre];have hd4:=(hoe w.heap.size oz).trans hd3;refine⟨rfl,⟨hIT _ _ _ hi3 te,hl4,hd4⟩,hKp pre x W Wb W3 _ hi tb hkp te (fun k h1 h2=>?_) (fun k hk=>⟨hob k hk,hoe k hk⟩)⟩;rcases(show k=w.heap.size\/k=w.heap.size+1 by omega)with rfl|rfl
    ·rw[hd4,hd]
    ·rw[hl4,hl]
   | ret=>exact hp.elim
   | exit id=>exact hp.elim
   | goto t=>exact hp.elim
   | panic ch=>exact hp.elim
   | outgrown=>exact hp.elim
  ·rintro e W2 ⟨⟨v,rfl⟩,xs,hS,hi,hl,hd⟩;subst hrc;have hend:=run_endLoop (P:=P) hl si;refine⟨none,_,hend,?_⟩;exact hdone xs _ hS (hIT _ _ _ hi (Turn.put W2 (w.heap.size+1) _ _ oz hl rfl)) ((World.putObj_heap_other oz).trans hd)
/-- the edges that go from the first k instructions -/
noncomputable def edgesTo (f:PFunc) (k:Nat):List (Nat×Int):=(List.range k).flatMap fun u=>if(reachP f).getD u false then(nextP f u).map (fun v=>(u,v))else[]
noncomputable def edgesL (f:PFunc):List (Nat×Int):=edgesTo f f.code.length
def encE (x:Nat×Int):Array Value:=#[.int .i64 x.1,.int .i64 x.2]
theorem edgesTo_succ (f:PFunc) (k:Nat):edgesTo f (k+1)=edgesTo f k++(if(reachP f).getD k false then(nextP f k).map (fun v=>(k,v))else[]):=by
 unfold edgesTo;rw[List.range_succ,List.flatMap_append];simp
theorem edgesTo_pre (f:PFunc) (k:Nat) (hk:k<=f.code.length):edgesTo f k <+: edgesL f:=by
 unfold edgesL;obtain⟨m,hm⟩:∃ m,f.code.length=k+m:=⟨f.code.length-k,oz⟩
 rw[hm];clear hm hk
 induction m with
 | zero=>exact List.prefix_refl _
 | succ m ih=>exact ih.trans (by rw[<-Nat.add_assoc,edgesTo_succ];exact List.prefix_append _ _)
theorem edges_pre (f:PFunc) (k j:Nat) (hk:k<f.code.length) (hr:(reachP f).getD k false=true) (v:Int) (hj:(nextP f k)[j]? = some v):(edgesTo f k++((nextP f k).take j).map (fun v=>(k,v)))++[(k,v)] <+: edgesL f:=by
 refine List.IsPrefix.trans ?_ (edgesTo_pre f (k+1) hk);rw[edgesTo_succ,if_pos hr,List.append_assoc,List.prefix_append_right_inj];have:((nextP f k).take j).map (fun v=>(k,v))++[(k,v)]=((nextP f k).take (j+1)).map (fun v=>(k,v)):=by
  rw[List.take_add_one,hj];simp
 rw[this];exact List.IsPrefix.map _ (List.take_prefix _ _)
/-- the caller's blocks, as the iterator must know of them -/
structure OwnSys (own:World->Nat->Prop) (J:List (Nat×Int)->World->Prop) (B0:Nat):Prop where
 lt:∀ pre W k,J pre W->own W k->k<W.heap.size
 st:∀ pre W W' k,J pre W->Below W.heap.size W W'->own W' k->own W k
 base:∀ pre W k,J pre W->own W k->B0<=k
def KpE (own:World->Nat->Prop) (W W':World):Prop:=Chg (own W) W W'/\∀ k,own W' k->own W k\/W.heap.size<=k
theorem edges_seq (n:Nat) (own:World->Nat->Prop) (J:List (Nat×Int)->World->Prop) (B B0 bx:Nat) (hh:HF) (f:PFunc) (l:Nat) (W:World)
 (hn0:0<f.code.length) (hn:f.code.length<=1024) (hBB:B<=B0) (hbx:∀ pre W,J pre W->¬own W bx) (hBW:B0<=W.heap.size) (hf:FuncOk B W hh f)
 (hbox:Own W bx [.string f.name,.slice hh.pa hh.pl hh.pc,.int .i64 f.regs,.int .i64 f.words,.slice hh.ca hh.cl hh.cc])
 (hO:OwnSys own J B0) (hJB:∀ pre W W',J pre W->Below W.heap.size W W'->J pre W')
 (hY:∀ pre x W1,J pre W1->pre++[x] <+: edgesL f->YieldAt Fence.wide (n-1) Tryz.prog l (encE x) W1 fun e W'=>e=.returned (.bool true)/\J (pre++[x]) W'/\KpE own W1 W')
 (h0:J [] W):CallsIn Fence.wide n Tryz.prog 56 #[.func (.yield l) #[] #[],.pointer (some ⟨bx,0,none⟩)] W fun e W'=>(∃ v,e=.returned v)/\∃ xs,xs=edgesL f/\J xs W':=by
 have b5:=own5 hbox;have HX:=qd hbox;clear hbox;have HRc:=qd (reach_any B hh f W oz hf hn0 hn);have HF:=qd hf;clear hf;have HJ:=qd h0;clear h0;unfold FuncVal at HRc;refine callsIn_of_wp Tryz.func56 rfl trivial ?_ rfl;simp only[Tryz.ntmps56,List.size_toArray,List.length_cons,List.length_nil,Nat.reduceAdd,Nat.reduceSub,Array.replicate_succ,Array.replicate_zero,List.push_toArray,List.append_toArray,List.nil_append,List.cons_append];gi_wp2_with (refine⟨trivial,(fun h=>absurd h dc),?_⟩;gi_at_call 57;refine(callsIn_wide.2 HRc.out).mono ?_;rintro e w1 ⟨rv,rfl,hb1,hr1,hf1⟩;obtain⟨rb,rc,rfl,hrc,hrm,hrl⟩:=row_pos hr1 (by rw[reachP_len];exact hn0);rw[reachP_len]at hr1 ⊢)
 have hz1:=hb1.size;have hnr:¬own w1 rb:=fun h=>by
  have h1:=hO.st _ _ _ _ HJ.out hb1 h;have h2:=hO.lt _ _ _ HJ.out h1;have h3:=hf1 rb rfl;omega
 have HJ1:=qd (hJB _ _ _ HJ.out hb1);have HX1:=qd (HX.out.below hb1);have HF1:=qd (HF.out.same (Same.of hb1 oz));have HR1:=qd hr1;clear hr1;have hn':f.code.length<=9223372036854775807:=oz
 clear hf1 HJ HX HF HRc b5;gi_loopw [10] (fun i wr=>∃ k:Nat,k<=f.code.length/\i=.int .i64 k/\Hid (J (edgesTo f k) wr)/\¬own wr rb/\Hid (Own wr bx [.string f.name,.slice hh.pa hh.pl hh.pc,.int .i64 f.regs,.int .i64 f.words,.slice hh.ca hh.cl hh.cc])/\Hid (FuncOk B wr hh f)/\Hid (wr.ownsRow 0 4 1 (.slice (some ⟨rb,0,none⟩) f.code.length rc) f.code.length (Bools (reachP f)))/\B0<=wr.heap.size)
  (fun i _=>f.code.length-(intOf i).toNat)
 case atStart=>exact⟨0,Nat.zero_le _,rfl,HJ1,hnr,HX1,HF1,HR1,oz⟩
 case round =>
  clear HJ1 HX1 HF1 HR1 hnr hz1 hb1 hrl;obtain⟨k,hk,rfl,hJ,hnr,hX,hF,hR,hB0⟩:=hrel;have b5:=own5 hX.out;have hrl:=row_ltB hR.out;by_cases hlt:k<f.code.length
  ·have d2:(k:Int)<(f.code.length:Int):=oz
   have hwk:IntKind.i64.wrap ((k:Int)+1)=(k:Int)+1:=IntWalk.i64_in _ oz;have hgr:(reachP f)[k]? = some ((reachP f).getD k false):=by rw[List.getD_eq_getElem?_getD,List.getElem?_eq_getElem (by rw[reachP_len];exact hlt)];rfl
   have c0:=row_cell hR.out (Bools_some hgr);have HS:=qd (edgesTo_succ f k);have HP:=qd (fun hr j v hj=>edges_pre f k j hlt hr v hj);clear hgr;generalize (reachP f).getD k false=m at *;cases m
   ·gi_wp2
    go_roundw
    case rel=>exact⟨k+1,oz,si,qd (by rw[HS.out];simpa using hJ.out),hnr,hX,hF,hR,hB0⟩
    case measure=>go_light;exact ml
   ·have HN:=qd (next_any B hh f k wr oz hF.out hlt);unfold FuncVal at HN;gi_wp2_with (refine⟨trivial,(fun h=>absurd h dc),?_⟩;gi_at_call 46;refine(callsIn_wide.2 HN.out).mono ?_;rintro e w2 ⟨nv,rfl,hb2,hr2,hf2,hn2⟩;obtain⟨va,vc,rfl⟩:∃ va vc,nv=.slice va (nextP f k).length vc:=(by rcases row_form hr2 with⟨rfl,h0,_⟩|⟨g,c,rfl,_,_,_⟩;exact⟨none,0,by rw[h0]⟩;exact⟨_,_,rfl⟩))
    have hz2:=hb2.size;have hnr2:¬own w2 rb:=fun h=>hnr (hO.st _ _ _ _ hJ.out hb2 h);have hng2:∀ g,va=some ⟨g,0,none⟩->¬own w2 g:=fun g e h=>by
     have h1:=hO.lt _ _ _ hJ.out (hO.st _ _ _ _ hJ.out hb2 h);have h2:=hf2 g (by rw[e];rfl);omega
    have HJ2:=qd (hJB _ _ _ hJ.out hb2);have HX2:=qd (hX.out.below hb2);have HF2:=qd (hF.out.same (Same.of hb2 oz));have HR2:=qd (row_below hb2 hR.out);have HN2:=qd hr2;clear hr2;have hnl:=nextP_len f k;clear hf2 hn2 hJ hX hF hR HN b5 c0 hnr hrl;generalize nextP f k=nl at *;have hnl':nl.length<=9223372036854775807:=oz
    gi_loopw [21] (fun i wx=>∃ j:Nat,j<=nl.length/\i=.int .i64 j/\Hid (J (edgesTo f k++(nl.take j).map (fun v=>(k,v))) wx)/\¬own wx rb/\(∀ g,va=some ⟨g,0,none⟩->¬own wx g)/\Hid (Own wx bx [.string f.name,.slice hh.pa hh.pl hh.pc,.int .i64 f.regs,.int .i64 f.words,.slice hh.ca hh.cl hh.cc])/\Hid (FuncOk B wx hh f)/\Hid (wx.ownsRow 0 4 1 (.slice (some ⟨rb,0,none⟩) f.code.length rc) f.code.length (Bools (reachP f)))/\Hid (wx.ownsRow 0 3 1 (.slice va nl.length vc) nl.length (Nums nl))/\B0<=wx.heap.size)
     (fun i _=>nl.length-(intOf i).toNat)
    case atStart=>exact⟨0,Nat.zero_le _,rfl,qd (by simpa using HJ2.out),hnr2,hng2,HX2,HF2,HR2,HN2,oz⟩
    case round =>
     clear HJ2 HX2 HF2 HR2 HN2 hnr2 hng2 hz2 hb2;rename_i wq;obtain⟨j,hj,rfl,hJ,hnr,hng,hX,hF,hR,hN,hB1⟩:=hrel;have b5:=own5 hX.out;by_cases hjt:j<nl.length
     ·have d3:(j:Int)<(nl.length:Int):=oz
      have hwj:IntKind.i64.wrap ((j:Int)+1)=(j:Int)+1:=IntWalk.i64_in _ oz;obtain⟨g,gc,hgv,-,-,hgl⟩:=row_pos hN.out oz;cases hgv;have hgj:nl[j]? = some (nl[j]'hjt):=List.getElem?_eq_getElem hjt;have n0:=row_cell hN.out (Nums_some hgj);obtain⟨fn,tmps,assign,body,hy,hRd⟩:=hY _ (k,nl[j]'hjt) wr hJ.out (HP.out si j _ hgj);unfold encE at hy;dsimp only at hy;have hng':=hng g rfl;have hTk:nl.take (j+1)=nl.take j++[nl[j]'hjt]:=by rw[List.take_add_one,hgj];rfl
      have HTK:=qd hTk;clear hTk hgj;generalize nl[j]'hjt=v at *;have HRd:=qd hRd;clear hRd;gi_wp2;refine⟨fun h=>absurd h dc,HRd.out.mono ?_⟩;rintro e W3 ⟨rfl,hJ3,hc3,hk3⟩;have hz3:=hc3.size;have s1:¬own W3 rb:=fun h=>by rcases hk3 _ h with h|h;exact hnr h;have:=row_ltB hR.out;omega
      have s2:¬own W3 g:=fun h=>by rcases hk3 _ h with h|h;exact hng' h;omega
      have s3:¬own wr bx:=hbx _ _ hJ.out;have X3:=hc3.own hX.out s3;have F3:=hF.out.same (hc3.same (show B<=wr.heap.size by omega) (fun q hq h=>by have:=hO.base _ _ _ hJ.out h;omega));have R3:=row_chg hc3 hR.out (fun q hq h=>by have e:rb=q:=ob1 hq;subst e;exact hnr h);have N3:=row_chg hc3 hN.out (fun q hq h=>by have e:g=q:=ob1 hq;subst e;exact hng' h);have x5:=own5 X3;gi_wp2
      go_roundw
      case rel=>exact⟨j+1,oz,si,qd (by rw[HTK.out,List.map_append,<-List.append_assoc];exact hJ3),s1,(fun g' e=>by cases e;exact s2),qd X3,qd F3,qd R3,qd N3,oz⟩
      case measure=>go_light;exact ml
     ·have hjj:j=nl.length:=oz
      subst hjj;have d3:¬(nl.length:Int)<(nl.length:Int):=oz
      gi_wp2
      go_roundw
      case rel=>exact⟨k+1,oz,si,qd (by have h:=hJ.out;rw[List.take_length]at h;rw[HS.out];simpa using h),hnr,hX,hF,hR,hB1⟩
      case measure=>go_light;exact ml
  ·have hkk:k=f.code.length:=oz
   subst hkk;have d2:¬(f.code.length:Int)<(f.code.length:Int):=oz
   gi_wp2
   go_end0
   first|exact⟨⟨_,rfl⟩,_,rfl,hJ.out⟩|exact⟨⟨_,rfl⟩,hJ.out⟩|exact hJ.out
/-- what Edges keeps of its argument -/
def boxOf (w:World) (hh:HF) (f:PFunc):World:=w.alloc (.cells #[.string f.name,.slice hh.pa hh.pl hh.pc,.int .i64 f.regs,.int .i64 f.words,.slice hh.ca hh.cl hh.cc] 42)
theorem edges_any (hh:HF) (f:PFunc) (w:World):Calls Tryz.prog 22 #[FuncVal hh f] w fun e w'=>e=.returned (.func (.func 56) #[] #[.pointer (some ⟨w.heap.size,0,none⟩)])/\w'=boxOf w hh f:=by
 have hmf:=@mkF Tryz.prog;unfold FuncVal boxOf;go_enter Tryz.func22,Tryz.ntmps22;go_wp2;go_ret;exact⟨rfl,rfl⟩
theorem range_edges {g:Operand}{ps:Array Tmp}{assign body:Code}{Q:Exit->Act->World->Prop}{a:Act}{w:World}(own:World->Nat->Prop) (I:List (Nat×Int)->World->Prop) (B B0 bx:Nat) (hh:HF) (f:PFunc)
 (hg:a.eval g=.func (.func 56) #[] #[.pointer (some ⟨bx,0,none⟩)]) (hps:ps.size=2)
 (hn0:0<f.code.length) (hn:f.code.length<=1024) (hBB:B<=B0) (hBw:B0<=w.heap.size) (hf:FuncOk B w hh f)
 (hbox:Own w bx [.string f.name,.slice hh.pa hh.pl hh.pc,.int .i64 f.regs,.int .i64 f.words,.slice hh.ca hh.cl hh.cc])
 (hO:OwnSys own I B0) (hbx:∀ pre W,I pre W->¬own W bx)
 (hIB:∀ pre W W',I pre W->Below W.heap.size W W'->I pre W') (hIT:∀ pre W W',I pre W->Turn w.heap.size W W'->I pre W') (hOT:∀ pre W W' k,I pre W->Turn w.heap.size W W'->(own W' k↔own W k)) (h0:I [] w)
 (hround:∃ a₁:(Nat×Int)->Act,(∀ (l:Nat) (x:Nat×Int) (W:World) (K:Act->World->Prop),K (a₁ x) W ->
   assign.wpIn (Fence.wide.inRound l) 0 Tryz.prog (Exit.then K (fun _ _ _=>False)) { tmps:=(ps.zip (encE x)).foldl (fun t (p,v)=>t.setIfInBounds p v) a.tmps,defers:=[] } W) /\
   (∀ (l:Nat) (pre:List (Nat×Int)) (x:Nat×Int) (W:World),I pre W->pre++[x] <+: edgesL f->w.heap.size+1<W.heap.size ->
   body.wpIn (Fence.wide.inRound l) 0 Tryz.prog (roundT fun W'=>(∀ k,w.heap.size<=k->k<w.heap.size+2->W'.heap[k]? = W.heap[k]?)/\KpE own W W'/\I (pre++[x]) W') (a₁ x) W))
 (hdone:∀ W:World,I (edgesL f) W->W.heap[w.heap.size]? = some (.deferred (some []))->Q .normal { a with defers:={ target:=.collected w.heap.size,args:=#[] }::a.defers } W) :
 (Code.rangeFunc g ps assign body).wp Tryz.prog Q a w:=by
 obtain⟨a₁,hassign,hbody⟩:=hround;refine(wpIn_wide (n:=2)).1 ?_;refine range_law 56 #[.pointer (some ⟨bx,0,none⟩)] hg (fun _ _=>rfl) encE (fun x=>by rw[hps];rfl) I hIB hIT h0 (fun xs=>xs=edgesL f) (fun pre x=>pre++[x] <+: edgesL f) (fun pre x W W'=>KpE own W W'/\I (pre++[x]) W') ?_ ?_ a₁ hassign ?_ ?_
 ·rintro pre x W Wb W3 W' hi tb ⟨⟨hc,hk⟩,hi3⟩ te hkk hoo;have e1:∀ k,own Wb k↔own W k:=fun k=>hOT _ _ _ k hi tb;have e2:∀ k,own W' k↔own W3 k:=fun k=>hOT _ _ _ k hi3 te;have s1:=tb.size;have s2:=te.size;have s3:=hc.size;refine⟨⟨⟨te.os.trans (hc.os.trans tb.os),te.tape.trans (hc.tape.trans tb.tape),te.output.trans (hc.output.trans tb.output),oz,?_⟩,?_⟩,hIT _ _ _ hi3 te⟩
  ·intro k hk1 hk2;by_cases e:k=w.heap.size+1
   ·exact hkk k oz oz
   ·rw[(hoo k e).2,hc.block k (by omega) (fun h=>hk2 ((e1 k).1 h)),(hoo k e).1]
  ·intro k h;rcases hk k ((e2 k).1 h)with h|h
   ·exact .inl ((e1 k).1 h)
   ·exact .inr oz
 ·intro l W J hJI hJB hbel hY hJ0;refine edges_seq (2-1) own J B B0 bx hh f l W hn0 hn hBB (fun pre W h=>hbx pre W (hJI _ _ h)) (by have:=hbel.size;omega) (hf.same (Same.of hbel oz)) (hbox.below hbel) ⟨fun pre W k h=>hO.lt pre W k (hJI _ _ h),fun pre W W' k h=>hO.st pre W W' k (hJI _ _ h),fun pre W k h=>hO.base pre W k (hJI _ _ h)⟩ hJB ?_ hJ0;intro pre x W1 h1 h2;obtain⟨fn,tmps,assign,body,hy,hr⟩:=hY pre x W1 h1 h2;exact⟨fn,tmps,assign,body,hy,hr.mono fun e W' h=>⟨h.1,h.2.1,h.2.2.1⟩⟩
 ·intro l pre x W h1 h2 h3;refine wpIn_mono (hbody l pre x W h1 h2 h3) ?_;rintro e a3 W3 hp;cases e with
  | normal=>exact⟨hp.1,⟨hp.2.1,hp.2.2⟩,hp.2.2⟩
  | ret=>exact hp
  | exit id=>exact hp
  | goto t=>exact hp
  | panic ch=>exact hp
  | outgrown=>exact hp
 ·intro xs W hS hi hd;subst hS;exact hdone W hi hd
def plC (p:Nat×Nat):List Value:=[.int .i64 p.1,.int .i64 p.2]
def plCs (st:List (Nat×Nat)):List Value:=st.flatMap plC
theorem plCs_len (st:List (Nat×Nat)):(plCs st).length=st.length*2:=by
 induction st with
 | nil=>rfl
 | cons x l ih=>simp only[plCs,List.flatMap_cons,List.length_append]at ih ⊢;rw[ih];simp[plC];omega
theorem plCs_snoc (st:List (Nat×Nat)) (p:Nat×Nat):plCs (st++[p])=plCs st++plC p:=by simp[plCs]
theorem plCs_top (st:List (Nat×Nat)) (a w:Nat):(plCs (st++[(a,w)]))[st.length*2]? = some (.int .i64 a)/\(plCs (st++[(a,w)]))[st.length*2+1]? = some (.int .i64 w):=by
 rw[plCs_snoc,List.getElem?_append_right (by rw[plCs_len];omega),List.getElem?_append_right (by rw[plCs_len];omega),plCs_len];exact⟨by simp[plC],by rw[show st.length*2+1-st.length*2=1 by omega];rfl⟩
theorem plCs_set (st:List (Nat×Nat)) (a w w':Nat):(plCs (st++[(a,w)])).set (st.length*2+1) (.int .i64 w')=plCs (st++[(a,w')]):=by
 rw[plCs_snoc,plCs_snoc,List.set_append_right _ _ (by rw[plCs_len];omega),plCs_len,show st.length*2+1-st.length*2=1 by omega];rfl
theorem plCs_take (st:List (Nat×Nat)) (p:Nat×Nat):(plCs (st++[p])).take (st.length*2)=plCs st:=by
 rw[plCs_snoc,<-plCs_len,List.take_left]
theorem plCs_one (st:List (Nat×Nat)):∀ v∈plCs st,v.oneCell'=true:=by
 intro v hv;obtain⟨p,_,hp⟩:=List.mem_flatMap.1 hv;simp[plC]at hp;rcases hp with rfl|rfl<;>rfl
theorem st_sum (st:List (Nat×Nat)) (h:∀ p∈st,p.2<=2):st.length<=(st.map fun p=>3-p.2).sum:=by
 induction st with
 | nil=>simp
 | cons x l ih =>
  have h1:=h x si;have h2:=ih (fun p hp=>h p (by simp[hp]));simp only[List.map_cons,List.sum_cons,List.length_cons];omega
theorem dLeft_len {f:PFunc}{been:List Bool}{out:List Nat}{st:List (Nat×Nat)}(h:DInv f been out st):st.length<=dLeft been st:=by
 have:=st_sum st (fun p hp=>Nat.le_trans (h.way p hp).1 (nextP_len f p.1));unfold dLeft;omega
theorem toI_snoc (l:List Nat) (a:Nat):toI (l++[a])=toI l++[(a:Int)]:=by simp[toI]
/-- a list with its first i and its last i exchanged -/
def revI (l:List Int) (i:Nat):List Int:=(List.range l.length).map fun j=>if j<i\/l.length-i<=j then l.getD (l.length-1-j) 0 else l.getD j 0
theorem revI_len (l:List Int) (i:Nat):(revI l i).length=l.length:=by simp[revI]
theorem revI_at (l:List Int) (i j:Nat) (hj:j<l.length):(revI l i)[j]? = some (if j<i\/l.length-i<=j then l.getD (l.length-1-j) 0 else l.getD j 0):=by simp[revI,hj]
theorem revI_zero (l:List Int):revI l 0=l:=by
 apply List.ext_getElem?;intro j;by_cases hj:j<l.length
 ·rw[revI_at l 0 j hj,if_neg (by omega),List.getD_eq_getElem?_getD,List.getElem?_eq_getElem hj];rfl
 ·rw[List.getElem?_eq_none (by rw[revI_len];omega),List.getElem?_eq_none (by omega)]
theorem revI_step (l:List Int) (i k:Nat) (hik:i<k) (hk:k+i+1=l.length):((revI l i).set i (l.getD k 0)).set k (l.getD i 0)=revI l (i+1):=by
 apply List.ext_getElem?;intro j;by_cases hj:j<l.length
 ·rw[revI_at l (i+1) j hj];by_cases e1:j=k
  ·subst e1;rw[List.getElem?_set_self (by rw[List.length_set,revI_len];exact hj),if_pos (by omega)];congr 2;omega
  ·rw[List.getElem?_set_ne (by omega)];by_cases e2:j=i
   ·subst e2;rw[List.getElem?_set_self (by rw[revI_len];exact hj),if_pos (by omega)];congr 2;omega
   ·rw[List.getElem?_set_ne (by omega),revI_at l i j hj];congr 1;by_cases c:j<i\/l.length-i<=j
    ·rw[if_pos c,if_pos (by omega)]
    ·rw[if_neg c,if_neg (by omega)]
 ·rw[List.getElem?_eq_none (by simp[revI_len];omega),List.getElem?_eq_none (by rw[revI_len];omega)]
theorem revI_done (l:List Int) (i k:Nat) (hik:¬i<k) (hk:k+i+1=l.length\/(k+1=i/\2*i=l.length)):revI l i=l.reverse:=by
 apply List.ext_getElem?;intro j;by_cases hj:j<l.length
 ·rw[revI_at l i j hj,List.getElem?_reverse hj,List.getElem?_eq_getElem (by omega)];congr 1;have hd:∀ q (h:q<l.length),l.getD q 0=l[q]:=fun q h=>by rw[List.getD_eq_getElem?_getD,List.getElem?_eq_getElem h];rfl
  by_cases c:j<i\/l.length-i<=j
  ·rw[if_pos c,hd _ (by omega)]
  ·rw[if_neg c,hd _ hj];congr 1;omega
 ·rw[List.getElem?_eq_none (by rw[revI_len];omega),List.getElem?_eq_none (by rw[List.length_reverse];omega)]
theorem toI_rev (l:List Nat):(toI l).reverse=toI l.reverse:=by simp[toI]
theorem Tryz.infoP:(Tryz.prog.info? 167).map (fun i=>(i.zero,i.size,i.bytes))=some (some (.agg #[.int .i64 0,.int .i64 0]),2,16):=kr
theorem order_any (B:Nat) (hh:HF) (f:PFunc) (w:World) (hB:B<=w.heap.size) (hf:FuncOk B w hh f) (hn0:0<f.code.length) (hn:f.code.length<=1024):Calls Tryz.prog 115 #[FuncVal hh f] w fun e w'=>∃ l,OrderOk f l/\FreshI w (toI l) e w':=by
 have hmk:=run_make_row' (P:=Tryz.prog) 89 4 (.bool false) 1 Tryz.underlying89 Tryz.infoB rfl .i64 .i64 f.code.length oz oz;rw[madeBools]at hmk;have HF:=qd hf;obtain⟨pa,pl,pc,ca,cl,cc⟩:=hh;obtain⟨h1,h2,⟨hcl,hcm,hcx⟩,h4,h5⟩:=hf;dsimp only at *;subst hcl;clear h2 hcm hcx h1 h4 h5;have hNX:=qd (fun(a:Nat) w hB hf hat=>next_any B ⟨pa,pl,pc,ca,f.code.length,cc⟩ f a w hB hf hat);unfold FuncVal at *;dsimp only at *;have hS:=qd (DInv.start f hn0);have hnl:(List.replicate f.code.length false).length=f.code.length:=si
 generalize List.replicate f.code.length false=F0 at *;have hn1:(0:Int)<(f.code.length:Int):=oz
 have OC0:∀ W:World,(W.alloc (.cells (Bools F0).toArray 4)).ownsRow 0 4 1 (.slice (some ⟨W.heap.size,0,none⟩) f.code.length f.code.length) f.code.length (Bools F0):=fun W=>by
  have:=World.ownsRow_lit W (base:=0) (e:=4) (size:=1) (Bools F0).toArray f.code.length (Nat.zero_le _) (by unfold maxLen;omega) (by simp[Bools,hnl]);simpa using this
 go_enter Tryz.func115,Tryz.ntmps115;go_upto_region 4 with(fail)
 generalize hW0:World.alloc _ _=W0;have hb0:Below w.heap.size w W0:=by rw[<-hW0];exact bel
 have OB:Own W0 w.heap.size [.string f.name,.slice pa pl pc,.int .i64 f.regs,.int .i64 f.words,.slice ca f.code.length cc]:=by rw[<-hW0];exact((Own.new _ _ _).alloc _).alloc _
 have OC:W0.ownsRow 0 4 1 (.slice (some ⟨w.heap.size+1,0,none⟩) f.code.length f.code.length) f.code.length (Bools F0):=by
  rw[<-hW0];have:=(OC0 (w.alloc (.cells #[.string f.name,.slice pa pl pc,.int .i64 f.regs,.int .i64 f.words,.slice ca f.code.length cc] 42))).alloc (.cells #[.int .i64 0,.int .i64 0] 167);simpa using this
 have OT:W0.ownsRow 0 167 2 (.slice (some ⟨w.heap.size+1+1,0,none⟩) 1 1) 1 (plCs [(0,0)]):=by
  rw[<-hW0];have:=World.ownsRow_lit ((w.alloc (.cells #[.string f.name,.slice pa pl pc,.int .i64 f.regs,.int .i64 f.words,.slice ca f.code.length cc] 42)).alloc (.cells (Bools F0).toArray 4)) (base:=0) (e:=167) (size:=2) (plCs [(0,0)]).toArray 1 (Nat.zero_le _) (by unfold maxLen;omega) (by simp[plCs,plC]);simpa[plCs,plC]using this
 have hz0:w.heap.size+3<=W0.heap.size:=by rw[<-hW0];simp
 clear hW0 hmk OC0;have c0:=row_cell OC (j:=0) (u:=.bool (F0[0]'(oz))) (Bools_some (by rw[List.getElem?_eq_getElem]));have hfz:=OC.frozenAt 0;have hst:Chg (· = w.heap.size+1) W0 (W0.setCell ⟨w.heap.size+1,0,none⟩ (.bool true)):=Chg.setCell (S:=(· = w.heap.size+1)) (Chg.refl _ _) (p:=⟨w.heap.size+1,0,none⟩) (Or.inl rfl) _;have C2:=row_set OC 0 (.bool true);rw[Bools_set]at C2;have B2:=hst.own OB oz;have T2:=row_chg hst OT (by intro k hk e;have h7:w.heap.size+1+1=k:=ob1 hk;omega);have hb2:Below w.heap.size w (W0.setCell ⟨w.heap.size+1,0,none⟩ (.bool true)):=bel;have hz2:w.heap.size+3<=(W0.setCell ⟨w.heap.size+1,0,none⟩ (.bool true)).heap.size:=by simpa using hz0
 have hdl:dLeft (F0.set 0 true) [(0,0)]<=4200:=by
  have:(F0.set 0 true).count false<=(F0.set 0 true).length:=List.count_le_length;rw[List.length_set]at this;unfold dLeft;simp;omega
 have HB2:=qd B2;have HC2:=qd C2;have HT2:=qd T2;have HDL:=qd hdl;clear OB OC OT B2 C2 T2 hst hb0 hz0 hdl;go_wp2;generalize W0.setCell ⟨w.heap.size+1,0,none⟩ (.bool true)=W1 at *;clear c0 hfz hnl
 go_loopg [4,5] (dLeft (F0.set 0 true) [(0,0)]) (fun k v4 v5 wr=>∃ (been:List Bool) (out:List Nat) (st:List (Nat×Nat)),k=dLeft been st/\Hid (DInv f been out st)/\out.length+k<=4200/\Below w.heap.size w wr/\w.heap.size+3<=wr.heap.size/\Hid (Own wr w.heap.size [.string f.name,.slice pa pl pc,.int .i64 f.regs,.int .i64 f.words,.slice ca f.code.length cc]) /\
  Hid (wr.ownsRow 0 4 1 (.slice (some ⟨w.heap.size+1,0,none⟩) f.code.length f.code.length) f.code.length (Bools been)) /\
  (∀ j,v4.ownBlock=some j->w.heap.size+2<=j)/\(∀ j,v5.ownBlock=some j->w.heap.size+2<=j)/\(∀ j,v4.ownBlock=some j->v5.ownBlock≠some j) /\
  Hid (wr.ownsRow 0 3 1 v4 out.length (Nums (toI out)))/\Hid (wr.ownsRow 0 167 2 v5 st.length (plCs st)))
 case atStart=>exact⟨_,[],[(0,0)],rfl,hS,by have:=HDL.out;simpa using this,hb2,hz2,HB2,HC2,by simp[Value.ownBlock],by simp[Value.ownBlock],by simp[Value.ownBlock],qd (World.ownsRow_nil _ _ _ _),HT2⟩
 case round =>
  clear HB2 HC2 HT2 hb2 hz2 HDL hS;obtain⟨been,out,st,rfl,hI,hk,hbr,hzr,hB2,hC,hv4,hv5,hne,hO,hT⟩:=hrel;have b5:=own5 hB2.out;rcases nil_or_snoc st with rfl|⟨t,⟨a,wy⟩,rfl⟩
  ·skip
   obtain⟨va5,vc5,rfl⟩:∃ va5 vc5,u5=.slice va5 0 vc5:=by
    rcases row_form hT.out with⟨rfl,_,_⟩|⟨g,c,rfl,_,_,_⟩
    ·exact⟨_,_,rfl⟩
    ·exact⟨_,_,rfl⟩
   have hok:=hI.out.done;have hol:0<out.length:=by
    rcases hI.out.bot with⟨_,k⟩|⟨w',q,k⟩
    ·cases out with
     | nil=>simp at k
     | cons x l=>simp
    ·simp at k
   obtain⟨g4,c4,rfl,h41,h42,h43⟩:=row_pos hO.out hol;have h42':c4<=9223372036854775807:=h42;have hg4:=hv4 g4 rfl;have hw0:IntKind.i64.wrap ((out.length:Int)-1)=((out.length-1:Nat):Int):=by rw[IntWalk.i64_in _ (by omega)];omega
   have HOK:=qd hok;clear hok;have hRow:=qd (show wr.ownsRow 0 3 1 (.slice (some ⟨g4,0,none⟩) out.length c4) out.length (Nums (revI (toI out) 0)) by rw[revI_zero];exact hO.out);have hll:(toI out).length=out.length:=by simp[toI]
   clear hI hO hT hB2 hC hv4 hv5 hne b5;have HK:=qd hk;clear hk;generalize hL:toI out=L at *;have HL:=qd hL;clear hL;go_wp2;go_loopw [9,10] (fun v9 v10 wx=>∃ (i k:Nat),v9=.int .i64 i/\v10=.int .i64 ((k:Int)-1)/\k+i=out.length/\i<=k/\Below w.heap.size w wx/\Hid (wx.ownsRow 0 3 1 (.slice (some ⟨g4,0,none⟩) out.length c4) out.length (Nums (revI L i)))) (fun v9 _ _=>out.length-(intOf v9).toNat)
   case atStart=>exact⟨0,out.length,rfl,by rw[Int.ofNat_sub (by omega)];rfl,oz,oz,hbr,hRow⟩
   case round =>
    clear hRow hbr;obtain⟨i,k,rfl,rfl,hik,hik2,hbx,hR⟩:=hrel;have hgx:=row_ltB hR.out;by_cases hlt:i+1<k
    ·have d2:(i:Int)<(k:Int)-1:=oz
     have q1:=revI_at L i i oz;have q2:=revI_at L i (k-1) oz;rw[if_neg (by omega)]at q1 q2;have a0:=row_cell hR.out (Nums_some q1);have a1:=row_cell hR.out (Nums_some q2);have f0:=hR.out.frozenAt i;have f1:=hR.out.frozenAt (k-1);have hst:=qd (revI_step L i (k-1) oz oz);clear q1 q2;obtain⟨m,rfl⟩:∃ m,k=m+1:=⟨k-1,oz⟩
     simp only[Nat.add_sub_cancel]at *;generalize L.getD i 0=x at *;generalize L.getD m 0=y at *;have hmm:((m+1:Nat):Int)-1=(m:Int):=oz
     have hwi:IntKind.i64.wrap ((i:Int)+1)=(i:Int)+1:=IntWalk.i64_in _ oz;have hwk:IntKind.i64.wrap ((m:Int)-1)=(m:Int)-1:=IntWalk.i64_in _ oz;have hmi:¬m=i:=oz
     have him:¬i=m:=oz
     have r1:=row_set (row_set hR.out i (.int .i64 y)) m (.int .i64 x);have e1:((Nums (revI L i)).set i (.int .i64 y)).set m (.int .i64 x)=Nums (revI L (i+1)):=by rw[<-hst.out];simp[Nums]
     have r2:=row_set (row_set hR.out m (.int .i64 x)) i (.int .i64 y);rw[List.set_comm _ _ (by omega)]at r2;rw[e1]at r1 r2;have R1:=qd r1;have R2:=qd r2;clear r1 r2 e1;go_wp2
     go_region
     all_goals go_wp2_with fail
     all_goals refine⟨⟨i+1,m,si,rfl,oz,oz,bel,qd (by first|exact R1.out|exact R2.out)⟩,?_⟩
     all_goals(go_light;exact ml)
    ·have d2:¬(i:Int)<(k:Int)-1:=oz
     have hrv:=revI_done L i (k-1) oz (.inl oz);have HRV:=qd hrv;clear hrv;go_wp2;go_ret;go_light;refine⟨out.reverse,HOK.out,_,rfl,bel,?_,?_,?_⟩
     ·have e:(toI out.reverse).length=out.length:=by simp[toI]
      rw[e,<-toI_rev,HL.out,<-HRV.out];exact hR.out
     ·intro j hj;have h7:g4=j:=ob1 hj
      omega
     ·intro e;have e2:(toI out.reverse).length=out.length:=by simp[toI]
      rw[e]at e2;change 0=out.length at e2;omega
  ·have hln:(t++[(a,wy)]).length=t.length+1:=si
   have hlt:t.length+1<=4200:=by
    have:=dLeft_len hI.out;rw[hln]at this;omega
   have hT2:=hT.out;rw[hln]at hT2;obtain⟨g,c,rfl,hgc,hgm,hgl⟩:=row_pos hT2 oz;have hgm':c<=9223372036854775807:=hgm;have hab:=hv5 g rfl;have ht1:=(plCs_top t a wy).1;have ht2:=(plCs_top t a wy).2;have t0:=row_cell hT2 ht1;have t1:=row_cell hT2 ht2;have tf:=hT2.frozenAt (t.length*2+1);clear ht1 ht2;have ha:a<f.code.length:=hI.out.lt si;have hway:=(hI.out.way (a,wy) si).1;dsimp only at hway;have hw1:IntKind.i64.wrap ((t.length:Int)+1-1)=(t.length:Int):=by rw[IntWalk.i64_in _ (by omega)];omega
   have j1:(0:Int)<(t.length:Int)+1:=oz
   have HT:=qd hT2;clear hT2 hT;go_wp2;refine wp_still 5 kr kr ?_;simp only[TD];repeat(refine WS_step (fun K hK=>?_);go_simp;refine hK _ ?_;clear hK K)
   refine WS_nil ?_;go_wp2_with fail;refine(hNX.out a wr.drew (by simp;omega) (HF.out.same (Same.of (show Below w.heap.size w wr.drew by exact bel) hB)) ha).mono ?_;rintro e w2 ⟨nv,rfl,hb3,hr3,hf3,hn3⟩;have O3:=row_below hb3 (show(wr.drew).ownsRow 0 3 1 u4 out.length (Nums (toI out))from hO.out);have T3:=row_below hb3 (show(wr.drew).ownsRow 0 167 2 (.slice (some ⟨g,0,none⟩) (t.length+1) c) (t.length+1) (plCs (t++[(a,wy)]))from HT.out);have C3:=row_below hb3 (show(wr.drew).ownsRow 0 4 1 (.slice (some ⟨w.heap.size+1,0,none⟩) f.code.length f.code.length) f.code.length (Bools been)from hC.out);have B3:=(show Own wr.drew w.heap.size [.string f.name,.slice pa pl pc,.int .i64 f.regs,.int .i64 f.words,.slice ca f.code.length cc]from hB2.out).below hb3;have hz3:wr.heap.size<=w2.heap.size:=hb3.size;have hbw:Below w.heap.size w w2:=bel;obtain⟨va,vc,rfl⟩:∃ va vc,nv=.slice va (nextP f a).length vc:=by
    rcases row_form hr3 with⟨rfl,h0,_⟩|⟨g',c',rfl,_,_,_⟩
    ·exact⟨none,0,by rw[h0]⟩
    ·exact⟨_,_,rfl⟩
   have hnlen:=nextP_len f a;have HFin:=qd (fun e=>hI.out.finish (a:=a) (w:=wy) e);have HLook:=qd (fun x hx hb=>hI.out.look (a:=a) (w:=wy) (x:=x) hx hb);have HMeet:=qd (fun x hx hb=>hI.out.meet (a:=a) (w:=wy) (x:=x) hx hb);have HIn:=qd (nextP_in f a);have HIL:=qd hI.out.len;have hz2:w.heap.size+3<=w2.heap.size:=oz
   clear hn3 hB2 hC hO HT t0 t1 tf b5 hbr hb3 hgl hI hf3;generalize nextP f a=nl at *;have t0:=row_cell T3 (plCs_top t a wy).1;have t1:=row_cell T3 (plCs_top t a wy).2;have tf:=T3.frozenAt (t.length*2+1);by_cases hwe:wy=nl.length
   ·subst hwe;have hM:=@dLeft_finish been t a nl.length hnlen;have hk2:(out++[a]).length+dLeft been t<=4200:=by simp;omega
    have HK2:=qd hk2;clear hk2;have HM:=qd hM;clear hM;have hpop:=row_take T3 t.length oz;rw[plCs_take]at hpop;have HPOP:=qd hpop;clear hpop;have hol:out.length<=4200:=oz
    go_wp2_with (first|(at_builtin;refine wpList_app rfl (.tmp 40) (.tmp 45) 50 3 1 8 (.int .i64 0) rfl Tryz.underlying50 Tryz.infoI rfl dc _ _ _ rfl (row_below bel O3) ⟨w2.heap.size,0,none⟩ 1 1 (Nums [(a:Int)]) rfl rfl (src_own (Own.new' _ _ _ _ si)) (Nums_one _) (by unfold maxLen;omega) oz dc ?_;intro g6 c6 w6 hr6 hc6 hg6)|fail)
    have hc7:Chg (fun k=>u4.ownBlock=some k) w2 w6:=(Chg.of (by exact bel)).trans hc6;have hgl3:=row_ltB T3
    go_roundg (dLeft been t)
    case measure=>exact HM.out
    case rel =>
     refine⟨been,out++[a],t,rfl,qd (HFin.out si),HK2.out,hbw.trans (hc7.below _ hbw.size (fun k hk e=>by have:=hv4 k e;omega)),by have:=hc7.size;omega,qd (hc7.own B3 (fun e=>by have:=hv4 _ e;omega)),
      qd (row_chg hc7 C3 (fun q hq e=>by have h7:w.heap.size+1=q:=ob1 hq;have:=hv4 _ e;omega)),?_,?_,?_,qd (by rw[toI_snoc,Nums_append,List.length_append];exact hr6),
      qd (row_chg hc7 HPOP.out (fun q hq e=>by have h7:g=q:=ob1 hq;subst h7;exact hne _ e rfl))⟩
     ·intro j hj;have h7:g6=j:=ob1 hj
      subst h7;rcases hg6 with h|h
      ·exact hv4 _ h
      ·simp at h;omega
     ·intro j hj;exact hv5 j hj
     ·intro j hj e;have h7:g6=j:=ob1 hj
      have h8:g=j:=ob1 e
      rcases hg6 with h|h
      ·exact hne _ h (by rw[h7,<-h8];rfl)
      ·simp at h;omega
   ·have hwl:wy<nl.length:=oz
    obtain⟨gn,gc,hnv,-,-,hgn⟩:=row_pos hr3 oz;cases hnv;have hxe:nl[wy]? = some (nl[wy]'hwl):=List.getElem?_eq_getElem hwl;have n0:=row_cell hr3 (Nums_some hxe);have hxr:=HIn.out _ (List.getElem_mem hwl);have HXE:=qd hxe;clear hxe;generalize nl[wy]'hwl=x at *;obtain⟨v,rfl⟩:∃ v:Nat,x=v:=⟨x.toNat,oz⟩
    have hvl:v<f.code.length:=oz
    have hvb:v<been.length:=by rw[HIL.out];exact hvl
    have hbe:been[v]? = some (been[v]'hvb):=List.getElem?_eq_getElem hvb;have e0:=row_cell C3 (Bools_some hbe);have ef:=C3.frozenAt v;have HBE:=qd hbe;clear hbe;generalize been[v]'hvb=m at *;have hw2:IntKind.i64.wrap ((wy:Int)+1)=(wy:Int)+1:=IntWalk.i64_in _ oz;have hwe2:¬(wy:Int)=(nl.length:Int):=oz
    have hwy:wy<2:=oz
    have hgl3:=row_ltB T3;have hst:Chg (· = g) w2 (w2.setCell ⟨g,t.length*2+1,none⟩ (.int .i64 ((wy:Int)+1))):=Chg.setCell (S:=(· = g)) (Chg.refl _ _) (p:=⟨g,t.length*2+1,none⟩) (Or.inl rfl) _;have T4:=row_set T3 (t.length*2+1) (.int .i64 ((wy:Int)+1));have hps:=plCs_set t a wy (wy+1);rw[show(((wy+1:Nat)):Int)=(wy:Int)+1 by omega]at hps;rw[hps]at T4;have B4:=hst.own B3 oz;have C4:=row_chg hst C3 (fun q hq e=>by have h7:w.heap.size+1=q:=ob1 hq;omega);have O4:=row_chg hst O3 (fun q hq e=>hne q hq (by rw[e];rfl));have hb4:Below w.heap.size w (w2.setCell ⟨g,t.length*2+1,none⟩ (.int .i64 ((wy:Int)+1))):=bel;have HT4:=qd T4;have HB4:=qd B4;have HC4:=qd C4;have HO4:=qd O4;clear T4 B4 C4 O4 hps hst;cases m
    ·have hM:=@dLeft_meet been t a wy v hwy HBE.out;have hk2:out.length+dLeft (been.set v true) (t++[(a,wy+1),(v,0)])<=4200:=oz
     have HK2:=qd hk2;have HM:=qd hM;clear hk2 hM;go_upto_region 15 with(fail)
     have hvx:v<f.code.length:=hvl;generalize hWb:w2.setCell ⟨g,t.length*2+1,none⟩ (.int .i64 ((wy:Int)+1))=Wb at *;have hzb:w.heap.size+3<=Wb.heap.size:=by rw[<-hWb];simpa using hz2
     clear hWb;have hst2:Chg (· = w.heap.size+1) Wb (Wb.setCell ⟨w.heap.size+1,v,none⟩ (.bool true)):=Chg.setCell (S:=(· = w.heap.size+1)) (Chg.refl _ _) (p:=⟨w.heap.size+1,v,none⟩) (Or.inl rfl) _;have C5:=row_set HC4.out v (.bool true);rw[Bools_set]at C5;have T5:=row_chg hst2 HT4.out (fun q hq e=>by have h7:g=q:=ob1 hq;omega);have O5:=row_chg hst2 HO4.out (fun q hq e=>by have:=hv4 q hq;omega);have B5:=hst2.own HB4.out oz;have hb5:Below w.heap.size w (Wb.setCell ⟨w.heap.size+1,v,none⟩ (.bool true)):=bel;have hz5:w.heap.size+3<=(Wb.setCell ⟨w.heap.size+1,v,none⟩ (.bool true)).heap.size:=by simpa using hzb
     generalize Wb.setCell ⟨w.heap.size+1,v,none⟩ (.bool true)=W5 at *;clear hst2;have hgl5:=row_ltB T5;go_wp2_with (first|(at_builtin;refine wpList_app rfl (.tmp 74) (.tmp 77) 168 167 2 16 (.agg #[.int .i64 0,.int .i64 0]) rfl Tryz.underlying168 Tryz.infoP rfl dc _ _ _ rfl (row_below bel T5) ⟨W5.heap.size,0,none⟩ 1 1 (plCs [(v,0)]) rfl rfl (src_own (Own.new' _ _ _ _ si)) (plCs_one _) (by unfold maxLen;omega) oz dc ?_;intro g6 c6 w6 hr6 hc6 hg6)|fail)
     have hc7:Chg (fun k=>(Value.slice (some ⟨g,0,none⟩) (t.length+1) c).ownBlock=some k) W5 w6:=(Chg.of (by exact bel)).trans hc6;have e7:∀ k,(Value.slice (some ⟨g,0,none⟩) (t.length+1) c).ownBlock=some k->k=g:=fun k hk=>by simpa[Value.ownBlock,eq_comm]using hk
     go_roundg (dLeft (been.set v true) (t++[(a,wy+1),(v,0)]))
     case measure=>exact HM.out
     case rel =>
      refine⟨been.set v true,out,t++[(a,wy+1),(v,0)],rfl,qd (HMeet.out _ HXE.out HBE.out),HK2.out,hb5.trans (hc7.below _ hb5.size (fun k hk e=>by have:=e7 k e;omega)),by have:=hc7.size;omega,qd (hc7.own B5 (fun e=>by have:=e7 _ e;omega)),
       qd (row_chg hc7 C5 (fun q hq e=>by have h7:w.heap.size+1=q:=ob1 hq;have:=e7 _ e;omega)),hv4,?_,?_,qd (row_chg hc7 O5 (fun q hq e=>by have:=e7 _ e;subst this;exact hne _ hq rfl)),qd ?_⟩
      ·intro j hj;have h7:g6=j:=ob1 hj
       subst h7;rcases hg6 with h|h
       ·have:=e7 _ h;omega
       ·simp at h;omega
      ·intro j hj e;have h7:g6=j:=ob1 e
       rcases hg6 with h|h
       ·have:=e7 _ h;exact hne j hj (by rw[<-h7,this];rfl)
       ·have:=row_lt O5 hj;simp at h;omega
      ·rw[show t++[(a,wy+1),(v,0)]=(t++[(a,wy+1)])++[(v,0)] by simp,show plCs ((t++[(a,wy+1)])++[(v,0)])=plCs (t++[(a,wy+1)])++plCs [(v,0)] by simp[plCs]];have e8:((t++[(a,wy+1)])++[(v,0)]).length=t.length+1+1:=si
       rw[e8];exact hr6
    ·have hM:=@dLeft_look been t a wy hwy;have hk2:out.length+dLeft been (t++[(a,wy+1)])<=4200:=oz
     have HK2:=qd hk2;have HM:=qd hM;clear hk2 hM;go_wp2_with fail
     go_roundg (dLeft been (t++[(a,wy+1)]))
     case measure=>exact HM.out
     case rel=>exact⟨been,out,t++[(a,wy+1)],rfl,qd (HLook.out _ HXE.out HBE.out),HK2.out,hb4,by simpa using hz2,HB4,HC4,hv4,(fun j hj=>hv5 j hj),(fun j hj e=>hne j hj e),HO4,qd (by rw[List.length_append];exact HT4.out)⟩
section
/-- an edge between instructions that can be reached -/
def EdgeP (f:PFunc) (u v:Nat):Prop:=Rch f u/\(v:Int)∈nextP f u
theorem edges_mem (f:PFunc) (u v:Nat):(u,(v:Int))∈edgesL f↔u<f.code.length/\EdgeP f u v:=by
 unfold edgesL edgesTo EdgeP;rw[List.mem_flatMap];constructor
 ·rintro⟨k,hk,hm⟩;rw[List.mem_range]at hk;by_cases hr:(reachP f).getD k false=true
  ·rw[if_pos hr]at hm;obtain⟨x,hx,he⟩:=List.mem_map.1 hm;injection he with e1 e2;subst e1;subst e2;have:(reachP f)[k]? = some true:=by
    rw[List.getElem?_eq_getElem (by rw[reachP_len];exact hk)];rw[List.getD_eq_getElem?_getD,List.getElem?_eq_getElem (by rw[reachP_len];exact hk)]at hr;simpa using hr
   exact⟨hk,(reachP_at f k hk).1 this,hx⟩
  ·rw[if_neg hr]at hm;simp at hm
 ·rintro⟨hk,hr,hm⟩;refine⟨u,List.mem_range.2 hk,?_⟩;have:=(reachP_at f u hk).2 hr;rw[if_pos (by rw[List.getD_eq_getElem?_getD,this];rfl)];exact List.mem_map.2 ⟨_,hm,rfl⟩
theorem edges_nat (f:PFunc) (x:Nat×Int) (h:x∈edgesL f):∃ v:Nat,x.2=v/\v<f.code.length/\x.1<f.code.length:=by
 unfold edgesL edgesTo at h;rw[List.mem_flatMap]at h;obtain⟨k,hk,hm⟩:=h;rw[List.mem_range]at hk;split at hm
 ·obtain⟨y,hy,rfl⟩:=List.mem_map.1 hm;have:=nextP_in f k y hy;exact⟨y.toNat,by dsimp only;omega,oz,hk⟩
 ·simp at hm
/-- those that lead to v, of some edges -/
def fromL (pre:List (Nat×Int)) (v:Nat):List Int:=(pre.filter (fun x=>x.2==(v:Int))).map (fun x=>(x.1:Int))
theorem fromL_snoc (pre:List (Nat×Int)) (u v:Nat) (k:Nat):fromL (pre++[(u,(v:Int))]) k=if k=v then fromL pre k++[(u:Int)]else fromL pre k:=by
 unfold fromL;rw[List.filter_append];by_cases h:k=v
 ·subst h;simp
 ·have hb:(((u,(v:Int)):Nat×Int).2==(k:Int))=false:=by simp;omega
  rw[if_neg h,List.filter_cons,hb];simp
theorem fromL_mem (f:PFunc) (v:Nat) (x:Int):x∈fromL (edgesL f) v↔∃ u:Nat,x=u/\u<f.code.length/\EdgeP f u v:=by
 unfold fromL;simp only[List.mem_map,List.mem_filter,beq_iff_eq];constructor
 ·rintro⟨⟨u,y⟩,⟨h1,h2⟩,rfl⟩;dsimp only at *;subst h2;exact⟨u,rfl,(edges_mem f u v).1 h1⟩
 ·rintro⟨u,rfl,h⟩;exact⟨(u,(v:Int)),⟨(edges_mem f u v).2 h,rfl⟩,rfl⟩
theorem edgesTo_len (f:PFunc) (k:Nat):(edgesTo f k).length<=2*k:=by
 induction k with
 | zero=>simp[edgesTo]
 | succ k ih =>
  rw[edgesTo_succ,List.length_append];have:=nextP_len f k;split
  ·rw[List.length_map];omega
  ·simp;omega
theorem edges_len (f:PFunc):(edgesL f).length<=2*f.code.length:=edgesTo_len f _
theorem fromL_len (pre:List (Nat×Int)) (v:Nat):(fromL pre v).length<=pre.length:=by
 unfold fromL;rw[List.length_map];exact List.length_filter_le _ _
/-- nearest dominators as they stand in a list -/
def nrOf (L:List Int):Nat->Int:=fun v=>L.getD v (-1)
theorem nrOf_set (L:List Int) (b:Nat) (d:Int) (h:b<L.length):nrOf (L.set b d)=upd (nrOf L) b d:=by
 funext v;unfold nrOf upd;dsimp only;rw[List.getD_eq_getElem?_getD,List.getD_eq_getElem?_getD];by_cases e:v=b
 ·subst e;rw[List.getElem?_set_self h,if_pos rfl];rfl
 ·rw[List.getElem?_set_ne (by omega),if_neg e]
theorem nrOf_some (L:List Int) (v:Nat) (h:v<L.length):L[v]? = some (nrOf L v):=by
 unfold nrOf;rw[List.getD_eq_getElem?_getD,List.getElem?_eq_getElem h];rfl
theorem nrOf_same (L:List Int) (b:Nat) (h:b<L.length):upd (nrOf L) b (nrOf L b)=nrOf L:=by
 funext v;unfold upd;split
 ·next e=>rw[e]
 ·rfl
/-- ranks, as far as they are told -/
def rankTo (n:Nat) (l:List Nat) (k:Nat):List Int:=(List.range n).map fun v=>if v∈l.take k then(l.idxOf v:Int)else 0
theorem rankTo_len (n:Nat) (l:List Nat) (k:Nat):(rankTo n l k).length=n:=by simp[rankTo]
theorem rankTo_zero (n:Nat) (l:List Nat):rankTo n l 0=List.replicate n 0:=by
 apply List.ext_getElem
 ·simp[rankTo]
 ·intro i h1 h2;simp[rankTo]
theorem idxOf_at (l:List Nat) (hn:l.Nodup) (k:Nat) (hk:k<l.length):l.idxOf l[k]=k:=by
 have h1:=List.idxOf_lt_length_of_mem (List.getElem_mem hk);have h2:l[l.idxOf l[k]]=l[k]:=List.getElem_idxOf h1;have hp:=List.pairwise_iff_getElem.1 hn;rcases Nat.lt_trichotomy (l.idxOf l[k]) k with h|h|h
 ·exact absurd h2 (hp _ _ h1 hk h)
 ·exact h
 ·exact absurd h2.symm (hp _ _ hk h1 h)
theorem rankTo_succ (n:Nat) (l:List Nat) (hn:l.Nodup) (k:Nat) (hk:k<l.length) (hl:l[k]<n):(rankTo n l k).set l[k] (k:Int)=rankTo n l (k+1):=by
 apply List.ext_getElem
 ·simp[rankTo]
 ·intro i h1 h2;have hi:i<n:=by simpa[rankTo]using h2
  rw[List.getElem_set];have e1:(rankTo n l (k+1))[i]=if i∈l.take (k+1)then(l.idxOf i:Int)else 0:=by simp[rankTo]
  have e2:(rankTo n l k)[i]'(by rw[rankTo_len];exact hi)=if i∈l.take k then(l.idxOf i:Int)else 0:=by simp[rankTo]
  have e3:l.take (k+1)=l.take k++[l[k]]:=by rw[List.take_add_one,List.getElem?_eq_getElem hk];rfl
  rw[e1,e3];by_cases h:l[k]=i
  ·rw[if_pos h,if_pos (by simp[h])];have:=idxOf_at l hn k hk;rw[h]at this;rw[this]
  ·rw[if_neg h,e2];have:(i∈l.take k++[l[k]])↔i∈l.take k:=by
    simp only[List.mem_append,List.mem_cons,List.not_mem_nil,or_false];constructor
    ·rintro(h'|h')
     ·exact h'
     ·exact absurd h'.symm h
    ·exact .inl
   simp only[this]
theorem rankTo_full (n:Nat) (l:List Nat) (v:Nat) (hv:v∈l) (hn:v<n):(rankTo n l l.length)[v]? = some (l.idxOf v:Int):=by
 simp[rankTo,hn,hv]
theorem grf_of {f:PFunc}{l:List Nat}(h:OrderOk f l) (h0:0<f.code.length):Grf (EdgeP f) (Rch f) l.idxOf:=by
 refine⟨.zero,?_,fun u v hE=>⟨hE.1,.step u v hE.1 hE.2⟩,fun u v hu hv e=>?_,fun v hv hz=>?_⟩
 ·have:=h.head;cases l with
  | nil=>simp at this
  | cons a t=>simp at this;subst this;simp
 ·have h1:=List.idxOf_lt_length_of_mem ((h.mem u).2 hu);have h2:=List.idxOf_lt_length_of_mem ((h.mem v).2 hv);rw[<-List.getElem_idxOf h1,<-List.getElem_idxOf h2];congr 1
 ·obtain⟨p,q,e⟩:=List.append_of_mem ((h.mem v).2 hv);obtain⟨u,hu,hp⟩:=h.pred p v q e hz;have hnd:=h.nodup;rw[e]at hnd;have hvp:v∉p:=fun k=>by
   have:=(List.nodup_append.1 hnd).2.2 v k v si;exact this rfl
  have e1:l.idxOf v=p.length:=by rw[e,List.idxOf_append,if_neg hvp];simp
  have e2:l.idxOf u<p.length:=by rw[e,List.idxOf_append,if_pos hp];exact List.idxOf_lt_length_of_mem hp
  exact⟨u,⟨(h.mem u).1 (by rw[e];simp[hp]),hu⟩,oz⟩
/-- what is left to be lowered -/
def msr (n:Nat) (rk:Nat->Nat) (L:List Int):Nat:=(L.map fun x=>if x<0 then n else rk x.toNat).sum
theorem sum_set (g:Int->Nat) (L:List Int) (b:Nat) (d:Int) (h:b<L.length) (hd:g d<g (L.getD b (-1))):((L.set b d).map g).sum<(L.map g).sum:=by
 induction L generalizing b with
 | nil=>simp at h
 | cons x L ih =>
  cases b with
  | zero=>simp at hd ⊢;omega
  | succ b =>
   simp only[List.length_cons]at h;have:=ih b oz (by simpa using hd);simp only[List.set_cons_succ,List.map_cons,List.sum_cons];omega
theorem msr_set {n:Nat}{rk:Nat->Nat}{L:List Int}{b d:Nat}(hb:b<L.length) (hd:rk d<n) (h:nrOf L b<0\/∃ y:Nat,nrOf L b=y/\rk d<rk y):msr n rk (L.set b (d:Int))<msr n rk L:=by
 refine sum_set _ L b d hb ?_;unfold nrOf at h;rw[if_neg (by omega),Int.toNat_natCast];rcases h with h|⟨y,h,hr⟩
 ·rw[if_pos h];exact hd
 ·rw[h,if_neg (by omega),Int.toNat_natCast];exact hr
theorem len_below:∀ (n:Nat) (l:List Nat),l.Nodup->(∀ x∈l,x<n)->l.length<=n:=by
 intro n
 induction n with
 | zero=>intro l _ h;cases l with
  | nil=>simp
  | cons a t=>exact absurd (h a si) oz
 | succ n ih =>
  intro l hn h;have h1:=ih (l.erase n) (hn.erase n) (fun x hx=>by
   have h2:=(hn.mem_erase_iff).1 hx;have:=h x h2.2;have:=h2.1;omega)
  rw[List.length_erase]at h1;split at h1<;>omega
theorem order_len2 {f:PFunc}{l:List Nat}(h:OrderOk f l) (h0:0<f.code.length):l.length<=f.code.length :=
 len_below _ _ h.nodup (fun v hv=>Rch.lt h0 ((h.mem v).1 hv))
/-- what stands in a sweep behind i of those that are gone over -/
structure Swp (f:PFunc) (l:List Nat) (m i:Nat) (c:Bool) (L:List Int):Prop where
 len:L.length=f.code.length
 inv:NInv (EdgeP f) (Rch f) l.idxOf (nrOf L) (i+1)
 ms:c=true->msr f.code.length l.idxOf L<m
 me:c=false->msr f.code.length l.idxOf L=m
 qt:c=false->∀ v,Rch f v->v≠0->l.idxOf v<i+1->∀ u x,EdgeP f u v->0<=nrOf L u->Ch (nrOf L) (nrOf L v).toNat x->Ch (nrOf L) u x
section
variable {f : PFunc} {l : List Nat} {m i : Nat} {c : Bool} {L : List Int}
theorem Swp.start (ho:OrderOk f l) (h0:0<f.code.length) (hl:L.length=f.code.length) (h:NInv (EdgeP f) (Rch f) l.idxOf (nrOf L) 1):Swp f l (msr f.code.length l.idxOf L) 0 false L :=
 ⟨hl,h,si,fun _=>rfl,fun _ v hv hz hr=>by
  have g:=grf_of ho h0;have:v=0:=g.inj v 0 hv .zero (by rw[g.z];omega);exact absurd this hz⟩
/-- the vertex that is gone over -/
theorem order_at (ho:OrderOk f l) (h0:0<f.code.length) (hi:i+1<l.length):Rch f l[i+1]/\l.idxOf l[i+1]=i+1/\l[i+1]≠0/\l[i+1]<f.code.length:=by
 have h1:=(ho.mem _).1 (List.getElem_mem hi);have h2:=idxOf_at l ho.nodup (i+1) hi;refine⟨h1,h2,fun e=>?_,Rch.lt h0 h1⟩;have g:=grf_of ho h0;rw[e,g.z]at h2;omega
theorem Swp.stp (s:Swp f l m i c L) (ho:OrderOk f l) (h0:0<f.code.length) (hi:i+1<l.length) {d:Int}(hd:MeetOf (nrOf L) (fromL (edgesL f) l[i+1]) d) :
 ∃ dn:Nat,d=dn/\Stp (EdgeP f) (Rch f) l.idxOf (nrOf L) (i+1) l[i+1] dn:=by
 have g:=grf_of ho h0;obtain⟨h1,h2,h3,h4⟩:=order_at ho h0 hi;have hmem:∀ u,EdgeP f u l[i+1]↔(u:Int)∈fromL (edgesL f) l[i+1]:=by
  intro u;rw[fromL_mem];constructor
  ·intro he;exact⟨u,rfl,Rch.lt h0 he.1,he⟩
  ·rintro⟨u',e,_,he⟩;have:u=u':=oz
   subst this;exact he
 rcases hd with⟨_,hno⟩|⟨dn,e,hdn,hm⟩
 ·obtain⟨u,he,hr⟩:=g.pred _ h1 h3;have:=s.inv.dn u he.1 oz;have:=hno u ((hmem u).1 he);rw[Int.toNat_natCast]at this;omega
 ·refine⟨dn,e,s.inv,g,h1,h2,h3,hdn,fun x=>(hm x).trans ⟨fun k u he hu=>?_,fun k u hu hd=>?_⟩⟩
  ·have:=k u ((hmem u).1 he) (by rw[Int.toNat_natCast];exact hu)
   rwa [Int.toNat_natCast]at this
  ·obtain⟨u',e2,_,he⟩:=(fromL_mem f _ u).1 hu;subst e2;rw[Int.toNat_natCast]at hd ⊢;exact k u' he hd
theorem Swp.same (s:Swp f l m i c L) (ho:OrderOk f l) (h0:0<f.code.length) (hi:i+1<l.length) {d:Int}(hd:MeetOf (nrOf L) (fromL (edgesL f) l[i+1]) d) (he:nrOf L l[i+1]=d):Swp f l m (i+1) c L:=by
 obtain⟨dn,rfl,st⟩:=s.stp ho h0 hi hd;obtain⟨h1,h2,h3,h4⟩:=order_at ho h0 hi;have hn:=st.next;rw[<-he,nrOf_same L _ (by rw[s.len];exact h4)]at hn;refine⟨s.len,hn,s.ms,s.me,fun hc v hv hz hr u x hE hu hx=>?_⟩;by_cases e:l.idxOf v=i+1
 ·have:v=l[i+1]:=st.g.inj v _ hv h1 oz;subst this;rw[he,Int.toNat_natCast]at hx;exact(st.m x).1 hx u hE hu
 ·exact s.qt hc v hv hz oz u x hE hu hx
theorem Swp.chg (s:Swp f l m i c L) (ho:OrderOk f l) (h0:0<f.code.length) (hi:i+1<l.length) {d:Int}(hd:MeetOf (nrOf L) (fromL (edgesL f) l[i+1]) d) (he:nrOf L l[i+1]≠d):Swp f l m (i+1) true (L.set l[i+1] d):=by
 obtain⟨dn,rfl,st⟩:=s.stp ho h0 hi hd;obtain⟨h1,h2,h3,h4⟩:=order_at ho h0 hi;have hb:l[i+1]<L.length:=by rw[s.len];exact h4
 have hn:=st.next;rw[<-nrOf_set L _ _ hb]at hn;refine⟨by rw[List.length_set];exact s.len,hn,fun _=>?_,si,si⟩;have hlt:msr f.code.length l.idxOf (L.set l[i+1] (dn:Int))<msr f.code.length l.idxOf L:=by
  refine msr_set hb ?_ ?_
  ·have:=st.rkd;have:=order_len2 ho h0;omega
  ·by_cases hneg:nrOf L l[i+1]<0
   ·exact .inl hneg
   ·refine .inr ⟨(nrOf L l[i+1]).toNat,oz,st.lower (y:=(nrOf L l[i+1]).toNat) oz oz⟩
 cases c with
 | false=>rw[<-s.me rfl];exact hlt
 | true=>have:=s.ms rfl;omega
/-- what dom.Tree tells -/
structure TreeOk (f:PFunc) (near:List Int) (nr:Nat->Int) (rk:Nat->Nat):Prop where
 len:near.length=f.code.length
 z:near[0]? = some (-1)
 at_:∀ v,0<v->v<f.code.length->near[v]? = some (nr v)
 nz:nr 0=0
 up:∀ v u:Nat,v≠0->nr v=(u:Int)->Rch f v/\Rch f u/\rk u<rk v
 dn:∀ v,Rch f v->0<=nr v
 dom:∀ v x,Rch f v->(Ch nr v x↔¬(x≠0/\Wx (EdgeP f) x 0 v))
theorem Swp.fin (s:Swp f l m i false L) (ho:OrderOk f l) (h0:0<f.code.length) (hi:¬i+1<l.length):TreeOk f (L.set 0 (-1)) (nrOf L) l.idxOf:=by
 have g:=grf_of ho h0;have hp:∀ v,Rch f v->l.idxOf v<i+1:=fun v hv=>by
  have:=List.idxOf_lt_length_of_mem ((ho.mem v).2 hv);omega
 refine⟨by rw[List.length_set];exact s.len,by rw[List.getElem?_set_self (by rw[s.len];exact h0)],fun v hv hl=>?_,s.inv.z,fun v u hv he=>?_,fun v hv=>s.inv.dn v hv (hp v hv),fun v x hv=>?_⟩
 ·rw[List.getElem?_set_ne (by omega)];exact nrOf_some L v (by rw[s.len];exact hl)
 ·have:=s.inv.tr v u hv he;exact⟨this.1,this.2.1,this.2.2.2⟩
 ·exact s.inv.dom g hp (fun v hv hz u x hE hx=>s.qt rfl v hv hz (hp v hv) u x hE (s.inv.dn u hE.1 (hp u hE.1)) hx) hv
theorem Swp.more (s:Swp f l m i true L) (ho:OrderOk f l) (hi:¬i+1<l.length):NInv (EdgeP f) (Rch f) l.idxOf (nrOf L) 1/\msr f.code.length l.idxOf L<m :=
 ⟨s.inv.again fun v hv=>by have:=List.idxOf_lt_length_of_mem ((ho.mem v).2 hv);omega,s.ms rfl⟩
theorem nrOf_first (n:Nat) (h:0<n):nrOf ((List.replicate n (-1)).set 0 0)=upd (fun _ => -1) 0 0:=by
 rw[nrOf_set _ _ _ (by simpa using h)];congr 1;funext v;unfold nrOf;rw[List.getD_eq_getElem?_getD,List.getElem?_replicate];split<;>rfl
end
end
section
theorem Nums_set (l:List Int) (i:Nat) (d:Int):(Nums l).set i (.int .i64 d)=Nums (l.set i d):=by simp[Nums]
theorem madeNums (n:Nat):madeCells #[.int .i64 0] n=(Nums (List.replicate n 0)).toArray:=by
 apply Array.ext
 ·simp[madeCells,Nums]
 ·intro i h1 h2;simp[madeCells,Nums,Nat.mod_one]
theorem madeNils (n:Nat):madeCells #[.slice none 0 0] n=(List.replicate n (Value.slice none 0 0)).toArray:=by
 apply Array.ext
 ·simp[madeCells]
 ·intro i h1 h2;simp[madeCells,Nat.mod_one]
theorem Tryz.infoS:(Tryz.prog.info? 50).map (fun i=>(i.zero,i.size,i.bytes))=some (some (.slice none 0 0),1,24):=kr
/-- an own row of own rows of numbers -/
structure FromAt (W:World) (lo fb n:Nat) (G:Nat->List Int) (S:List Value):Prop where
 row:W.ownsRow 0 50 1 (.slice (some ⟨fb,0,none⟩) n n) n S
 len:S.length=n
 each:∀ v s,S[v]? = some s->W.ownsRow 0 3 1 s (G v).length (Nums (G v))
 low:∀ (v:Nat) s k,S[v]? = some s->s.ownBlock=some k->lo<=k
 lf:fb<lo
 dis:∀ (u v:Nat) s t k,S[u]? = some s->S[v]? = some t->s.ownBlock=some k->t.ownBlock=some k->u=v
/-- the blocks of such rows -/
def OwnF (fb n:Nat) (W:World) (k:Nat):Prop:=k=fb\/∃ v l c,v<n/\W.cell? ⟨fb,v,none⟩=some (.slice (some ⟨k,0,none⟩) l c)
section
variable {W : World} {lo fb n : Nat} {G : Nat -> List Int} {S : List Value}
theorem FromAt.at (h:FromAt W lo fb n G S) {v:Nat}(hv:v<n):∃ s,S[v]? = some s:=⟨S[v]'(by rw[h.len];exact hv),List.getElem?_eq_getElem _⟩
theorem FromAt.cell (h:FromAt W lo fb n G S) {v:Nat}{s:Value}(hs:S[v]? = some s):W.cell? ⟨fb,v,none⟩=some s:=row_cell h.row hs
theorem FromAt.form (h:FromAt W lo fb n G S) {v:Nat}{s:Value}(hs:S[v]? = some s):∃ a c,s=.slice a (G v).length c:=by
 rcases row_form (h.each v _ hs)with⟨h1,h2,_⟩|⟨g,c,h1,_⟩
 ·exact⟨none,0,by rw[h1,h2]⟩
 ·exact⟨_,c,h1⟩
theorem FromAt.ofOwn (h:FromAt W lo fb n G S) {k:Nat}(hk:OwnF fb n W k):k=fb\/∃ (v:Nat) (s:Value),S[v]? = some s/\s.ownBlock=some k:=by
 rcases hk with hk|⟨v,l,c,hv,hk⟩
 ·exact .inl hk
 ·obtain⟨s,e⟩:=h.at hv;have:=h.cell e;rw[hk]at this;injection this with this;subst this;exact .inr ⟨v,_,e,rfl⟩
theorem FromAt.toOwn (h:FromAt W lo fb n G S) {k v:Nat}{s:Value}(hs:S[v]? = some s) (hk:s.ownBlock=some k):OwnF fb n W k:=by
 have hv:v<n:=by have:=(List.getElem?_eq_some_iff.1 hs).1;rw[h.len]at this;exact this
 rcases row_form (h.each v s hs)with⟨h1,h2,_⟩|⟨g,c,h1,_⟩
 ·rw[h1]at hk;cases hk
 ·rw[h1]at hk;injection hk with hk;subst hk;exact .inr ⟨v,_,c,hv,by rw[h.cell hs,h1]⟩
theorem FromAt.ownLt (h:FromAt W lo fb n G S) {k:Nat}(hk:OwnF fb n W k):k<W.heap.size:=by
 rcases h.ofOwn hk with rfl|⟨v,s,hs,hk⟩
 ·exact row_ltB h.row
 ·exact row_lt (h.each v s hs) hk
theorem FromAt.ownGe (h:FromAt W lo fb n G S) {k:Nat}(hk:OwnF fb n W k):k=fb\/lo<=k:=by
 rcases h.ofOwn hk with rfl|⟨v,s,hs,hk⟩
 ·exact .inl rfl
 ·exact .inr (h.low v s k hs hk)
/-- as long as the blocks stay -/
theorem FromAt.chg {T:Nat->Prop}{W':World}(h:FromAt W lo fb n G S) (hc:Chg T W W') (hT:∀ k,OwnF fb n W k->¬T k):FromAt W' lo fb n G S :=
 ⟨row_chg hc h.row (fun k hk=>hT k (.inl (by simpa[Value.ownBlock,eq_comm]using hk))),h.len,fun v s hs=>row_chg hc (h.each v s hs) (fun k hk=>hT k (h.toOwn hs hk)),h.low,h.lf,h.dis⟩
theorem FromAt.below {W':World}(h:FromAt W lo fb n G S) (hc:Below W.heap.size W W'):FromAt W' lo fb n G S:=h.chg (T:=fun _=>False) (Chg.of hc) (fun _ _ h=>h)
theorem FromAt.chgLow {T:Nat->Prop}{W':World}(h:FromAt W lo fb n G S) (hc:Chg T W W') (hT:∀ k,T k->k<lo) (hf:¬T fb):FromAt W' lo fb n G S :=
 h.chg hc (fun k hk ht=>by
  rcases h.ownGe hk with rfl|h2
  ·exact hf ht
  ·have:=hT k ht;omega)
/-- a number more in one of the rows -/
theorem FromAt.push {W':World}{v:Nat}{s s':Value}{x:Int}(h:FromAt W lo fb n G S) (hs:S[v]? = some s) (hc:Chg (fun k=>s.ownBlock=some k) W W')
 (hr:W'.ownsRow 0 3 1 s' ((G v).length+1) (Nums (G v)++Nums [x])) (hb:∀ k,s'.ownBlock=some k->s.ownBlock=some k\/W.heap.size<=k) (hlo:lo<=W.heap.size) :
 FromAt (W'.setCell ⟨fb,v,none⟩ s') lo fb n (fun k=>if k=v then G v++[x]else G k) (S.set v s')/\KpE (OwnF fb n) W (W'.setCell ⟨fb,v,none⟩ s'):=by
 have hvl:v<S.length:=(List.getElem?_eq_some_iff.1 hs).1;have hself:(S.set v s')[v]? = some s':=List.getElem?_set_self hvl;have hoth:∀ u,u≠v->(S.set v s')[u]? = S[u]? := fun u hu=>List.getElem?_set_ne oz;have hfs:¬s.ownBlock=some fb:=fun e=>by have:=h.low v s fb hs e;have:=h.lf;omega
 have hfr:=row_ltB h.row;have hrow:=row_chg hc h.row (fun k hk=>by have:fb=k:=ob1 hk;subst this;exact hfs);have hst:Chg (· = fb) W' (W'.setCell ⟨fb,v,none⟩ s'):=Chg.setCell (S:=(· = fb)) (Chg.refl _ _) (p:=⟨fb,v,none⟩) (Or.inl rfl) _;have hb':∀ k,s'.ownBlock=some k->k≠fb:=fun k hk e=>by
  subst e;rcases hb _ hk with h1|h1
  ·exact hfs h1
  ·omega
 have hlow:∀ (u:Nat) (t:Value) k,(S.set v s')[u]? = some t->t.ownBlock=some k->lo<=k:=by
  intro u t k hu hk;by_cases e:u=v
  ·subst e;rw[hself]at hu;cases hu;rcases hb k hk with h1|h1
   ·exact h.low u s k hs h1
   ·omega
  ·rw[hoth u e]at hu;exact h.low u t k hu hk
 have hdis1:∀ (u:Nat) (t:Value) k,u≠v->S[u]? = some t->t.ownBlock=some k->¬s.ownBlock=some k:=fun u t k hu ht hk e=>hu (h.dis u v t s k ht hs hk e);have hF:FromAt (W'.setCell ⟨fb,v,none⟩ s') lo fb n (fun k=>if k=v then G v++[x]else G k) (S.set v s'):=by
  refine⟨row_set hrow v s',by rw[List.length_set];exact h.len,?_,hlow,h.lf,?_⟩
  ·intro u t hu;by_cases e:u=v
   ·subst e;rw[hself]at hu;cases hu;rw[if_pos rfl,List.length_append,Nums_append];exact row_chg hst hr (fun k hk e=>hb' k hk e)
   ·rw[hoth u e]at hu;rw[if_neg e];exact row_chg hst (row_chg hc (h.each u t hu) (fun k hk=>hdis1 u t k e hu hk)) (fun k hk e2=>by have:=h.low u t k hu hk;have:=h.lf;omega)
  ·intro u1 u2 t1 t2 k h1 h2 k1 k2;by_cases e1:u1=v
   ·by_cases e2:u2=v
    ·omega
    ·subst e1;rw[hself]at h1;cases h1;rw[hoth u2 e2]at h2;rcases hb k k1 with h3|h3
     ·exact absurd h3 (hdis1 u2 t2 k e2 h2 k2)
     ·have:=row_lt (h.each u2 t2 h2) k2;omega
   ·rw[hoth u1 e1]at h1;by_cases e2:u2=v
    ·subst e2;rw[hself]at h2;cases h2;rcases hb k k2 with h3|h3
     ·exact absurd h3 (hdis1 u1 t1 k e1 h1 k1)
     ·have:=row_lt (h.each u1 t1 h1) k1;omega
    ·rw[hoth u2 e2]at h2;exact h.dis u1 u2 t1 t2 k h1 h2 k1 k2
 refine⟨hF,?_,?_⟩
 ·refine Chg.trans2 (hc.mono fun k _ hk=>h.toOwn hs hk) hst ?_;intro k _ e;exact .inl e
 ·intro k hk;rcases hF.ofOwn hk with rfl|⟨u,t,hu,hk⟩
  ·exact .inl (.inl rfl)
  ·by_cases e:u=v
   ·subst e;rw[hself]at hu;cases hu;rcases hb k hk with h1|h1
    ·exact .inl (h.toOwn hs h1)
    ·exact .inr oz
   ·rw[hoth u e]at hu;exact .inl (h.toOwn hu hk)
end
theorem row_turn {b:Nat}{W W':World}(c:Turn b W W') {e size n:Nat}{v:Value}{xs:List Value}(h:W.ownsRow 0 e size v n xs):W'.ownsRow 0 e size v n xs:=by
 obtain⟨h1,h2⟩:=h;refine⟨h1,?_⟩;rcases h2 with h2|⟨g,cap,cur,rfl,hb,hh,rest⟩
 ·exact .inl h2
 ·exact .inr ⟨g,cap,cur,rfl,hb,by rw[c.cellsAt hh];exact hh,rest⟩
theorem Own.turn {b:Nat}{W W':World}(c:Turn b W W') {k:Nat}{cs:List Value}(o:Own W k cs) (hk:k<b):Own W' k cs :=
 (Chg.mk (S:=fun q=>b<=q) c.os c.tape c.output (Nat.le_of_eq c.size.symm) (fun q _ hq=>c.block q (.inl oz))).own o oz
theorem FromAt.turn {b:Nat}{W W':World}{lo fb n:Nat}{G:Nat->List Int}{S:List Value}(c:Turn b W W') (h:FromAt W lo fb n G S):FromAt W' lo fb n G S :=
 ⟨row_turn c h.row,h.len,fun v s hs=>row_turn c (h.each v s hs),h.low,h.lf,h.dis⟩
theorem OwnF.iff {fb n k:Nat}{W W':World}(h:W'.heap[fb]? = W.heap[fb]?):OwnF fb n W' k↔OwnF fb n W k:=by
 unfold OwnF;have e:∀ v,W'.cell? ⟨fb,v,none⟩=W.cell? ⟨fb,v,none⟩:=fun v=>World.cell?_of_block h;simp only[e]
/-- what dom.Tree holds -/
structure TMem (n:Nat) (w W:World) (fb lb lc:Nat) (K L l:List Int) (G:Nat->List Int) (S:List Value):Prop where
 bel:Below w.heap.size w W
 sz:fb+3<=W.heap.size
 fr:FromAt W (fb+5) fb n G S
 rank:W.ownsRow 0 3 1 (.slice (some ⟨w.heap.size+1,0,none⟩) n n) n (Nums K)
 near:W.ownsRow 0 3 1 (.slice (some ⟨w.heap.size+1+1,0,none⟩) n n) n (Nums L)
 lrow:W.ownsRow 0 3 1 (.slice (some ⟨lb,0,none⟩) l.length lc) l.length (Nums l)
 box:Own W (fb+1) [.slice (some ⟨fb,0,none⟩) n n]
 l1:w.heap.size+3<=lb
 l2:lb<fb
section
variable {n : Nat} {w W W' : World} {fb lb lc : Nat} {K L l : List Int} {G : Nat -> List Int} {S : List Value}
theorem TMem.below (h:TMem n w W fb lb lc K L l G S) (hb:Below W.heap.size W W'):TMem n w W' fb lb lc K L l G S :=
 ⟨h.bel.trans (hb.mono h.bel.size),Nat.le_trans h.sz hb.size,h.fr.below hb,row_below hb h.rank,row_below hb h.near,row_below hb h.lrow,h.box.below hb,h.l1,h.l2⟩
theorem TMem.turn (h:TMem n w W fb lb lc K L l G S) (c:Turn (fb+3) W W'):TMem n w W' fb lb lc K L l G S :=
 ⟨h.bel.trans (c.below.mono (by have:=h.l1;have:=h.l2;omega)),by rw[c.size];exact h.sz,h.fr.turn c,row_turn c h.rank,row_turn c h.near,row_turn c h.lrow,h.box.turn c oz,h.l1,h.l2⟩
theorem TMem.push (h:TMem n w W fb lb lc K L l G S) (hsz:fb+5<=W.heap.size) {v:Nat}{s s':Value}{x:Int}(hs:S[v]? = some s) (hc:Chg (fun k=>s.ownBlock=some k) W W')
 (hr:W'.ownsRow 0 3 1 s' ((G v).length+1) (Nums (G v)++Nums [x])) (hb:∀ k,s'.ownBlock=some k->s.ownBlock=some k\/W.heap.size<=k) :
 TMem n w (W'.setCell ⟨fb,v,none⟩ s') fb lb lc K L l (fun k=>if k=v then G v++[x]else G k) (S.set v s')/\KpE (OwnF fb n) W (W'.setCell ⟨fb,v,none⟩ s'):=by
 obtain⟨h1,h2⟩:=h.fr.push hs hc hr hb hsz;have hn:∀ k,k<fb+5->k≠fb->¬OwnF fb n W k:=fun k hk hne ho=>by
  rcases h.fr.ownGe ho with e|e
  ·exact hne e
  ·omega
 have l1:=h.l1;have l2:=h.l2;refine⟨⟨h.bel.trans (h2.1.below _ h.bel.size (fun k hk=>hn k oz oz)),Nat.le_trans h.sz h2.1.size,h1,?_,?_,?_,h2.1.own h.box (hn _ oz oz),h.l1,h.l2⟩,h2⟩
 ·exact row_chg h2.1 h.rank (fun k hk=>hn k (by have:w.heap.size+1=k:=ob1 hk;omega) (by have:w.heap.size+1=k:=ob1 hk;omega))
 ·exact row_chg h2.1 h.near (fun k hk=>hn k (by have:w.heap.size+1+1=k:=ob1 hk;omega) (by have:w.heap.size+1+1=k:=ob1 hk;omega))
 ·exact row_chg h2.1 h.lrow (fun k hk=>hn k (by have:lb=k:=ob1 hk;omega) (by have:lb=k:=ob1 hk;omega))
theorem TMem.setNear (h:TMem n w W fb lb lc K L l G S) (v:Nat) (d:Int):TMem n w (W.setCell ⟨w.heap.size+1+1,v,none⟩ (.int .i64 d)) fb lb lc K (L.set v d) l G S:=by
 have hst:Chg (· = w.heap.size+1+1) W (W.setCell ⟨w.heap.size+1+1,v,none⟩ (.int .i64 d)):=Chg.setCell (S:=(· = w.heap.size+1+1)) (Chg.refl _ _) (p:=⟨w.heap.size+1+1,v,none⟩) (Or.inl rfl) _;have l1:=h.l1;have l2:=h.l2;have hN:=row_set h.near v (.int .i64 d);rw[Nums_set]at hN;exact⟨h.bel.trans (hst.below _ h.bel.size (fun k hk e=>by omega)),Nat.le_trans h.sz hst.size,h.fr.chgLow hst (fun k e=>by omega) oz,
  row_chg hst h.rank (fun k hk e=>by have:w.heap.size+1=k:=ob1 hk;omega),hN,
  row_chg hst h.lrow (fun k hk e=>by have:lb=k:=ob1 hk;omega),hst.own h.box oz,h.l1,h.l2⟩
theorem TMem.drew (h:TMem n w W fb lb lc K L l G S):TMem n w W.drew fb lb lc K L l G S:=h.below ((Below.refl _ _).drew)
end
end
end Go.Proofs.YteebpnbdihcfmaaGreatDoor
