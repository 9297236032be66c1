/- loops; loops; Loops in memory of one's own; The parents of loops, set one after the other, in plain word; Regions that draw their order, gone through by hand; Regions that draw their order -/
import Derived.Test.YteebpnbdihcfmaaGreatDoorJ09
import Derived.Test.YteebpnbdihcfmaaGreatDoorJ08
import Derived.Test.YteebpnbdihcfmaaGreatDoorJ07
import Derived.Test.YteebpnbdihcfmaaGreatDoorJ01
set_option linter.unusedVariables false
set_option linter.unusedSimpArgs false
set_option maxRecDepth 100000
set_option maxHeartbeats 20000000
namespace Go.Proofs.YteebpnbdihcfmaaGreatDoor
open Go.RowKit
/-- a map of counts -/
def CntAt (W:World) (b q:Nat) (c:Nat->Nat):Prop:=∃ M,MapAt W b q M/\∀ v:Nat,v<1024->(M (v:Int)).getD (.int .i64 0)=.int .i64 (c v)
theorem Tryz.mapC:Tryz.prog.underlying 145=some (.map 3 3):=kr
theorem zeroI (w:World):(zeroValue 3).run Tryz.prog w=.ok (.int .i64 0) w:=kr
theorem CntAt.lt {W:World}{b q:Nat}{c:Nat->Nat}(h:CntAt W b q c):b<W.heap.size:=by obtain⟨M,h,_⟩:=h;exact h.lt
theorem CntAt.chg {W W':World}{b q:Nat}{c:Nat->Nat}{S:Nat->Prop}(h:CntAt W b q c) (hc:Chg S W W') (hs:¬S b):CntAt W' b q c:=by obtain⟨M,h1,h2⟩:=h;exact⟨M,h1.chg hc hs,h2⟩
theorem CntAt.below {W W':World}{b q:Nat}{c:Nat->Nat}(h:CntAt W b q c) (hc:Below W.heap.size W W'):CntAt W' b q c:=by obtain⟨M,h1,h2⟩:=h;exact⟨M,h1.below hc,h2⟩
theorem CntAt.cast {W:World}{b q:Nat}{c c':Nat->Nat}(h:CntAt W b q c) (e:∀ v:Nat,v<1024->c' v=c v):CntAt W b q c':=by obtain⟨M,h1,h2⟩:=h;exact⟨M,h1,fun v hv=>by rw[e v hv];exact h2 v hv⟩
theorem CntAt.get {W:World}{b q:Nat}{c:Nat->Nat}(h:CntAt W b q c) {v:Nat}(hv:v<1024):(Instr.lookup 145 (.map (some b)) (.int .i64 v) false).run Tryz.prog W=.ok (.int .i64 (c v)) W:=by
 obtain⟨M,h1,h2⟩:=h;rw[h1.get Tryz.mapC zeroI (inI_nat hv),h2 v hv]
theorem CntAt.put {W:World}{b q:Nat}{c:Nat->Nat}(h:CntAt W b q c) (hq:q<maxLen) {v:Nat}(hv:v<1024) (x:Nat):∃ W',(Instr.mapUpdate 145 (.map (some b)) (.int .i64 v) (.int .i64 x)).run Tryz.prog W=.ok () W'/\CntAt W' b (q+1) (fun k=>if k=v then x else c k)/\Chg (· = b) W W':=by
 obtain⟨M,h1,h2⟩:=h;obtain⟨W',hr,h3,hc⟩:=h1.set Tryz.mapC hq (inI_nat hv) (.int .i64 x);refine⟨W',hr,⟨_,h3,fun k hk=>?_⟩,hc⟩;unfold updM;by_cases e:k=v
 ·subst e;simp
 ·rw[if_neg (by omega)];dsimp only;rw[if_neg e];exact h2 k hk
def roundV:Option Nat->Value
 | some v=>.tuple #[.int .i64 v,.bool true]
 | none=>.tuple #[.int .i64 0,.bool false]
theorem cntA_le {A:Nat->List Int}(hA:∀ u,(A u).length<=4096) (rem:Nat->Bool) (v:Nat):cntA A rem v<=1024*4096:=by
 unfold cntA;refine sumN_le 1024 (fun k _=>?_);split
 ·omega
 ·exact Nat.le_trans (List.count_le_length) (hA k)
theorem cntA_congr {A:Nat->List Int}{r r':Nat->Bool}(h:∀ u,u<1024->r u=r' u\/A u=[]) (v:Nat):cntA A r v=cntA A r' v:=by
 unfold cntA;refine sumN_congr 1024 (fun k hk=>?_);rcases h k hk with h|h
 ·rw[h]
 ·rw[h];simp
theorem take_count {l:List Int}{j:Nat}(hj:j<l.length) (v:Int):(l.take (j+1)).count v=(l.take j).count v+if l.getD j 0=v then 1 else 0:=by
 have h:l.take (j+1)=l.take j++[l.getD j 0]:=by rw[List.take_add_one,List.getD_eq_getElem?_getD,List.getElem?_eq_getElem hj];rfl
 rw[h,List.count_append,List.count_singleton];congr 1;by_cases e:l.getD j 0=v<;>simp[e]
def leftC (left:Int->Bool):Nat:=sumN 1024 fun u=>if left (u:Int)then 1 else 0
theorem leftC_le (left:Int->Bool):leftC left<=1024:=by
 have:=sumN_le (f:=fun u=>if left (u:Int)then 1 else 0) (m:=1) 1024 (fun k _=>by split<;>omega);unfold leftC;omega
theorem leftC_step {left:Int->Bool}{a:Nat}(ha:a<1024) (h:left (a:Int)=true):leftC left=leftC (fun k=>left k&&decide (k≠(a:Int)))+1:=by
 unfold leftC;have:=sumN_upd (f:=fun u:Nat=>if left (u:Int)then 1 else 0) (g:=fun u:Nat=>if(left (u:Int)&&decide ((u:Int)≠(a:Int)))then 1 else 0) 1024 ha (fun k hk=>by
  have:(k:Int)≠(a:Int):=oz
  simp[this])
 simp only[h]at this;simp at this;simp;omega
noncomputable def rpB (f:PFunc) (v:Nat):Bool:=(reachP f).getD v false
theorem rpB_iff {f:PFunc}{v:Nat}(hv:v<f.code.length):rpB f v=true↔Rch f v:=by
 unfold rpB;rw[<-reachP_at f v hv,List.getD_eq_getElem?_getD,List.getElem?_eq_getElem (by rw[reachP_len];exact hv)];simp
def tdTo (Rp:Nat->Bool) (c:Nat->Nat) (k:Nat):List Int:=((List.range k).filter fun v=>Rp v&&decide (c v=0)).map Int.ofNat
theorem tdTo_succ (Rp:Nat->Bool) (c:Nat->Nat) (k:Nat):tdTo Rp c (k+1)=if Rp k=true/\c k=0 then tdTo Rp c k++[(k:Int)]else tdTo Rp c k:=by
 unfold tdTo;rw[List.range_succ,List.filter_append,List.map_append];by_cases h:Rp k=true/\c k=0
 ·rw[if_pos h];simp[h.1,h.2]
 ·rw[if_neg h];have:(Rp k&&decide (c k=0))=false:=by
   rw[Bool.eq_false_iff];intro e;simp at e;exact h e
  simp[this]
theorem tdTo_mem {Rp:Nat->Bool}{c:Nat->Nat}{k:Nat}{x:Int}:x∈tdTo Rp c k↔∃ v:Nat,x=v/\v<k/\Rp v=true/\c v=0:=by
 unfold tdTo;constructor
 ·intro h;obtain⟨v,hv,rfl⟩:=List.mem_map.1 h;obtain⟨h1,h2⟩:=List.mem_filter.1 hv;simp at h2;exact⟨v,rfl,List.mem_range.1 h1,h2.1,h2.2⟩
 ·rintro⟨v,rfl,h1,h2,h3⟩;exact List.mem_map.2 ⟨v,List.mem_filter.2 ⟨List.mem_range.2 h1,by simp[h2,h3]⟩,rfl⟩
theorem tdTo_nodup (Rp:Nat->Bool) (c:Nat->Nat) (k:Nat):(tdTo Rp c k).Nodup:=by
 unfold tdTo;have h:((List.range k).filter fun v=>Rp v&&decide (c v=0)).Nodup:=List.Nodup.sublist List.filter_sublist List.nodup_range;unfold List.Nodup at *;rw[List.pairwise_map];exact h.imp fun h e=>h (Int.ofNat.inj e)
theorem tdTo_len (Rp:Nat->Bool) (c:Nat->Nat) (k:Nat):(tdTo Rp c k).length<=k:=by
 unfold tdTo;rw[List.length_map];exact Nat.le_trans (List.length_filter_le _ _) si
theorem KInv.start {A:Nat->List Int}{n:Nat}{Rp:Nat->Bool}:KInv A n Rp (cntA A fun _=>false) (fun _=>false) (tdTo Rp (cntA A fun _=>false) n) [] :=
 ⟨fun v=>by simp,fun x hx=>by
  obtain⟨v,e,h1,h2,h3⟩:=tdTo_mem.1 hx;exact⟨v,e,h1,h2,rfl,h3⟩,tdTo_nodup _ _ _,fun v hv=>absurd hv si,fun v h1 h2 h3=>Or.inl (tdTo_mem.2 ⟨v,rfl,h1,h2,h3⟩)⟩
theorem nxG_eq (G:Nat->Nat->List Int) (c:Nat):nxG G c=fun i=>G c i.toNat:=rfl
theorem comes_zero {G:Nat->Nat->List Int}(hG:GBnd G) {v:Nat}(h:Acc (fun u x:Nat=>(x:Int)∈G 1 u/\u<1024) v):comesB G v=false:=by
 refine comesB_false ?_;rw[nxG_eq];exact acc_comes (A:=G 1) (fun u x hx=>⟨hG.ky 1 u x hx,hG.el 1 u x hx⟩) h
theorem comes_in {G:Nat->Nat->List Int}{v:Nat}(h:comesB G v=true):∃ u,(v:Int)∈G 1 u:=by
 have hc:=comesB_iff.1 h;cases hc with
 | start _ hx=>exact⟨v,hx⟩
 | step x _ h1 h2 h3=>exact⟨x.toNat,h3⟩
theorem KInv.none {G:Nat->Nat->List Int}{n:Nat}{Rp:Nat->Bool}{c:Nat->Nat}{rem:Nat->Bool}(h:KInv (G 1) n Rp c rem [] []) (hG:GBnd G) (hR:∀ u x,x∈G 1 u->∃ k:Nat,x=k/\k<n/\Rp k=true) (h0:leftN n Rp rem=0) (v:Nat):comesB G v=false:=by
 cases e:comesB G v with
 | false=>rfl
 | true =>
  obtain⟨u,hu⟩:=comes_in e;obtain⟨k,hk,hkn,hkr⟩:=hR u _ hu;have:v=k:=oz
  subst this;have h1:=sumN_zero n h0 v hkn;rw[hkr]at h1;have hr:rem v=true:=by
   cases hr:rem v with
   | true=>rfl
   | false=>rw[hr]at h1;simp at h1
  rw[comes_zero hG (h.r v hr).2.1]at e;cases e
theorem KInv.len {A:Nat->List Int}{n:Nat}{Rp:Nat->Bool}{c:Nat->Nat}{rem:Nat->Bool}{td rest:List Int}(h:KInv A n Rp c rem td rest):td.length<=n :=
 lenI_below h.nd (fun x hx=>by obtain⟨v,e,hv,_⟩:=h.t x hx;exact⟨v,e,hv⟩)
theorem round_any (lo b0 n B:Nat) (G:Nat->Nat->List Int) (S:Nat->Nat->Option Value) (hh:HF) (f:PFunc) (w:World) (hB:B<=w.heap.size) (hf:FuncOk B w hh f) (hn0:0<f.code.length) (hn:f.code.length<=1024) (hg:GraphAt w lo b0 n G S) (hG:GBnd G)
 (hE:∀ u x,x∈G 1 u->∃ k:Nat,x=k/\Rch f k) :
 Calls Tryz.prog 50 #[.agg #[.map (some b0),.map (some (b0+1)),.map (some (b0+2))],FuncVal hh f] w fun e w'=>e=.returned (roundV (firstI f.code.length (comesB G)))/\Below w.heap.size w w':=by
 have hmm:=@run_makeMap Tryz.prog;have HG:=qd hg;have HF:=qd hf;have HRc:=qd (fun w hB hf=>reach_any B hh f w hB hf hn0 hn);have HCm:=qd (fun w hg v hv=>comes_any lo b0 n G S w hg hG v hv);obtain⟨pa,pl,pc,ca,cl,cc⟩:=hh;obtain⟨h1,h2,⟨hcl,hcm,hcx⟩,h4,h5⟩:=hf;dsimp only at *;subst hcl;clear h2 hcm hcx h1 h4 h5 hg;unfold FuncVal at *;dsimp only at *;go_enter Tryz.func50,Tryz.ntmps50;go_upto_region 2 with(fail)
 generalize hW0:World.alloc _ _=W0;have hb0:Below w.heap.size w W0:=by rw[<-hW0];exact bel
 have hz0:W0.heap.size=w.heap.size+3:=by rw[<-hW0];simp
 have OB:Own W0 w.heap.size [.map (some b0),.map (some (b0+1)),.map (some (b0+2))]:=by rw[<-hW0];exact((Own.new _ _ _).alloc _).alloc _
 have OF:Own W0 (w.heap.size+1) [.string f.name,.slice pa pl pc,.int .i64 f.regs,.int .i64 f.words,.slice ca f.code.length cc]:=by rw[<-hW0];exact(Own.new' _ _ _ _ si).alloc _
 have OM:CntAt W0 (w.heap.size+1+1) 0 (fun _=>0):=by
  refine⟨fun _=>none,?_,fun v _=>rfl⟩;rw[<-hW0];exact MapAt.made' _ _ si
 clear hW0 hmm;have hg0:=HG.out.below hb0;have b3:=own3 OB;have hbig:∀ i,¬inI i->rowM (S 1) i=none:=fun i hi=>by
  unfold rowM;split
  ·refine HG.out.big 1 _ dc (fun h=>hi ?_);unfold inI;omega
  ·rfl
 obtain⟨W1,cnt,hrun,hR,hb1,hz1,hcq⟩:=(hg0.map 1 dc).range Tryz.mapS hbig;go_upto_region 3 with(fail)
 rw[hz0]at hR;have hHR:=qd hR;have hbw1:Below w.heap.size w W1:=hb0.trans (hb1.mono oz);have OB1:=qd (OB.below hb1);have OF1:=qd (OF.below hb1);have OM1:=qd (OM.below hb1);have hz1':w.heap.size+4<=W1.heap.size:=oz
 clear hR hrun hg0 b3 OB OF OM hb1 hb0 hcq;have hA:∀ u,(G 1 u).length<=4096:=hG.ln 1;have HGE:=qd hG;clear hG
 go_loopg [] cnt (fun k wr=>∃ (left:Int->Bool) (q:Nat),Hid (MapRange wr (b0+1) (w.heap.size+3) n (rowM (S 1)) left k)/\q+4096*leftC left<=4194304/\Hid (∀ i,left i=true->(rowM (S 1) i).isSome=true)/\Below w.heap.size w wr/\w.heap.size+4<=wr.heap.size/\Hid (Own wr w.heap.size [.map (some b0),.map (some (b0+1)),.map (some (b0+2))])/\Hid (Own wr (w.heap.size+1) [.string f.name,.slice pa pl pc,.int .i64 f.regs,.int .i64 f.words,.slice ca f.code.length cc])/\Hid (CntAt wr (w.heap.size+1+1) q (fun v=>cntA (G 1) (fun u=>left u) v)))
 case atStart =>
  refine⟨_,0,hHR,by have:=leftC_le (fun i=>(rowM (S 1) i).isSome);omega,qd (fun i h=>h),hbw1,hz1',OB1,OF1,qd (OM1.out.cast fun v _=>?_)⟩;unfold cntA;refine sumN_of_zero 1024 (fun k _=>?_);dsimp only;cases hs:S 1 k with
  | some s=>simp[rowM_nat,hs]
  | none =>
   have:G 1 k=[]:=by
    cases hgk:G 1 k with
    | nil=>rfl
    | cons x t=>have:=(HG.out.ent 1 k dc).2 (by rw[hgk];simp);rw[hs]at this;cases this
   rw[this];simp
 case round =>
  clear hHR hbw1 hz1' OB1 OF1 OM1 hz1 hz0;obtain⟨left,q,hR,hq,hsm,hbr,hzr,OB,OF,OM⟩:=hrel;rcases hR.out.next 0 with⟨hno,hrun⟩|⟨i,s,W2,c2,hi,hli,hMi,hrun,hR2,hlt2,hc2,hz2,hent⟩
  ·go_upto_region 12 with(fail)
   have hcong:∀ v,v<1024->cntA (G 1) (fun _=>false) v=cntA (G 1) (fun u=>left u) v:=fun v _=>cntA_congr (fun u _=>.inl (hno u).symm) v;have OM0:=qd (OM.out.cast (c':=cntA (G 1) (fun _=>false)) hcong);have hq0:q<=4194304:=oz
   obtain⟨W2,hW2⟩:∃ wo:World,wo=wr:=⟨_,rfl⟩
   rw[<-hW2]at hbr hzr OB OF OM0 ⊢;have hf5:=own5 OF.out;have HR2:=qd (HRc.out W2 (by have:=hbr.size;omega) (HF.out.same (Same.of hbr hB)));clear OM hR hrun hsm hcong hno hq hW2;have HC0:=qd (cntA_le hA (fun _=>false));have HKS:=qd (KInv.start (A:=G 1) (n:=f.code.length) (Rp:=rpB f));have hLE:leftN f.code.length (rpB f) (fun _=>false)<=1024:=by
    have:=sumN_le (f:=fun v=>if rpB f v && !(fun _:Nat=>false) v then 1 else 0) (m:=1) f.code.length (fun k _=>by split<;>omega);unfold leftN;omega
   have HL0:=qd (show leftN f.code.length (rpB f) (fun _=>false)=sumN f.code.length (fun v=>if rpB f v then 1 else 0) by unfold leftN;refine sumN_congr _ (fun k _=>?_);simp);generalize cntA (G 1) (fun _=>false)=c0 at *;go_upto_region 13 with(first|(go_at_call 57;refine HR2.out.mono ?_;rintro e w3 ⟨rv,rfl,hb3,hr3,hf3⟩;obtain⟨rb,rc,rfl,hrc,hrm,hrl⟩:=row_pos hr3 (by rw[reachP_len];exact hn0);rw[reachP_len]at hr3 ⊢)|fail)
   clear HR2 hf5;have hz3:=hb3.size;have hf3':=hf3 rb rfl;have OB3:=qd (OB.out.below hb3);have OF3:=qd (OF.out.below hb3);have OM3:=qd (OM0.out.below hb3);have HR3:=qd hr3;have hb03:Below w.heap.size w w3:=hbr.trans (hb3.mono hbr.size);have hn64:f.code.length<=9223372036854775807:=oz
   clear OB OF OM0 hr3 hb3 hbr hf3;go_loopw [11,12,41] (fun d td i wx=>∃ k:Nat,k<=f.code.length/\i=.int .i64 k/\d=.int .i64 (sumN k (fun v=>if rpB f v then 1 else 0):Nat)/\Below w3.heap.size w3 wx/\(∀ j,td.ownBlock=some j->w3.heap.size<=j)/\Hid (wx.ownsRow 0 3 1 td (tdTo (rpB f) c0 k).length (Nums (tdTo (rpB f) c0 k)))) (fun d td i _=>f.code.length-(intOf i).toNat)
   case atStart=>exact⟨0,Nat.zero_le _,rfl,rfl,Below.refl _ _,by simp[Value.ownBlock],qd (World.ownsRow_nil _ _ _ _)⟩
   case round =>
    rename_i wq;obtain⟨k,hk,rfl,rfl,hbx,hvb,hrow⟩:=hrel;have hzx:=hbx.size;by_cases hlt:k<f.code.length
    ·have d2:(k:Int)<(f.code.length:Int):=oz
     have hwk:IntKind.i64.wrap ((k:Int)+1)=(k:Int)+1:=IntWalk.i64_in _ oz;have hgr:(reachP f)[k]? = some (rpB f k):=by unfold rpB;rw[List.getD_eq_getElem?_getD,List.getElem?_eq_getElem (by rw[reachP_len];exact hlt)];rfl
     have cc0:=row_cell (row_below hbx HR3.out) (Bools_some hgr);have hs:=sumN_le (f:=fun v=>if rpB f v then 1 else 0) (m:=1) k (fun j _=>by split<;>omega);have hsum:sumN (k+1) (fun v=>if rpB f v then 1 else 0)=sumN k (fun v=>if rpB f v then 1 else 0)+if rpB f k then 1 else 0:=rfl
     have HSM:=qd hsum;have HTD:=qd (tdTo_succ (rpB f) c0 k);have htl:=tdTo_len (rpB f) c0 k;clear hsum hgr;generalize sumN k (fun v=>if rpB f v then 1 else 0)=sm at *;have hws:IntKind.i64.wrap ((sm:Int)+1)=(sm:Int)+1:=IntWalk.i64_in _ oz;have hlk:=(OM3.out.below hbx).get (show k<1024 by omega);generalize rpB f k=r at *;cases r
     ·go_wp2_with fail;refine⟨⟨k+1,oz,si,by rw[HSM.out];simp,hbx,hvb,qd (by rw[HTD.out,if_neg (by simp)];exact hrow.out)⟩,?_⟩;go_light;exact ml
     ·by_cases hc0:c0 k=0
      ·rw[hc0]at hlk;go_wp2_with (first|(at_builtin;refine wpList_app rfl (.tmp 53) (.tmp 55) 50 3 1 8 (.int .i64 0) rfl Tryz.underlying50 Tryz.infoI rfl dc _ _ _ rfl (row_below bal hrow.out) ⟨wr.heap.size,0,none⟩ 1 1 (Nums [(k:Int)]) rfl rfl (src_own (Own.new' _ _ _ _ rfl)) (Nums_one _) (by unfold maxLen;omega) oz dc ?_;intro g4 c4 w4 hr4 hc4 hg4)|fail)
       have hbA:Below wr.heap.size wr (wr.alloc (.cells #[.int .i64 k] 3)):=bal;have hc5:Chg (fun j=>u12.ownBlock=some j) wr w4:=(Chg.of hbA).trans hc4;refine⟨⟨k+1,oz,si,by rw[HSM.out];simp,hbx.trans (hc5.below _ hbx.size (fun j hj e=>by have:=hvb j e;omega)),fun j hj=>?_,qd (by rw[HTD.out,if_pos ⟨rfl,hc0⟩,List.length_append,Nums_append];exact hr4)⟩,?_⟩
       ·have e:g4=j:=by simpa[Value.ownBlock]using hj
        subst e;rcases hg4 with h|h
        ·exact hvb _ h
        ·simp at h;omega
       ·go_light;exact ml
      ·have q1:¬((c0 k:Nat):Int)=0:=oz
       have q2:(((c0 k:Nat):Int)==0)=false:=by rw[beq_eq_false_iff_ne];omega
       go_wp2_with fail;refine⟨⟨k+1,oz,si,by rw[HSM.out];simp,hbx,hvb,qd (by rw[HTD.out,if_neg (fun h=>hc0 h.2)];exact hrow.out)⟩,?_⟩;go_light;exact ml
    ·have hkk:k=f.code.length:=oz
     subst hkk;have d2:¬(f.code.length:Int)<(f.code.length:Int):=oz
     go_upto_region 20 with(fail)
     rw[<-HL0.out];have OB4:=qd (OB3.out.below hbx);have OF4:=qd (OF3.out.below hbx);have OM4:=qd (OM3.out.below hbx);have hb04:Below w.heap.size w wr:=hb03.trans (hbx.mono hb03.size);have hz4:w.heap.size+4<=wr.heap.size:=oz
     have hvb4:∀ j,u12.ownBlock=some j->w.heap.size+4<=j:=fun j hj=>by have:=hvb j hj;omega
     have hR4:Hid (∀ u x,x∈G 1 u->∃ k:Nat,x=k/\k<f.code.length/\rpB f k=true):=qd (fun u x hx=>by
      obtain⟨k,e,hk⟩:=hE u x hx;have hk2:=hk.lt hn0;exact⟨k,e,hk2,(rpB_iff hk2).2 hk⟩)
     obtain⟨W5,hW5⟩:∃ wo:World,wo=wr:=⟨_,rfl⟩
     rw[<-hW5]at OB4 OF4 OM4 hb04 hz4 hrow ⊢;clear hW5 OB3 OF3 OM3 HR3 hbx hvb hb03 hlt d2 hz3 hzr HL0;generalize hRp:rpB f=Rp at *;clear hRp
     go_loopg [11,12] (leftN f.code.length Rp (fun _=>false)) (fun d vl vt wx=>∃ (c:Nat->Nat) (rem:Nat->Bool) (td:List Int) (p:Nat),d=leftN f.code.length Rp rem/\vl=.int .i64 (leftN f.code.length Rp rem:Nat)/\Hid (KInv (G 1) f.code.length Rp c rem td [])/\p+4096*d<=8388608/\d<=1024/\Below w.heap.size w wx/\w.heap.size+4<=wx.heap.size/\Hid (Own wx w.heap.size [.map (some b0),.map (some (b0+1)),.map (some (b0+2))])/\Hid (Own wx (w.heap.size+1) [.string f.name,.slice pa pl pc,.int .i64 f.regs,.int .i64 f.words,.slice ca f.code.length cc])/\Hid (CntAt wx (w.heap.size+1+1) p c)/\(∀ j,vt.ownBlock=some j->w.heap.size+4<=j)/\Hid (wx.ownsRow 0 3 1 vt td.length (Nums td)))
     case atStart=>exact⟨c0,_,_,q,rfl,rfl,HKS,oz,hLE,hb04,hz4,OB4,OF4,OM4,hvb4,hrow⟩
     case round =>
      clear HKS hLE hb04 hz4 OB4 OF4 OM4 hvb4 hrow HC0 hq0;rename_i wq2;obtain⟨c,rem,td,p,rfl,rfl,hK,hp,hd,hbr,hzr,OB,OF,OM,hvb,hrow⟩:=hrel;have b3:=own3 OB.out;have f5:=own5 OF.out;rcases nil_or_snoc td with rfl|⟨t,x,rfl⟩
      ·obtain⟨va,vc,rfl⟩:∃ va vc,u12=.slice va 0 vc:=by
        rcases row_form hrow.out with⟨rfl,_,_⟩|⟨g,c,rfl,_,_,_⟩
        ·exact⟨_,_,rfl⟩
        ·exact⟨_,_,rfl⟩
       have HKN:=qd (fun h0=>hK.out.none HGE.out hR4.out h0);generalize leftN f.code.length Rp rem=L at *;by_cases hL:L=0
       ·subst hL;go_wp2;go_ret2;go_light;have h0:=HKN.out (by trivial);rw[firstI_none _ _ (fun i _=>h0 i)];exact⟨rfl,hbr⟩
       ·have q1:¬(L:Int)=0:=oz
        have q2:((L:Int)==0)=false:=by rw[beq_eq_false_iff_ne];omega
        have HKA:=qd (fun v (h:c v=0)=>comes_zero HGE.out (hK.out.acc h));clear HKN hK hp hd;obtain⟨W7,hW7⟩:∃ wo:World,wo=wr:=⟨_,rfl⟩
        rw[<-hW7]at hbr hzr OB OF OM f5 ⊢;clear hW7 hrow b3;have hn64':f.code.length<=9223372036854775807:=oz
        go_upto_region 34 with(fail)
        clear f5;go_loopw [101] (fun i wx=>∃ j:Nat,j<=f.code.length/\i=.int .i64 j/\Hid (∀ v,v<j->comesB G v=false)/\Below W7.heap.size W7 wx) (fun i _=>f.code.length-(intOf i).toNat)
        case atStart=>exact⟨0,Nat.zero_le _,rfl,qd (fun i hi=>by omega),Below.refl _ _⟩
        case round =>
         rename_i wq3;obtain⟨j,hj,rfl,hno,hbx⟩:=hrel;have hbw:Below w.heap.size w wr:=hbr.trans (hbx.mono hbr.size);have b3:=own3 (OB.out.below hbx);have hlk:=fun h=>(OM.out.below hbx).get (v:=j) h;by_cases hjt:j<f.code.length
         ·have d3:(j:Int)<(f.code.length:Int):=oz
          have hwj:IntKind.i64.wrap ((j:Int)+1)=(j:Int)+1:=IntWalk.i64_in _ oz;have hlk:=hlk oz;have HA:=qd (HKA.out j);have HCo:=qd (HCm.out wr (HG.out.below hbw) j oz);obtain⟨cv,hcv⟩:∃ cv,cv=c j:=⟨_,rfl⟩
          rw[<-hcv]at hlk HA;clear hcv;by_cases hc0:cv=0
          ·subst hc0;have hcj:=HA.out rfl;have q3:¬(0:Int)<0:=oz
           go_wp2_with fail;refine⟨⟨j+1,oz,si,qd (fun v hv=>?_),hbx⟩,?_⟩
           ·by_cases e:v=j
            ·subst e;exact hcj
            ·exact hno.out v oz
           ·go_light;exact ml
          ·have q3:(0:Int)<(cv:Int):=oz
           have HFS:=qd (fun h=>firstI_some f.code.length (comesB G) j hjt h hno.out);have HNX:=qd (fun h v (hv:v<j+1)=>show comesB G v=false from(by
            by_cases e:v=j
            ·subst e;exact h
            ·exact hno.out v oz))
           generalize comesB G j=cm at *;go_wp2_with (first|(go_at_call 92;refine HCo.out.mono ?_;rintro e w8 ⟨rfl,hb8⟩)|fail)
           ·go_ret2;go_light;rename_i hcm;rw[HFS.out hcm];exact⟨rfl,hbw.trans (hb8.mono hbw.size)⟩
           ·rename_i hcm;refine⟨⟨j+1,oz,si,qd (HNX.out hcm),hbx.trans (hb8.mono hbx.size)⟩,?_⟩;go_light;exact ml
         ·have hjj:j=f.code.length:=oz
          subst hjj;have d3:¬(f.code.length:Int)<(f.code.length:Int):=oz
          go_wp2;go_ret2;go_light;rw[firstI_none _ _ hno.out];exact⟨rfl,hbw⟩
      ·obtain⟨u,hu,hun,hur,hurm,huc⟩:=hK.out.t x si;subst hu;obtain⟨hK2,-,-,-,hL2⟩:=hK.out.pop hn;have hln2:(t++[(u:Int)]).length=t.length+1:=si
       have hT2:=hrow.out;rw[hln2]at hT2;obtain⟨g,c1,rfl,hgc,hgm,hgl⟩:=row_pos hT2 oz;have hgm':c1<=9223372036854775807:=hgm;have t0:=row_cell hT2 (Nums_some (show(t++[(u:Int)])[t.length]? = some (u:Int) by simp));have hw1:IntKind.i64.wrap ((t.length:Int)+1-1)=(t.length:Int):=by rw[IntWalk.i64_in _ (by omega)];omega
       have j1:(0:Int)<(t.length:Int)+1:=oz
       have hpop:=row_take hT2 t.length oz;rw[Nat.mul_one,show(Nums (t++[(u:Int)])).take t.length=Nums t by rw[Nums_append,<-Nums_len t,List.take_left]]at hpop;have hvg:=hvb g rfl;have HP:=qd hpop;clear hpop hT2 hrow;have hu1:u<1024:=oz
       have hg5:=HG.out.below hbr;have hlk:=(hg5.map 1 dc).get Tryz.mapS zeroS (inI_nat hu1);rw[rowM_nat]at hlk;have hrow5:=hg5.row (c:=1) (v:=u) dc;have hl5:=hA u;obtain⟨sa,sc,hsv⟩:∃ sa sc,(S 1 u).getD nilS=.slice sa (G 1 u).length sc:=by
        rcases row_form hrow5 with⟨h1,h2,_⟩|⟨g,c,h1,_⟩
        ·exact⟨none,0,by rw[h1,h2]⟩
        ·exact⟨_,c,h1⟩
       have hrw:∀ k,((S 1 u).getD nilS).ownBlock=some k->k<w.heap.size:=fun k hk=>row_lt (HG.out.row (c:=1) (v:=u) dc) hk;rw[hsv]at hlk hrw hrow5;have HRow:=qd hrow5;clear hrow5 hg5 hsv;have HK2:=qd hK2;clear hK2 hK;have hwl:IntKind.i64.wrap ((leftN f.code.length Rp rem:Nat)-1:Int)=(leftN f.code.length Rp (addN rem u):Nat):=by rw[IntWalk.i64_in _ (by omega)];omega
       have HL2:=qd hL2;clear hL2;have hbx0:∀ j,(Value.slice (some ⟨g,0,none⟩) t.length c1).ownBlock=some j->w.heap.size+4<=j:=fun j hj=>hvb j hj;obtain⟨W6,hW6⟩:∃ wo:World,wo=wr:=⟨_,rfl⟩
       go_upto_region 25 with(fail)
       rw[<-hW6]at hbr hzr OB OF OM HP HRow ⊢;have hbw0:=hbr;clear hW6 hlk b3 f5 t0 hvb;go_loopw [12,79] (fun vt i wx=>∃ (j p2:Nat) (c:Nat->Nat) (td:List Int),j<=(G 1 u).length/\i=.int .i64 j/\p2<=p+j/\Hid (KInv (G 1) f.code.length Rp c (addN rem u) td ((G 1 u).drop j))/\Below w.heap.size w wx/\w.heap.size+4<=wx.heap.size/\Hid (Own wx w.heap.size [.map (some b0),.map (some (b0+1)),.map (some (b0+2))])/\Hid (Own wx (w.heap.size+1) [.string f.name,.slice pa pl pc,.int .i64 f.regs,.int .i64 f.words,.slice ca f.code.length cc])/\Hid (CntAt wx (w.heap.size+1+1) p2 c)/\(∀ j,vt.ownBlock=some j->w.heap.size+4<=j)/\Hid (wx.ownsRow 0 3 1 vt td.length (Nums td))) (fun vt i _=>(G 1 u).length-(intOf i).toNat)
       case atStart=>exact⟨0,p,c,t,Nat.zero_le _,rfl,oz,by simpa using HK2,hbr,hzr,OB,OF,OM,hbx0,HP⟩
       case round =>
        rename_i wq3;clear hbr hzr OB OF OM hbx0 HP HK2;obtain⟨j,p2,c,td,hj,rfl,hp2,hK,hbr,hzr,OB,OF,OM,hvb,hrow⟩:=hrel;by_cases hjt:j<(G 1 u).length
        ·have d3:(j:Int)<((G 1 u).length:Int):=oz
         have hwj:IntKind.i64.wrap ((j:Int)+1)=(j:Int)+1:=IntWalk.i64_in _ oz;have hgj:(G 1 u)[j]? = some ((G 1 u).getD j 0):=by rw[List.getD_eq_getElem?_getD,List.getElem?_eq_getElem hjt];rfl
         obtain⟨v0,hv0,hvn,hvr⟩:=hR4.out u _ (List.mem_of_getElem? hgj);have hdr:(G 1 u).drop j=(v0:Int)::(G 1 u).drop (j+1):=by
          rw[List.drop_eq_getElem_cons hjt,<-hv0,List.getD_eq_getElem?_getD,List.getElem?_eq_getElem hjt];rfl
         have hK1:=hK.out;rw[hdr]at hK1;obtain⟨hK2,hcp⟩:=hK1.step hvn hvr;have hcl:c v0<=4198400:=by
          have h1:=hK.out.cn v0;have h2:=cntA_le hA (addN rem u) v0;have h3:=List.count_le_length (a:=(v0:Int)) (l:=(G 1 u).drop j);rw[List.length_drop]at h3;omega
         have htl:=hK.out.len;obtain⟨g2,gc2,hgv,-,-,hgl2⟩:=row_pos HRow.out oz;cases hgv;have hgw:g2<w.heap.size:=hrw g2 rfl;have cc0:=((hbr.cell (p:=⟨g2,j,none⟩) hgw).trans ((hbw0.cell (p:=⟨g2,j,none⟩) hgw).symm)).trans (row_cell HRow.out (Nums_some hgj));rw[hv0]at cc0;have hv1:v0<1024:=oz
         have hlk:=OM.out.get hv1;obtain⟨W8,hrun8,hM8,hc8⟩:=OM.out.put (by unfold maxLen;omega) hv1 (c v0-1);have hz8:=hc8.size;have hlk8:=hM8.get hv1;rw[if_pos rfl]at hlk8;have OB8:=hc8.own OB.out oz;have OF8:=hc8.own OF.out oz;have hb8:Below w.heap.size w W8:=hbr.trans (hc8.below _ hbr.size (fun k hk e=>by omega));have R8:=row_chg hc8 hrow.out (fun k hk e=>by have:=hvb k hk;omega);have M8:=qd (hM8.cast (c':=decN c v0) (fun k _=>rfl));have HK3:=qd hK2;have OB9:=qd OB8;have OF9:=qd OF8;have R9:=qd R8;have b3:=own3 OB8;clear hK hK1 hK2 hdr hgj hM8 OB OF OM OB8 OF8 R8 hrow;unfold putT at HK3;obtain⟨C,hC⟩:∃ C,C=c v0:=⟨_,rfl⟩
         rw[<-hC]at hlk hrun8 hlk8 hcp hcl HK3;have hwc:IntKind.i64.wrap ((C:Int)-1)=((C-1:Nat):Int):=by rw[IntWalk.i64_in _ (by omega)];omega
         clear hC;by_cases hC0:C-1=0
         ·rw[hC0]at hwc hrun8 hlk8;rw[show((0:Nat):Int)=0 from rfl]at hwc hrun8 hlk8;rw[if_pos hC0]at HK3;go_wp2_with (first|(at_builtin;refine wpList_app rfl (.tmp 91) (.tmp 93) 50 3 1 8 (.int .i64 0) rfl Tryz.underlying50 Tryz.infoI rfl dc _ _ _ rfl (row_below bal R9.out) ⟨W8.heap.size,0,none⟩ 1 1 (Nums [(v0:Int)]) rfl rfl (src_own (Own.new' _ _ _ _ rfl)) (Nums_one _) (by unfold maxLen;omega) oz dc ?_;intro g4 c4 w4 hr4 hc4 hg4)|fail)
          have hbA:Below W8.heap.size W8 (W8.alloc (.cells #[.int .i64 v0] 3)):=bal;have hc9:Chg (fun j=>u12.ownBlock=some j) W8 w4:=(Chg.of hbA).trans hc4;have hz9:=hc9.size;have hvb4:∀ i,(Value.slice (some ⟨g4,0,none⟩) (td.length+1) c4).ownBlock=some i->w.heap.size+4<=i:=fun i hi=>by
           have e:g4=i:=by simpa[Value.ownBlock]using hi
           subst e;rcases hg4 with h|h
           ·exact hvb _ h
           ·simp at h;omega
          refine⟨⟨j+1,p2+1,decN c v0,td++[(v0:Int)],oz,si,oz,HK3,hb8.trans (hc9.below _ hb8.size (fun j hj e=>by have:=hvb j e;omega)),oz,qd (hc9.own OB9.out (fun e=>by have:=hvb _ e;omega)),qd (hc9.own OF9.out (fun e=>by have:=hvb _ e;omega)),qd (M8.out.chg hc9 (fun e=>by have:=hvb _ e;omega)),hvb4,qd (by rw[List.length_append,Nums_append];exact hr4)⟩,?_⟩;go_light;exact ml
         ·have q1:¬((C-1:Nat):Int)=0:=oz
          have q2:(((C-1:Nat):Int)==0)=false:=by rw[beq_eq_false_iff_ne];omega
          rw[if_neg hC0]at HK3;generalize C-1=C2 at *;go_wp2_with fail;refine⟨⟨j+1,p2+1,decN c v0,td,oz,si,oz,HK3,hb8,oz,OB9,OF9,M8,hvb,R9⟩,?_⟩;go_light;exact ml
        ·have hjj:j=(G 1 u).length:=oz
         subst hjj;have d3:¬((G 1 u).length:Int)<((G 1 u).length:Int):=oz
         rw[List.drop_length]at hK;go_wp2
         go_roundg (leftN f.code.length Rp (addN rem u))
         case measure=>have:=HL2.out;omega
         case rel=>exact⟨c,addN rem u,td,p2,rfl,rfl,hK,by have:=HL2.out;omega,by have:=HL2.out;omega,hbr,hzr,OB,OF,OM,hvb,hrow⟩
  ·have hi0:0<=i:=by
    unfold rowM at hMi;split at hMi
    ·assumption
    ·cases hMi
   obtain⟨a,rfl⟩:=Int.eq_ofNat_of_zero_le hi0;rw[rowM_nat]at hMi;have ha:a<1024:=by
    refine Classical.byContradiction fun h=>?_;rw[HG.out.big 1 a (by decide) h]at hMi;cases hMi
   have hlt:=hR.out.lt;have hgr:=HG.out.below hbr;have hb2:Below w.heap.size w W2:=hbr.trans (hc2.below _ hbr.size (fun k hk e=>by omega));have hrow:=(HG.out.below hb2).each 1 a s dc hMi;have hal:=hA a;obtain⟨sa,sc,rfl⟩:∃ sa sc,s=.slice sa (G 1 a).length sc:=by
    rcases row_form hrow with⟨h1,h2,_⟩|⟨g,c,h1,_⟩
    ·exact⟨none,0,by rw[h1,h2]⟩
    ·exact⟨_,c,h1⟩
   have hlc:=leftC_step ha hli;have HR2:=qd hR2;have HRow:=qd hrow;have OB2:=qd (hc2.own OB.out oz);have OF2:=qd (hc2.own OF.out oz);have OM2:=qd (OM.out.chg hc2 oz);have hc':Below W2.heap.size W2 W2:=Below.refl _ _;clear OB OF OM hR hR2 hrow hgr hc2;go_wp2;go_loopw [29] (fun i wx=>∃ j p:Nat,j<=(G 1 a).length/\i=.int .i64 j/\p<=q+j/\Chg (· = w.heap.size+1+1) W2 wx/\Hid (CntAt wx (w.heap.size+1+1) p (fun v=>cntA (G 1) (fun u=>left u) v+((G 1 a).take j).count (v:Int)))) (fun i _=>(G 1 a).length-(intOf i).toNat)
   case atStart=>exact⟨0,q,Nat.zero_le _,rfl,oz,Chg.refl _ _,qd (OM2.out.cast fun v _=>by simp)⟩
   case round =>
    rename_i wq;obtain⟨j,p,hj,rfl,hp,hcx,OMx⟩:=hrel;by_cases hjt:j<(G 1 a).length
    ·have d3:(j:Int)<((G 1 a).length:Int):=oz
     have hwj:IntKind.i64.wrap ((j:Int)+1)=(j:Int)+1:=IntWalk.i64_in _ oz;have hgj:(G 1 a)[j]? = some ((G 1 a).getD j 0):=by rw[List.getD_eq_getElem?_getD,List.getElem?_eq_getElem hjt];rfl
     obtain⟨v0,hv0,hv1⟩:=HGE.out.el 1 a _ (List.mem_of_getElem? hgj);obtain⟨g,gc,hgv,-,-,-⟩:=row_pos HRow.out oz;cases hgv;have hgw:g<w.heap.size:=row_lt (HG.out.each 1 a _ dc hMi) rfl;have c0:=(hcx.cellAt j (show g<W2.heap.size by omega) oz).trans (row_cell HRow.out (Nums_some hgj));rw[hv0]at c0;have hlk:=OMx.out.get hv1;have hbd:cntA (G 1) (fun u=>left u) v0+((G 1 a).take j).count (v0:Int)<=4198400:=by
      have h1:=cntA_le hA (fun u=>left u) v0;have h2:=List.count_le_length (a:=(v0:Int)) (l:=(G 1 a).take j);rw[List.length_take]at h2;omega
     obtain⟨W3,hrun3,hc3,hk3⟩:=OMx.out.put (by unfold maxLen;omega) hv1 (cntA (G 1) (fun u=>left u) v0+((G 1 a).take j).count (v0:Int)+1);rw[Int.natCast_add (cntA (G 1) (fun u=>left u) v0+((G 1 a).take j).count (v0:Int)) 1]at hrun3;have HC3:=qd (hc3.cast (c':=fun v=>cntA (G 1) (fun u=>left u) v+((G 1 a).take (j+1)).count (v:Int)) (fun v hv=>by
      rw[take_count hjt,hv0];by_cases e:v=v0
      ·subst e;simp;omega
      ·rw[if_neg (by omega),if_neg e];rfl))
     clear hc3;generalize cntA (G 1) (fun u=>left u) v0+((G 1 a).take j).count (v0:Int)=C at hlk hbd hrun3;rw[show((1:Nat):Int)=1 from rfl]at hrun3;have hwc:IntKind.i64.wrap ((C:Int)+1)=(C:Int)+1:=IntWalk.i64_in _ oz;go_wp2;refine⟨⟨j+1,p+1,oz,si,oz,hcx.trans hk3,HC3⟩,?_⟩;go_light;exact ml
    ·have hjj:j=(G 1 a).length:=oz
     subst hjj;have d3:¬((G 1 a).length:Int)<((G 1 a).length:Int):=oz
     have hzx:=hcx.size;have hbx:Below w.heap.size w wr:=hb2.trans (hcx.below _ hb2.size (fun k hk e=>by omega));go_wp2
     go_roundg c2
     case measure=>exact hlt2
     case rel =>
      refine⟨_,p,qd (HR2.out.keep (hcx.block _ HR2.out.owns.lt (by have:=HG.out.lb;have:=(HG.out.map 1 dc).lt;omega)) (hcx.block _ HR2.out.lt.1 oz)),oz,qd (fun i h=>hsm.out i (by simp at h;exact h.1)),hbx,oz,qd (hcx.own OB2.out oz),qd (hcx.own OF2.out oz),qd (OMx.out.cast fun v hv=>?_)⟩;rw[List.take_length];rw[cntA_add (rem:=fun u:Nat=>left (u:Int)&&decide ((u:Int)≠(a:Int))) (u:=a) ha (by simp) v];congr 1;refine cntA_congr (fun u _=>.inl ?_) v;unfold addN;by_cases e:u=a
      ·subst e;simpa using hli.symm
      ·have:(u:Int)≠(a:Int):=oz
       simp[e,this]
theorem members_any (lo b0 n:Nat) (G:Nat->Nat->List Int) (S:Nat->Nat->Option Value) (w:World) (hg:GraphAt w lo b0 n G S) (hB:GBnd G) (v:Nat) (hv:v<1024) :
 Calls Tryz.prog 52 #[.agg #[.map (some b0),.map (some (b0+1)),.map (some (b0+2))],.int .i64 v] w fun e w'=>∃ b q,e=.returned (.map (some b))/\w.heap.size<=b/\MapAt w' b q (setM (inB_ G v))/\Below w.heap.size w w':=by
 have hmm:=@run_makeMap Tryz.prog;have HG:=qd hg;clear hg;have hvi:=inI_nat hv;go_enter Tryz.func52,Tryz.ntmps52;go_upto_region 1 with(fail)
 generalize hW0:World.alloc _ _=W0;have hb0:Below w.heap.size w W0:=by rw[<-hW0];exact bel
 have OB0:Own W0 w.heap.size [.map (some b0),.map (some (b0+1)),.map (some (b0+2))]:=by rw[<-hW0];exact Own.new _ _ _
 have hz00:W0.heap.size=w.heap.size+1:=by rw[<-hW0];simp
 have hMa:MapAt (W0.alloc (.map #[] 0)) (w.heap.size+1) 0 (fun _=>none):=by have h:=MapAt.made W0;rwa [hz00]at h
 have hba:Below W0.heap.size W0 (W0.alloc (.map #[] 0)):=bal;obtain⟨W1,hrun1,hM1,hc1⟩:=hMa.set Tryz.mapU dc hvi (.agg #[]);have hz1:=hc1.size;simp only[World.size_alloc]at hz1;have e0:updM (fun _=>none) (v:Int) (.agg #[])=setM (fun x=>decide (x=(v:Int))):=by
  funext i;unfold updM setM;by_cases h:i=(v:Int)<;>simp[h]
 rw[e0]at hM1;have hba1:Below w.heap.size w (W0.alloc (.map #[] 0)):=hb0.trans (hba.mono oz);have hb1':Below w.heap.size w W1:=hba1.trans (hc1.below _ (by simp;omega) (fun k hk e=>by omega));have OB1:=hc1.own (OB0.below hba) oz;go_upto_region 2 with(fail)
 clear hrun1 hmm hba1 hba hMa OB0 hc1 hb0 e0;clear hW0
 try rw[hz00]
 have hz0:w.heap.size+2<=W1.heap.size:=oz
 clear hz1;have hg0:=HG.out.below hb1';have b3:=own3 OB1;have hlk:=(hg0.map 2 dc).get Tryz.mapS zeroS hvi;rw[rowM_nat]at hlk;have hrow:=hg0.row (c:=2) (v:=v) dc;have hnil:=hg0.nil (c:=2) (v:=v) dc;have hln:=hB.ln 2 v;have HB0:=qd OB1;have HM0:=qd hM1;have HR0:=qd hrow;clear hg0 OB1 hM1 hrow;generalize (S 2 v).getD nilS=sv at *;go_wp2_with (first|(at_builtin;refine wpList_appS rfl (.const (.slice none 0 0)) (.tmp 17) 50 3 1 8 (.int .i64 0) rfl Tryz.underlying50 Tryz.infoI rfl dc (.slice none 0 0) 0 [] rfl (World.ownsRow_nil _ _ _ _) sv (G 2 v).length (Nums (G 2 v)) rfl HR0.out hnil (Nums_one _) (by unfold maxLen;omega) oz ?_;intro u6 w1 hr1 hc1 hg1)|fail)
 have hb01:Below W1.heap.size W1 w1:=hc1.below _ lr (fun k _ e=>by cases e);have hz1:=hb01.size;have hb1:Below w.heap.size w w1:=hb1'.trans (hb01.mono oz);have hg1':∀ j,u6.ownBlock=some j->w.heap.size+2<=j:=fun j hj=>by
  rcases hg1 j hj with h|h
  ·cases h
  ·omega
 rw[Nat.zero_add,List.nil_append]at hr1;have HB1:=qd (HB0.out.below hb01);have HM1:=qd (HM0.out.below hb01);have HR1:=qd hr1;have HS:=qd (SInv.start (nx:=nxG G 0) (b0:=fun x=>decide (x=(v:Int))) (t0:=G 2 v));have hk0:sLeft (fun x=>decide (x=(v:Int))) (G 2 v)<=8396800:=sLeft_le oz;have hz1':w.heap.size+2<=w1.heap.size:=oz
 clear HB0 HM0 HR0 hr1 hc1 hg1 hb01 hb1' hz1 hz0 hlk b3 hnil
 go_loopg [6] (sLeft (fun x=>decide (x=(v:Int))) (G 2 v)) (fun k v6 wr=>∃ (been:Int->Bool) (todo:List Int) (m:Nat),k=sLeft been todo/\Hid (SInv (nxG G 0) (fun x=>decide (x=(v:Int))) (G 2 v) been todo)/\m+k<=8396801/\Below w.heap.size w wr/\w.heap.size+2<=wr.heap.size/\Hid (Own wr w.heap.size [.map (some b0),.map (some (b0+1)),.map (some (b0+2))])/\Hid (MapAt wr (w.heap.size+1) m (setM been))/\(∀ j,v6.ownBlock=some j->w.heap.size+2<=j)/\Hid (wr.ownsRow 0 3 1 v6 todo.length (Nums todo)))
 case atStart=>exact⟨_,_,1,rfl,HS,oz,hb1,hz1',HB1,HM1,hg1',HR1⟩
 case round =>
  clear hb1 hz1' HB1 HM1 hg1' HR1 HS hk0;obtain⟨been,todo,m,rfl,hI,hm,hbr,hz,hb,hM,hvb,ht⟩:=hrel;have b3:=own3 hb.out;rcases nil_or_snoc todo with rfl|⟨t,x,rfl⟩
  ·obtain⟨va,vc,rfl⟩:∃ va vc,u6=.slice va 0 vc:=by
    rcases row_form ht.out with⟨rfl,_,_⟩|⟨g,c,rfl,_,_,_⟩
    ·exact⟨_,_,rfl⟩
    ·exact⟨_,_,rfl⟩
   go_wp2;go_ret;go_light;refine⟨w.heap.size+1,m,rfl,oz,?_,hbr⟩;have e:setM (inB_ G v)=setM been:=by
    funext i;have h:=hI.out.done i;unfold setM;congr 1;have e2:inB_ G v i=been i:=by
     rw[Bool.eq_iff_iff,h];unfold inB_;simp
    rw[e2]
   rw[e];exact hM.out
  ·have hln2:(t++[x]).length=t.length+1:=si
   have hlt:t.length+1<=8396801:=by
    have:=sLeft_len (been:=been) (t:=t++[x]);rw[hln2]at this;omega
   have hT2:=ht.out;rw[hln2]at hT2;obtain⟨g,c,rfl,hgc,hgm,hgl⟩:=row_pos hT2 oz;have hgm':c<=9223372036854775807:=hgm;have t0:=row_cell hT2 (Nums_some (show(t++[x])[t.length]? = some x by simp));have hw1:IntKind.i64.wrap ((t.length:Int)+1-1)=(t.length:Int):=by rw[IntWalk.i64_in _ (by omega)];omega
   have j1:(0:Int)<(t.length:Int)+1:=oz
   obtain⟨a,rfl,ha⟩:=Cl.nat hB (hI.out.tr x si);have hpop:=row_take hT2 t.length oz;rw[Nat.mul_one,show(Nums (t++[(a:Int)])).take t.length=Nums t by rw[Nums_append,<-Nums_len t,List.take_left]]at hpop;have hvg:=hvb g rfl;have HP:=qd hpop;clear hpop hT2 ht;have hlk:=hM.out.getOk Tryz.mapU zeroU (inI_nat ha);rw[(setM_get been a).1,(setM_get been a).2]at hlk;have hmk:=qd (fun hb=>hI.out.mark (a:=(a:Int)) hb);have hdp:=qd (fun hb=>hI.out.drop (a:=(a:Int)) hb);have hlm:=qd (fun(hb:been (a:Int)=false)=>sLeft_mark (nx:=nxG G 0) (been:=been) (t:=t) ha hb (hB.ln 0 _));have hld:=qd (sLeft_drop (been:=been) (t:=t) (a:=(a:Int)));cases hba:been (a:Int)
   ·rw[hba]at hlk;go_upto_region 8 with(fail)
    have hbA:Below wr.heap.size wr (wr.alloc (.cells #[] 111)):=bal;generalize hWA:wr.alloc (.cells #[] 111)=WA at *;have hzA:=hbA.size;have hmq:m<maxLen:=by unfold maxLen;omega
    obtain⟨W2,hrun2,hM2,hc2⟩:=(hM.out.below hbA).set Tryz.mapU hmq (inI_nat ha) (.agg #[]);rw[setM_add]at hM2;have hz2:=hc2.size;have hbw:Below w.heap.size w WA:=hbr.trans (hbA.mono oz);have hb2:Below w.heap.size w W2:=hbw.trans (hc2.below _ oz (fun k hk e=>by omega));have OB2:=hc2.own (hb.out.below hbA) oz;have b3':=own3 OB2;have P2:=row_chg hc2 (row_below hbA HP.out) (fun k hk e=>by have h7:g=k:=ob1 hk;omega);have hg2:=HG.out.below hb2;have hlk2:=(hg2.map 0 dc).get Tryz.mapS zeroS (inI_nat ha);rw[rowM_nat]at hlk2
    try rw[Nat.add_zero]at hlk2
    have hrow2:=hg2.row (c:=0) (v:=a) dc;have hnil2:=hg2.nil (c:=0) (v:=a) dc;have hln3:=hB.ln 0 a;have hlm2:=hlm.out hba;have hmk2:=qd (hmk.out hba);unfold nxG at hlm2;rw[Int.toNat_natCast]at hlm2;have hnx:nxG G 0 (a:Int)=G 0 a:=by unfold nxG;rw[Int.toNat_natCast]
    have HNX:=qd hnx;clear hnx;have hsl:(t++G 0 a).length<=sLeft (addB been (a:Int)) (t++G 0 a):=sLeft_len;rw[List.length_append]at hsl;have HLM:=qd hlm2;have HR2:=qd hrow2;have HP2:=qd P2;have HO2:=qd OB2;have HM2:=qd hM2;have hz3:w.heap.size+2<=W2.heap.size:=oz
    have hvg2:∀ k,(Value.slice (some ⟨g,0,none⟩) t.length c).ownBlock=some k->k=g:=fun k hk=>by simpa[Value.ownBlock,eq_comm]using hk
    clear hM2 OB2 P2 hrow2 hg2 hlk b3 hb HP hM hbA hWA hc2 hbw hbr hmk hdp hlm hld hI hlm2;generalize (S 0 a).getD nilS=sv2 at *;go_wp2_with (first|(at_builtin;refine wpList_appS rfl (.tmp 44) (.tmp 48) 50 3 1 8 (.int .i64 0) rfl Tryz.underlying50 Tryz.infoI rfl dc _ t.length (Nums t) rfl HP2.out sv2 (G 0 a).length (Nums (G 0 a)) rfl HR2.out hnil2 (Nums_one _) (by unfold maxLen;omega) oz ?_;intro u7 w3 hr3 hc3 hg3)|fail)
    have hz4:=hc3.size;rw[<-Nums_append,<-List.length_append]at hr3
    go_roundg (sLeft (addB been (a:Int)) (t++G 0 a))
    case measure=>exact HLM.out
    case rel =>
     refine⟨addB been (a:Int),t++G 0 a,m+1,rfl,qd (HNX.out▸hmk2.out),by have:=HLM.out;omega,hb2.trans (hc3.below _ hb2.size (fun k hk e=>by have:=hvg2 k e;omega)),oz,qd (hc3.own HO2.out (fun e=>by have:=hvg2 _ e;omega)),qd (HM2.out.chg hc3 (fun e=>by have:=hvg2 _ e;omega)),?_,qd hr3⟩;intro j hj;rcases hg3 j hj with h|h
     ·have:=hvg2 _ h;omega
     ·omega
   ·rw[hba]at hlk;go_wp2
    go_roundg (sLeft been t)
    case measure=>exact hld.out
    case rel =>
     have hbA:Below wr.heap.size wr (wr.alloc (.cells #[] 111)):=bal;have:=hbA.size;exact⟨been,t,m,rfl,qd (hdp.out hba),by have:=hld.out;omega,hbr.trans (hbA.mono oz),oz,qd (hb.out.below hbA),qd (hM.out.below hbA),fun j hj=>hvb j hj,qd (row_below hbA HP.out)⟩
section
theorem BaseAt.mono {B B':Nat}{a:Option Addr}{n b o:Nat}(h:BaseAt B a n b o) (hB:B<=B'):BaseAt B' a n b o:=fun h0=>⟨(h h0).1,Nat.lt_of_lt_of_le (h h0).2 hB⟩
theorem FuncOk.mono {B B':Nat}{w:World}{h:HF}{f:PFunc}(k:FuncOk B w h f) (hB:B<=B'):FuncOk B' w h f:=by
 obtain⟨h1,⟨a1,a2,b,o,a3,a4⟩,⟨c1,c2,b',o',c3,c4⟩,h4,h5⟩:=k;exact⟨h1,⟨a1,a2,b,o,a3.mono hB,a4⟩,⟨c1,c2,b',o',c3.mono hB,c4⟩,h4,h5⟩
theorem flat4 {α:Type}(f:α->List Value) (hf:∀ a,(f a).length=4):∀ (l:List α) (i c:Nat),c<4->(l.flatMap f)[i*4+c]? = (l[i]?).bind fun a=>(f a)[c]?
 | [],i,c,hc=>by simp
 | a::l,0,c,hc=>by
  rw[List.flatMap_cons,List.getElem?_append_left (by rw[hf];omega)];simp
 | a::l,i+1,c,hc=>by
  rw[List.flatMap_cons,List.getElem?_append_right (by rw[hf];omega),hf,show(i+1)*4+c-4=i*4+c by omega,flat4 f hf l i c hc];simp
abbrev LTri:=PLoop×Value×Value
def triCells (t:LTri):List Value:=[.int .i64 t.1.head,.int .i64 t.1.parent,t.2.1,t.2.2]
def cellsL (L:List LTri):List Value:=L.flatMap triCells
theorem cellsL_len (L:List LTri):(cellsL L).length=L.length*4:=by
 unfold cellsL
 induction L with
 | nil=>rfl
 | cons a l ih=>rw[List.flatMap_cons,List.length_append,ih];simp[triCells];omega
theorem cellsL_at (L:List LTri) (i c:Nat) (hc:c<4):(cellsL L)[i*4+c]? = (L[i]?).bind fun t=>(triCells t)[c]? := flat4 triCells (fun _=>rfl) L i c hc
theorem cellsL_snoc (L:List LTri) (t:LTri):cellsL (L++[t])=cellsL L++triCells t:=by simp[cellsL]
def withPar (t:LTri) (k:Int):LTri:=({ t.1 with parent:=k },t.2)
theorem cellsL_par (L:List LTri) (i:Nat) (k:Int) (t:LTri) (ht:L[i]? = some t):(cellsL L).set (i*4+1) (.int .i64 k)=cellsL (L.set i (withPar t k)):=by
 have hi:i<L.length:=(List.getElem?_eq_some_iff.1 ht).1;apply List.ext_getElem?;intro n;have hn:n=n / 4*4+n%4:=oz
 by_cases e:n=i*4+1
 ·subst e;rw[List.getElem?_set_self (by rw[cellsL_len];omega),cellsL_at _ _ _ (by omega),List.getElem?_set_self hi];rfl
 ·rw[List.getElem?_set_ne (by omega)];rw[hn,cellsL_at _ _ _ (by omega),cellsL_at _ _ _ (by omega)];by_cases e2:n / 4=i
  ·rw[e2,List.getElem?_set_self hi,ht];have h1:n%4≠1:=oz
   have h2:n%4<4:=oz
   generalize n%4=c at *;simp only[Option.bind_some];obtain rfl|rfl|rfl:c=0\/c=2\/c=3:=oz
   all_goals rfl
  ·rw[List.getElem?_set_ne (by omega)]
structure LoopsAt (W:World) (v:Value) (L:List LTri):Prop where
 row:W.ownsRow 0 52 4 v L.length (cellsL L)
 each:∀ t∈L,W.ownsRow 0 3 1 t.2.1 t.1.members.length (Nums t.1.members)/\W.ownsRow 0 3 1 t.2.2 t.1.backs.length (Nums t.1.backs)
 dis:∀ t∈L,∀ k,v.ownBlock=some k->t.2.1.ownBlock≠some k/\t.2.2.ownBlock≠some k
section
variable {W W' : World} {v : Value} {L : List LTri}
theorem LoopsAt.below (h:LoopsAt W v L) (hb:Below W.heap.size W W'):LoopsAt W' v L :=
 ⟨row_below hb h.row,fun t ht=>⟨row_below hb (h.each t ht).1,row_below hb (h.each t ht).2⟩,h.dis⟩
theorem LoopsAt.nil (W:World):LoopsAt W (.slice none 0 0) []:=⟨World.ownsRow_nil _ _ _ _,fun t ht=>by simp at ht,fun t ht=>by simp at ht⟩
theorem LoopsAt.form (h:LoopsAt W v L):∃ a c,v=.slice a L.length c:=by
 rcases row_form h.row with⟨h1,h2,_⟩|⟨g,c,h1,_⟩
 ·exact⟨none,0,by rw[h1,h2]⟩
 ·exact⟨_,c,h1⟩
/-- a loop more -/
theorem LoopsAt.push {v':Value}{t:LTri}(h:LoopsAt W v L) (hr:W'.ownsRow 0 52 4 v' (L.length+1) (cellsL L++triCells t)) (hc:Chg (fun k=>v.ownBlock=some k) W W')
 (hb:∀ k,v'.ownBlock=some k->v.ownBlock=some k\/W.heap.size<=k) (h1:W.ownsRow 0 3 1 t.2.1 t.1.members.length (Nums t.1.members)) (h2:W.ownsRow 0 3 1 t.2.2 t.1.backs.length (Nums t.1.backs))
 (h3:∀ k,v.ownBlock=some k->t.2.1.ownBlock≠some k/\t.2.2.ownBlock≠some k):LoopsAt W' v' (L++[t]):=by
 have key:∀ t'∈L++[t],(W.ownsRow 0 3 1 t'.2.1 t'.1.members.length (Nums t'.1.members)/\W.ownsRow 0 3 1 t'.2.2 t'.1.backs.length (Nums t'.1.backs))/\∀ k,v.ownBlock=some k->t'.2.1.ownBlock≠some k/\t'.2.2.ownBlock≠some k:=fun t' ht=>by
  rcases List.mem_append.1 ht with ht|ht
  ·exact⟨h.each t' ht,h.dis t' ht⟩
  ·have:t'=t:=by simpa using ht
   subst this;exact⟨⟨h1,h2⟩,h3⟩
 refine⟨by rw[List.length_append,cellsL_snoc];exact hr,fun t' ht=>?_,fun t' ht k hk=>?_⟩
 ·obtain⟨⟨e1,e2⟩,e3⟩:=key t' ht;exact⟨row_chg hc e1 (fun k hk e=>(e3 k e).1 hk),row_chg hc e2 (fun k hk e=>(e3 k e).2 hk)⟩
 ·obtain⟨⟨e1,e2⟩,e3⟩:=key t' ht;rcases hb k hk with h|h
  ·exact e3 k h
  ·exact⟨fun e=>by have:=row_lt e1 e;omega,fun e=>by have:=row_lt e2 e;omega⟩
/-- a loop's parent is written -/
theorem LoopsAt.par {b c:Nat}(h:LoopsAt W (.slice (some ⟨b,0,none⟩) L.length c) L) {i:Nat}{t:LTri}(ht:L[i]? = some t) (k:Int):LoopsAt (W.setCell ⟨b,i*4+1,none⟩ (.int .i64 k)) (.slice (some ⟨b,0,none⟩) L.length c) (L.set i (withPar t k)):=by
 have hc:Chg (· = b) W (W.setCell ⟨b,i*4+1,none⟩ (.int .i64 k)):=Chg.setCell (S:=(· = b)) (Chg.refl _ _) (p:=⟨b,i*4+1,none⟩) (Or.inl rfl) _;have hm:∀ t'∈L.set i (withPar t k),∃ t2∈L,t'.2=t2.2/\t'.1.members=t2.1.members/\t'.1.backs=t2.1.backs:=fun t' ht'=>by
  rcases List.mem_or_eq_of_mem_set ht' with h|h
  ·exact⟨t',h,rfl,rfl,rfl⟩
  ·subst h;exact⟨t,List.mem_of_getElem? ht,rfl,rfl,rfl⟩
 refine⟨?_,fun t' ht'=>?_,fun t' ht' k' hk'=>?_⟩
 ·rw[List.length_set,<-cellsL_par L i k t ht];exact row_set h.row _ _
 ·obtain⟨t2,h2,e1,e2,e3⟩:=hm t' ht';rw[e1,e2,e3];have hd:=h.dis t2 h2 b rfl;exact⟨row_chg hc (h.each t2 h2).1 (fun k hk e=>hd.1 (e▸hk)),row_chg hc (h.each t2 h2).2 (fun k hk e=>hd.2 (e▸hk))⟩
 ·obtain⟨t2,h2,e1,e2,e3⟩:=hm t' ht';rw[e1];exact h.dis t2 h2 k' hk'
theorem LoopsAt.cells {b c:Nat}(h:LoopsAt W (.slice (some ⟨b,0,none⟩) L.length c) L) {i:Nat}{t:LTri}(ht:L[i]? = some t) :
 W.cell? ⟨b,i*4,none⟩=some (.int .i64 t.1.head)/\W.cell? ⟨b,i*4+1,none⟩=some (.int .i64 t.1.parent)/\W.cell? ⟨b,i*4+2,none⟩=some t.2.1/\W.cell? ⟨b,i*4+3,none⟩=some t.2.2:=by
 have key:∀ c',c'<4->∀ u,(triCells t)[c']? = some u->W.cell? ⟨b,i*4+c',none⟩=some u:=fun c' hc' u hu=>row_cell h.row (by rw[cellsL_at L i c' hc',ht];exact hu);exact⟨key 0 oz _ rfl,key 1 oz _ rfl,key 2 oz _ rfl,key 3 oz _ rfl⟩
/-- as it is read -/
theorem LoopsAt.rd {b c:Nat}(h:LoopsAt W (.slice (some ⟨b,0,none⟩) L.length c) L) (h64:∀ t∈L,(∀ x∈t.1.members,In64 x)/\∀ x∈t.1.backs,In64 x) {i:Nat}{t:LTri}(ht:L[i]? = some t):LpCells W.heap.size W b (i*4) t.1:=by
 obtain⟨c0,c1,c2,c3⟩:=h.cells ht;have hm:=List.mem_of_getElem? ht;obtain⟨ma,mc,e1,n1⟩:=NumsAt.ofRow (B:=W.heap.size) (h.each t hm).1 (h64 t hm).1 (fun k hk=>row_lt (h.each t hm).1 hk);obtain⟨ba,bc,e2,n2⟩:=NumsAt.ofRow (B:=W.heap.size) (h.each t hm).2 (h64 t hm).2 (fun k hk=>row_lt (h.each t hm).2 hk);rw[e1]at c2;rw[e2]at c3;exact⟨ma,mc,ba,bc,c0,c1,c2,c3,n1,n2⟩
end
theorem Tryz.infoL:(Tryz.prog.info? 52).map (fun i=>(i.zero,i.size,i.bytes))=some (some (.agg #[.int .i64 0,.int .i64 0,.slice none 0 0,.slice none 0 0]),4,64):=kr
end
/-- is k, when it comes, the parent of i? cur: the parent as yet -/
def parC (ls:List PLoop) (i k:Nat) (cur:Int):Prop:=i≠k/\(ls.getD k default).members.contains ((ls.getD i default).head:Int)=true/\(cur<0\/(ls.getD k default).members.length<(ls.getD cur.toNat default).members.length)
theorem parTo_zero (ls:List PLoop) (i:Nat):parTo ls i 0 = -1:=rfl
theorem parTo_yes (ls:List PLoop) (i k:Nat) (h:parC ls i k (parTo ls i k)):parTo ls i (k+1)=k:=by
 unfold parTo;rw[List.range_succ,List.foldl_append,List.foldl_cons,List.foldl_nil];exact if_pos h
theorem parTo_no (ls:List PLoop) (i k:Nat) (h:¬parC ls i k (parTo ls i k)):parTo ls i (k+1)=parTo ls i k:=by
 show(List.range (k+1)).foldl _ _=_;rw[List.range_succ,List.foldl_append,List.foldl_cons,List.foldl_nil];exact if_neg h
theorem parTo_bnd (ls:List PLoop) (i:Nat):∀ k:Nat,parTo ls i k = -1\/∃ q:Nat,q<k/\parTo ls i k=q
 | 0=>.inl rfl
 | k+1=>by
  by_cases h:parC ls i k (parTo ls i k)
  ·exact .inr ⟨k,oz,parTo_yes ls i k h⟩
  ·rw[parTo_no ls i k h];rcases parTo_bnd ls i k with h|⟨q,h1,h2⟩
   ·exact .inl h
   ·exact .inr ⟨q,oz,h2⟩
/-- the loops, as parents are being set: those of the first i are, of the next one those before k were looked at -/
def parS (ls:List PLoop) (i k:Nat):List PLoop:=(List.range ls.length).map fun j=>if j<i then { (ls.getD j default)with parent:=parTo ls j ls.length } else if j=i then { (ls.getD j default)with parent:=parTo ls j k } else ls.getD j default
theorem parS_len (ls:List PLoop) (i k:Nat):(parS ls i k).length=ls.length:=by simp[parS]
theorem parS_at (ls:List PLoop) (i k:Nat) {j:Nat}(hj:j<ls.length):(parS ls i k)[j]? = some (if j<i then { (ls.getD j default)with parent:=parTo ls j ls.length } else if j=i then { (ls.getD j default)with parent:=parTo ls j k } else ls.getD j default):=by
 unfold parS;rw[List.getElem?_map,List.getElem?_range hj];rfl
theorem parS_same (ls:List PLoop) (i k:Nat) {j:Nat}(hj:j<ls.length):∃ t,(parS ls i k)[j]? = some t/\t.head=(ls.getD j default).head/\t.members=(ls.getD j default).members/\t.backs=(ls.getD j default).backs:=by
 refine⟨_,parS_at ls i k hj,?_,?_,?_⟩
 all_goals repeat(first|rfl|split)
theorem parS_self (ls:List PLoop) (i k:Nat) (hi:i<ls.length):∃ t,(parS ls i k)[i]? = some t/\t.head=(ls.getD i default).head/\t.members=(ls.getD i default).members/\t.backs=(ls.getD i default).backs/\t.parent=parTo ls i k:=by
 refine⟨_,parS_at ls i k hi,?_⟩;rw[if_neg (Nat.lt_irrefl _),if_pos rfl];exact⟨rfl,rfl,rfl,rfl⟩
theorem parS_zero (ls:List PLoop) (h:∀ j,j<ls.length->(ls.getD j default).parent = -1):parS ls 0 0=ls:=by
 apply List.ext_getElem?;intro j;by_cases hj:j<ls.length
 ·rw[parS_at ls 0 0 hj,if_neg (by omega)];have e:ls[j]? = some (ls.getD j default):=by rw[List.getD_eq_getElem?_getD,List.getElem?_eq_getElem hj];rfl
  rw[e];by_cases h0:j=0
  ·rw[if_pos h0,parTo_zero];have:=h j hj;generalize ls.getD j default=t at *;obtain⟨a,b,c,d⟩:=t;dsimp only at this;subst this;rfl
  ·rw[if_neg h0]
 ·rw[List.getElem?_eq_none (by rw[parS_len];omega),List.getElem?_eq_none (by omega)]
theorem parS_next (ls:List PLoop) (h:∀ j,j<ls.length->(ls.getD j default).parent = -1) (i:Nat):parS ls i ls.length=parS ls (i+1) 0:=by
 apply List.ext_getElem?;intro j;by_cases hj:j<ls.length
 ·rw[parS_at ls _ _ hj,parS_at ls _ _ hj];by_cases h1:j<i
  ·rw[if_pos h1,if_pos (by omega)]
  ·rw[if_neg h1];by_cases h2:j=i
   ·subst h2;rw[if_pos rfl,if_pos (by omega)]
   ·rw[if_neg h2,if_neg (by omega)];by_cases h3:j=i+1
    ·rw[if_pos h3,parTo_zero];have:=h j hj;generalize ls.getD j default=t at *;obtain⟨a,b,c,d⟩:=t;dsimp only at this;subst this;rfl
    ·rw[if_neg h3]
 ·rw[List.getElem?_eq_none (by rw[parS_len];omega),List.getElem?_eq_none (by rw[parS_len];omega)]
theorem parS_end (ls:List PLoop):parS ls ls.length 0=parP ls:=by
 unfold parS parP;apply List.map_congr_left;intro j hj;rw[if_pos (List.mem_range.1 hj)]
theorem parS_yes (ls:List PLoop) (i k:Nat) (hi:i<ls.length) (h:parC ls i k (parTo ls i k)) {t:PLoop}(ht:(parS ls i k)[i]? = some t):(parS ls i k).set i { t with parent:=(k:Int) }=parS ls i (k+1):=by
 apply List.ext_getElem?;intro j;by_cases hj:j<ls.length
 ·by_cases e:j=i
  ·subst e;rw[List.getElem?_set_self (by rw[parS_len];exact hj),parS_at ls _ _ hj,if_neg (Nat.lt_irrefl _),if_pos rfl,parTo_yes ls j k h];rw[parS_at ls _ _ hj,if_neg (Nat.lt_irrefl _),if_pos rfl]at ht;cases ht;rfl
  ·rw[List.getElem?_set_ne (by omega),parS_at ls _ _ hj,parS_at ls _ _ hj];simp only[e,if_false]
 ·rw[List.getElem?_eq_none (by rw[List.length_set,parS_len];omega),List.getElem?_eq_none (by rw[parS_len];omega)]
theorem parS_no (ls:List PLoop) (i k:Nat) (h:¬parC ls i k (parTo ls i k)):parS ls i (k+1)=parS ls i k:=by
 unfold parS;apply List.map_congr_left;intro j _;by_cases h1:j<i
 ·rw[if_pos h1,if_pos h1]
 ·rw[if_neg h1,if_neg h1];by_cases h2:j=i
  ·subst h2;rw[if_pos rfl,if_pos rfl,parTo_no ls j k h]
  ·rw[if_neg h2,if_neg h2]
theorem parS_mem (ls:List PLoop) (i k:Nat) {x:PLoop}(hx:x∈parS ls i k):∃ y∈ls,x.members=y.members/\x.backs=y.backs:=by
 obtain⟨j,hj,rfl⟩:=List.mem_map.1 hx;have hj:=List.mem_range.1 hj;have hm:ls.getD j default∈ls:=by
  rw[List.getD_eq_getElem?_getD,List.getElem?_eq_getElem hj];exact List.getElem_mem hj
 refine⟨_,hm,?_,?_⟩
 all_goals repeat(first|rfl|split)
theorem depth_one (t:PLoop) (x:Int):depthP [t] x=if t.members.contains x then 1 else 0:=by
 show depthTo [t] x 1=_;rw[depthTo_succ];show(if t.members.contains x=true then(0:Int)+1 else 0)=_;split<;>rfl
theorem map_par (L:List LTri) (i:Nat) (k:Int) (t:LTri) (ht:L[i]? = some t):(L.set i (withPar t k)).map (fun t=>t.1)=(L.map fun t=>t.1).set i { t.1 with parent:=k }:=by
 rw[List.map_set];rfl
/-- a call of a Go function, as a step of a region that draws its order -/
theorem step_callF {P:Program}{ops:Array Oper}{o:Oper}{a:Act}{w:World}{K:Act->World->Prop}{Q:Exit->Act->World->Prop}{E:Prop}(hg:o.guard=none) (f:FuncId) (ops2:List Operand) (ts:Array TypeId) (ho:o.op=.call { callee:=.value (.func f),args:=ops2.toArray,argTypes:=ts })
 (hcf:∀ args w,(callFunc f args).run P w=.ok (.enter f args) w) (vs:List Value) (hv:ops2.map a.eval=vs) (R:Value->World->Prop) (hc:Calls P f vs.toArray w fun e w'=>∃ v,e=.returned v/\R v w') (h:∀ v w',R v w'->K (a.put o.dst v) w'):if Region.wanted o (yielded ops a.tmps)=true then o.wp P a w K Q else E:=by
 have hw:Region.wanted o (yielded ops a.tmps)=true:=by simp[Region.wanted,hg]
 rw[if_pos hw];subst hv;have hr:(execOp a.eval o).run P w=.ok (.enter f (ops2.map a.eval).toArray) w:=by
  simp[execOp,ho,resolve,invoke,Deferred.ofValue,Act.eval,hcf]
 unfold Oper.wp;rw[hr,Oper.upon_enter];refine hc.mono ?_;rintro e w' ⟨v,rfl,hR⟩;exact h v w' hR
theorem region_held_plain {P:Program}{ops:Array Oper}{Q:Exit->Act->World->Prop}(S:World->Prop) {id:Nat}{a:Act}{w:World}(hm:P.follows .mixedOrders=true) (hS:S w.drew)
 (h:∀ K:Act->World->Prop,Hid (∀ a w,Q .normal a w->K a w)->S w.drew->wpAnyH P .any ops (onlyN K) S ops.size (Array.replicate ops.size false) a w.drew):(Code.region id ops true).wp P Q a w:=by
 have h1:=h (fun a w=>Q .normal a w) (qd fun _ _ h=>h) hS;refine Code.wp_mono ?_ (wp_region_any hm (wpAny_of_held _ _ _ _ h1));intro e a w he;cases e with
 | normal=>exact he
 | ret=>exact he.elim
 | exit id=>exact he.elim
 | goto t=>exact he.elim
 | panic ch=>exact he.elim
 | outgrown=>exact he.elim
theorem size_putI (a:Act) (d:Option Tmp) (v:Value):(a.put d v).tmps.size=a.tmps.size:=by cases d<;>simp[Act.put]
theorem eval_putI (a:Act) (d j:Nat) (v:Value) (h:d<a.tmps.size):(a.put (some d) v).eval (.tmp j)=if d=j then v else a.eval (.tmp j):=by
 by_cases e:d=j
 ·subst e;rw[if_pos rfl];simp[Act.put,Act.eval,Array.getD,h]
 ·rw[if_neg e];simp only[Act.put,Act.eval,Array.getD_eq_getD_getElem?];rw[Array.getElem?_setIfInBounds_ne e]
theorem eval_none (a:Act) (v:Value) (x:Operand):(a.put none v).eval x=a.eval x:=rfl
theorem eval_const (a:Act) (v:Value):a.eval (.const v)=v:=rfl
theorem step_val {P:Program}{ops:Array Oper}{o:Oper}{a:Act}{w:World}{K:Act->World->Prop}{Q:Exit->Act->World->Prop}{E:Prop}(hg:o.guard=none) (v:Value) (w2:World) (hr:(execOp a.eval o).run P w=.ok (.value v) w2) (h:K (a.put o.dst v) w2):if Region.wanted o (yielded ops a.tmps)=true then o.wp P a w K Q else E:=by
 have hw:Region.wanted o (yielded ops a.tmps)=true:=by simp[Region.wanted,hg]
 rw[if_pos hw];unfold Oper.wp;rw[hr];exact h
theorem step_skip {P:Program}{ops:Array Oper}{o:Oper}{a:Act}{w:World}{K:Act->World->Prop}{Q:Exit->Act->World->Prop}{E:Prop}(hg:o.guard=none) (w2:World) (hr:(execOp a.eval o).run P w=.ok .skip w2) (h:K (a.put o.dst undef) w2):if Region.wanted o (yielded ops a.tmps)=true then o.wp P a w K Q else E:=by
 have hw:Region.wanted o (yielded ops a.tmps)=true:=by simp[Region.wanted,hg]
 rw[if_pos hw];unfold Oper.wp;rw[hr];exact h
theorem readyH1 {P:Program}{ops:Array Oper}{Q:Exit->Act->World->Prop}{md:Region.Mode}{S:World->Prop}{fuel:Nat}{listed:Array Bool}{a:Act}{w:World}(i:Nat) (o:Oper) (hr:Region.ready md ops listed=[i]) (ho:ops[i]? = some o)
 (h:∀ K':Act->World->Prop,Shut (∀ a w,S w->(S w->wpAnyH P md ops Q S fuel (listed.setIfInBounds i true) a w)->K' a w)->if Region.wanted o (yielded ops a.tmps)=true then Oper.wp P o a w K' Q else K' (a.put o.dst undef) w):wpAnyH P md ops Q S (fuel+1) listed a w :=
 wpAnyH_ready hr si (AllReadyH.cons ho h AllReadyH.nil)
theorem EX:(∀ (a:Act) (d j:Nat) (v:Value),d<a.tmps.size->(a.put (some d) v).eval (.tmp j)=if d=j then v else a.eval (.tmp j))/\(∀ (a:Act) (v:Value) (x:Operand),(a.put none v).eval x=a.eval x)/\(∀ (a:Act) (v:Value),a.eval (.const v)=v)/\(∀ (a:Act) (d:Option Tmp) (v:Value),(a.put d v).tmps.size=a.tmps.size):=⟨fun a d j v h=>eval_putI a d j v h,eval_none,eval_const,size_putI⟩
theorem wtk {P:Program}{md:Region.Mode}{ops:Array Oper}{K:Act->World->Prop}{S:World->Prop}(i:Nat) {oi:Oper}{v:Value}{fuel:Nat}{listed:Array Bool}{a:Act}{w:World}(hi:ops[i]? = some oi)
 (h:wpAnyH P md ops (onlyN K) S fuel (listed.setIfInBounds i true) (a.put oi.dst v) w)
 (hx:∀ w',S w'->(execOp a.eval oi).run P w'=.ok (.value v) w':=by intro w' hSw;have s:=HSS.out w' hSw;simp only[GE,MX,EX,execOp,Ee,if_pos,if_neg,reduceIte,Nat.reduceEqDiff,Nat.reduceLT,Nat.reduceBEq];go_simp;(try with_reducible rfl))
 (hg:Region.wanted oi (yielded ops a.tmps)=true:=by rfl) (hs:Region.noSelect ops=true:=by kernel_rfl) (hf:Region.free md ops listed i=true:=by kernel_rfl) (hr:(Region.ready md ops listed).contains i=true:=by kernel_rfl) (hS:S w:=by assumption):wpAnyH P md ops (onlyN K) S (fuel+1) listed a w :=
 wpAnyH_take hi hs hf hr (fun _ _ _ h=>h) (.inl ⟨hg,hx⟩) hS h
theorem wtk2 {P:Program}{md:Region.Mode}{ops:Array Oper}{K:Act->World->Prop}{S:World->Prop}(i:Nat) {oi:Oper}{v:Value}{fuel:Nat}{listed:Array Bool}{a:Act}{w:World}(hi:ops[i]? = some oi)
 (h:wpAnyH P md ops (onlyN K) S fuel (listed.setIfInBounds i true) (a.put oi.dst v) w)
 (hx:∀ w',S w'->(execOp a.eval oi).run P w'=.ok (.value v) w':=by intro w' hSw;have s:=HSS2.out w' hSw;simp only[GE,MX,EX,execOp,Ee,if_pos,if_neg,reduceIte,Nat.reduceEqDiff,Nat.reduceLT,Nat.reduceBEq];go_simp;(try with_reducible rfl))
 (hg:Region.wanted oi (yielded ops a.tmps)=true:=by rfl) (hs:Region.noSelect ops=true:=by kernel_rfl) (hf:Region.free md ops listed i=true:=by kernel_rfl) (hr:(Region.ready md ops listed).contains i=true:=by kernel_rfl) (hS:S w:=by assumption):wpAnyH P md ops (onlyN K) S (fuel+1) listed a w :=
 wpAnyH_take hi hs hf hr (fun _ _ _ h=>h) (.inl ⟨hg,hx⟩) hS h
theorem stv {P:Program}{ops:Array Oper}{o:Oper}{a:Act}{w:World}{K:Act->World->Prop}{Q:Exit->Act->World->Prop}{E:Prop}{v:Value}{w2:World}(h:K (a.put o.dst v) w2) (hg:o.guard=none:=by rfl)
 (hr:(execOp a.eval o).run P w=.ok (.value v) w2:=by simp only[GE,MX,EX,execOp,Ee,if_pos,if_neg,reduceIte,Nat.reduceEqDiff,Nat.reduceLT,Nat.reduceBEq];go_simp;(first|done|exact⟨rfl,rfl⟩|rfl)):if Region.wanted o (yielded ops a.tmps)=true then o.wp P a w K Q else E:=step_val hg v w2 hr h
theorem sts {P:Program}{ops:Array Oper}{o:Oper}{a:Act}{w:World}{K:Act->World->Prop}{Q:Exit->Act->World->Prop}{E:Prop}{w2:World}(h:K (a.put o.dst undef) w2) (hg:o.guard=none:=by rfl)
 (hr:(execOp a.eval o).run P w=.ok .skip w2:=by simp only[GE,MX,EX,execOp,Ee,if_pos,if_neg,reduceIte,Nat.reduceEqDiff,Nat.reduceLT,Nat.reduceBEq];go_simp;(first|done|rfl)):if Region.wanted o (yielded ops a.tmps)=true then o.wp P a w K Q else E:=step_skip hg w2 hr h
theorem ee1 {p:Prop}(h:p:=by rw[<-hA1];simp only[GE,MX,EX,and_self,Ee,reduceIte,Nat.reduceEqDiff,Nat.reduceLT,Nat.reduceBEq]):p:=h
theorem ee2 {p:Prop}(h:p:=by rw[<-hA2];simp only[GE,MX,EX,and_self,Ee,reduceIte,Nat.reduceEqDiff,Nat.reduceLT,Nat.reduceBEq]):p:=h
theorem ee3 {p:Prop}(h:p:=by rw[<-hA3];simp only[GE,MX,EX,and_self,Ee,reduceIte,Nat.reduceEqDiff,Nat.reduceLT,Nat.reduceBEq]):p:=h
theorem ee4 {p:Prop}(h:p:=by rw[<-hA4];simp only[GE,MX,EX,and_self,Ee,reduceIte,Nat.reduceEqDiff,Nat.reduceLT,Nat.reduceBEq]):p:=h
theorem ee5 {p:Prop}(h:p:=by rw[<-hA5];simp only[GE,MX,EX,and_self,Ee,reduceIte,Nat.reduceEqDiff,Nat.reduceLT,Nat.reduceBEq]):p:=h
theorem ee6 {p:Prop}(h:p:=by rw[<-hA6];simp only[GE,MX,EX,and_self,Ee,reduceIte,Nat.reduceEqDiff,Nat.reduceLT,Nat.reduceBEq]):p:=h
theorem wanted_is {ops:Array Oper}{o oj:Oper}{a:Act}{j d:Nat}{want b:Bool}(hg:o.guard=some (j,want)) (hj:ops[j]? = some oj) (hd:oj.dst=some d) (hv:a.eval (.tmp d)=.bool b) (hs:d<a.tmps.size):Region.wanted o (yielded ops a.tmps)=(b==want):=by
 have h1:a.tmps[d]? = some (.bool b):=by
  rw[Array.getElem?_eq_getElem hs];simp only[Act.eval,Array.getD,hs,dif_pos]at hv;simpa using hv
 unfold Region.wanted yielded;rw[hg];simp only[hj,Option.bind_some,hd,h1];cases b<;>cases want<;>rfl
theorem wanted_no {ops:Array Oper}{o oj:Oper}{a:Act}{j d:Nat}{want:Bool}(hg:o.guard=some (j,want)) (hj:ops[j]? = some oj) (hd:oj.dst=some d) (hv:a.eval (.tmp d)=undef):Region.wanted o (yielded ops a.tmps)=false:=by
 have h1:∀ b,a.tmps[d]? ≠ some (.bool b):=fun b h=>by
  have e:a.eval (.tmp d)=.bool b:=by
   obtain⟨hs,he⟩:=Array.getElem?_eq_some_iff.1 h;simp[Act.eval,Array.getD,hs,he]
  rw[hv]at e;cases e
 unfold Region.wanted yielded;rw[hg];simp only[hj,Option.bind_some,hd];rfl
/-- a guarded call -/
theorem step_callG {P:Program}{ops:Array Oper}{o:Oper}{a:Act}{w:World}{K:Act->World->Prop}{Q:Exit->Act->World->Prop}{E:Prop}(hw:Region.wanted o (yielded ops a.tmps)=true) (f:FuncId) (ops2:List Operand) (ts:Array TypeId) (ho:o.op=.call { callee:=.value (.func f),args:=ops2.toArray,argTypes:=ts })
 (hcf:∀ args w,(callFunc f args).run P w=.ok (.enter f args) w) (vs:List Value) (hv:ops2.map a.eval=vs) (R:Value->World->Prop) (hc:Calls P f vs.toArray w fun e w'=>∃ v,e=.returned v/\R v w') (h:∀ v w',R v w'->K (a.put o.dst v) w'):if Region.wanted o (yielded ops a.tmps)=true then o.wp P a w K Q else E:=by
 rw[if_pos hw];subst hv;have hr:(execOp a.eval o).run P w=.ok (.enter f (ops2.map a.eval).toArray) w:=by
  simp[execOp,ho,resolve,invoke,Deferred.ofValue,Act.eval,hcf]
 unfold Oper.wp;rw[hr,Oper.upon_enter];refine hc.mono ?_;rintro e w' ⟨v,rfl,hR⟩;exact h v w' hR
theorem wtg {P:Program}{md:Region.Mode}{ops:Array Oper}{K:Act->World->Prop}{S:World->Prop}(i d:Nat) {oi oj:Oper}{j:Nat}{want b:Bool}{v:Value}{fuel:Nat}{listed:Array Bool}{a:Act}{w:World}(hi:ops[i]? = some oi)
 (h:wpAnyH P md ops (onlyN K) S fuel (listed.setIfInBounds i true) (a.put oi.dst v) w)
 (hx:∀ w',S w'->(execOp a.eval oi).run P w'=.ok (.value v) w':=by intro w' hSw;have s:=HSS.out w' hSw;simp only[GE,MX,EX,execOp,Ee,if_pos,if_neg,reduceIte,Nat.reduceEqDiff,Nat.reduceLT,Nat.reduceBEq];go_simp;(try with_reducible rfl))
 (hg:oi.guard=some (j,want):=by rfl) (hj:ops[j]? = some oj:=by rfl) (hd:oj.dst=some d:=by rfl) (hv:a.eval (.tmp d)=.bool b:=by simp only[GE,MX,EX,Ee,if_pos,if_neg,reduceIte,Nat.reduceEqDiff,Nat.reduceLT,Nat.reduceBEq];try rfl) (hz:d<a.tmps.size:=by simp only[GE,MX,EX,Ee];decide) (hb:(b==want)=true:=by rfl) (hs:Region.noSelect ops=true:=by kernel_rfl) (hf:Region.free md ops listed i=true:=by kernel_rfl) (hr:(Region.ready md ops listed).contains i=true:=by kernel_rfl) (hS:S w:=by assumption):wpAnyH P md ops (onlyN K) S (fuel+1) listed a w :=
 wpAnyH_take hi hs hf hr (fun _ _ _ h=>h) (.inl ⟨(wanted_is hg hj hd hv hz).trans hb,hx⟩) hS h
theorem wtg2 {P:Program}{md:Region.Mode}{ops:Array Oper}{K:Act->World->Prop}{S:World->Prop}(i d:Nat) {oi oj:Oper}{j:Nat}{want b:Bool}{v:Value}{fuel:Nat}{listed:Array Bool}{a:Act}{w:World}(hi:ops[i]? = some oi)
 (h:wpAnyH P md ops (onlyN K) S fuel (listed.setIfInBounds i true) (a.put oi.dst v) w)
 (hx:∀ w',S w'->(execOp a.eval oi).run P w'=.ok (.value v) w':=by intro w' hSw;have s:=HSS2.out w' hSw;simp only[GE,MX,EX,execOp,Ee,if_pos,if_neg,reduceIte,Nat.reduceEqDiff,Nat.reduceLT,Nat.reduceBEq];go_simp;(try with_reducible rfl))
 (hg:oi.guard=some (j,want):=by rfl) (hj:ops[j]? = some oj:=by rfl) (hd:oj.dst=some d:=by rfl) (hv:a.eval (.tmp d)=.bool b:=by simp only[GE,MX,EX,Ee,if_pos,if_neg,reduceIte,Nat.reduceEqDiff,Nat.reduceLT,Nat.reduceBEq];try rfl) (hz:d<a.tmps.size:=by simp only[GE,MX,EX,Ee];decide) (hb:(b==want)=true:=by rfl) (hs:Region.noSelect ops=true:=by kernel_rfl) (hf:Region.free md ops listed i=true:=by kernel_rfl) (hr:(Region.ready md ops listed).contains i=true:=by kernel_rfl) (hS:S w:=by assumption):wpAnyH P md ops (onlyN K) S (fuel+1) listed a w :=
 wpAnyH_take hi hs hf hr (fun _ _ _ h=>h) (.inl ⟨(wanted_is hg hj hd hv hz).trans hb,hx⟩) hS h
theorem wto {P:Program}{md:Region.Mode}{ops:Array Oper}{K:Act->World->Prop}{S:World->Prop}(i d:Nat) {oi oj:Oper}{j:Nat}{want b:Bool}{fuel:Nat}{listed:Array Bool}{a:Act}{w:World}(hi:ops[i]? = some oi)
 (h:wpAnyH P md ops (onlyN K) S fuel (listed.setIfInBounds i true) (a.put oi.dst undef) w)
 (hg:oi.guard=some (j,want):=by rfl) (hj:ops[j]? = some oj:=by rfl) (hd:oj.dst=some d:=by rfl) (hv:a.eval (.tmp d)=.bool b:=by simp only[GE,MX,EX,Ee,if_pos,if_neg,reduceIte,Nat.reduceEqDiff,Nat.reduceLT,Nat.reduceBEq];try rfl) (hz:d<a.tmps.size:=by simp only[GE,MX,EX,Ee];decide) (hb:(b==want)=false:=by rfl) (hs:Region.noSelect ops=true:=by kernel_rfl) (hf:Region.free md ops listed i=true:=by kernel_rfl) (hr:(Region.ready md ops listed).contains i=true:=by kernel_rfl) (hS:S w:=by assumption):wpAnyH P md ops (onlyN K) S (fuel+1) listed a w :=
 wpAnyH_take hi hs hf hr (fun _ _ _ h=>h) (.inr ⟨(wanted_is hg hj hd hv hz).trans hb,rfl⟩) hS h
theorem wtn {P:Program}{md:Region.Mode}{ops:Array Oper}{K:Act->World->Prop}{S:World->Prop}(i d:Nat) {oi oj:Oper}{j:Nat}{want:Bool}{fuel:Nat}{listed:Array Bool}{a:Act}{w:World}(hi:ops[i]? = some oi)
 (h:wpAnyH P md ops (onlyN K) S fuel (listed.setIfInBounds i true) (a.put oi.dst undef) w)
 (hg:oi.guard=some (j,want):=by rfl) (hj:ops[j]? = some oj:=by rfl) (hd:oj.dst=some d:=by rfl) (hv:a.eval (.tmp d)=undef:=by simp only[GE,MX,EX,Ee,if_pos,if_neg,reduceIte,Nat.reduceEqDiff,Nat.reduceLT,Nat.reduceBEq];try rfl) (hs:Region.noSelect ops=true:=by kernel_rfl) (hf:Region.free md ops listed i=true:=by kernel_rfl) (hr:(Region.ready md ops listed).contains i=true:=by kernel_rfl) (hS:S w:=by assumption):wpAnyH P md ops (onlyN K) S (fuel+1) listed a w :=
 wpAnyH_take hi hs hf hr (fun _ _ _ h=>h) (.inr ⟨wanted_no hg hj hd hv,rfl⟩) hS h
end Go.Proofs.YteebpnbdihcfmaaGreatDoor
