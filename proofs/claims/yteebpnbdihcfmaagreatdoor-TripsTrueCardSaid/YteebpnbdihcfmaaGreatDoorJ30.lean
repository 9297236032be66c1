/- R09; The reference's own checks (R9); R12; R12; R12; R14 -/
import Derived.Test.YteebpnbdihcfmaaGreatDoorJ08
import Derived.Test.YteebpnbdihcfmaaGreatDoorJ04
import Derived.Test.YteebpnbdihcfmaaGreatDoorJ29
import Derived.Test.YteebpnbdihcfmaaGreatDoorJ06
import Derived.Test.YteebpnbdihcfmaaGreatDoorJ01
set_option linter.unusedVariables false
set_option linter.unusedSimpArgs false
set_option maxRecDepth 100000
set_option maxHeartbeats 20000000
namespace Go.Proofs.YteebpnbdihcfmaaGreatDoor
open Go.RowKit
def wrB (op:Int):Bool:=(decide (1<=op)&&decide (op<=11))||decide (op=18)||decide (op=19)
theorem wrB_eq (op:Int):(knownB op&&(rowAt op.toNat).writes)=wrB op:=by
 by_cases h:0<=op/\op<20
 ·obtain⟨k,rfl⟩:=Int.eq_ofNat_of_zero_le h.1;have hk:k<20:=oz
  have:∀ k:Fin 20,(knownB ((k.val:Nat):Int)&&(rowAt ((k.val:Nat):Int).toNat).writes)=wrB ((k.val:Nat):Int):=dc
  exact this ⟨k,hk⟩
 ·have h1:knownB op=false:=by unfold knownB;simp;omega
  have h2:wrB op=false:=by unfold wrB;simp;omega
  rw[h1,h2];rfl
theorem rwrites_any (x:PIns) (w:World):Calls Tryz.prog 76 #[InsVal x] w fun e w'=>e=.returned (.int .i64 (writesP x))/\Below w.heap.size w w':=by
 have hE:writesP x=if wrB x.op then x.a else -1:=by unfold writesP;rw[wrB_eq]
 rw[hE];clear hE;obtain⟨op,a,b,c,n⟩:=x;unfold InsVal;dsimp only;by_cases h:wrB op=true
 ·rw[h];have h2:op=1\/op=2\/op=3\/op=4\/op=5\/op=6\/op=7\/op=8\/op=9\/op=10\/op=11\/op=18\/op=19:=by unfold wrB at h;simp at h;omega
  clear h;rcases h2 with rfl|rfl|rfl|rfl|rfl|rfl|rfl|rfl|rfl|rfl|rfl|rfl|rfl
  all_goals
   go_enter Tryz.func76,Tryz.ntmps76;go_wp2
   try rw[Exit.noGoto_ret]
   go_ret;exact⟨rfl,bel⟩
 ·have h2:wrB op=false:=by simpa using h
  rw[h2];have e1:(op==1)=false:=by unfold wrB at h;simp at h ⊢;omega
  have e2:(op==2)=false:=by unfold wrB at h;simp at h ⊢;omega
  have e3:(op==3)=false:=by unfold wrB at h;simp at h ⊢;omega
  have e4:(op==4)=false:=by unfold wrB at h;simp at h ⊢;omega
  have e5:(op==5)=false:=by unfold wrB at h;simp at h ⊢;omega
  have e6:(op==6)=false:=by unfold wrB at h;simp at h ⊢;omega
  have e7:(op==7)=false:=by unfold wrB at h;simp at h ⊢;omega
  have e8:(op==8)=false:=by unfold wrB at h;simp at h ⊢;omega
  have e9:(op==9)=false:=by unfold wrB at h;simp at h ⊢;omega
  have e10:(op==10)=false:=by unfold wrB at h;simp at h ⊢;omega
  have e11:(op==11)=false:=by unfold wrB at h;simp at h ⊢;omega
  have e18:(op==18)=false:=by unfold wrB at h;simp at h ⊢;omega
  have e19:(op==19)=false:=by unfold wrB at h;simp at h ⊢;omega
  clear h h2;go_enter Tryz.func76,Tryz.ntmps76;go_wp2
  try rw[Exit.noGoto_ret]
  go_ret;exact⟨rfl,bel⟩
theorem rknown_any (op:Int) (w:World) :
 Calls Tryz.prog 71 #[.int .i64 op] w fun e w'=>e=.returned (.bool (knownB op))/\w'=w:=by
 have hk:knownB op=(decide (0<=op)&&decide (op<=19)):=by unfold knownB;grind
 rw[hk];go_enter Tryz.func71,Tryz.ntmps71;go_wp2
 all_goals
  go_ret;go_light;refine⟨ret_bool ?_,rfl⟩
  grind
theorem rregister_any (has:Bool) (r regs:Int) (w:World) :
 Calls Tryz.prog 73 #[.bool has,.int .i64 r,.int .i64 regs] w fun e w'=>e=.returned (.int .i64 (fieldP has r regs))/\w'=w:=by
 cases has
 all_goals
  go_enter Tryz.func73,Tryz.ntmps73;go_wp2
 all_goals
  go_ret;go_light;refine⟨ret_int ?_,rfl⟩;unfold fieldP
  grind
theorem rtarget_any (op:Int) (w:World) :
 Calls Tryz.prog 74 #[.int .i64 op] w fun e w'=>e=.returned (.bool (decide (op=14\/op=15\/op=16\/op=17\/op=18)))/\w'=w:=by
 go_enter Tryz.func74,Tryz.ntmps74;go_wp2
 all_goals
  go_ret;go_light;refine⟨ret_bool ?_,rfl⟩
  grind
theorem risName_any (s:ByteArray) (w:World) (hs:s.size<=maxLen) :
 Calls Tryz.prog 70 #[.string s] w fun e w'=>e=.returned (.bool (isNameB s))/\w'=w:=by
 unfold maxLen at hs;go_enter Tryz.func70,Tryz.ntmps70;go_wp2
 all_goals first
  | (go_ret;go_light;refine⟨ret_bool ?_,rfl⟩;unfold isNameB;grind)
  | skip
 go_loop [3] (fun i=>∃ k:Nat,k<=s.size/\i=.int .i64 k/\nameTo s k) (fun i=>s.size-(intOf i).toNat)
 case atStart=>exact⟨0,Nat.zero_le _,rfl,by intro i h;omega⟩
 case round =>
  obtain⟨k,hk,rfl,hn⟩:=hrel;have HE:=nameTo_end s k;have HS:=nameTo_succ s k;have HN:=nameTo_not s k;go_wp2
  all_goals first
   | (go_ret;go_light;refine⟨?_,rfl⟩;refine ret_bool ?_;first|(rw[HN (by assumption) (by grind)])|(have:=HE (by assumption) hk hn;unfold isNameB;rw[this];grind))
   | (go_round
      case rel=>go_light;exact⟨k+1,by grind,by grind,HS (by assumption) hn (by grind)⟩
      case measure=>go_light;simp[intOf];grind)
   | skip
def hasRP (op:Int):List Value:=let R:=rowAt op.toNat;[.bool R.a,.bool R.b,.bool R.c,.bool (decide (R.n≠0))]
theorem hasA (k:Nat) (h:k=0):hasRP k=[.bool true,.bool false,.bool false,.bool false]:=by subst h;rfl
theorem hasB (k:Nat) (h:k=1\/k=13\/k=15\/k=16\/k=18):hasRP k=[.bool true,.bool false,.bool false,.bool true]:=by rcases h with rfl|rfl|rfl|rfl|rfl<;>rfl
theorem hasC (k:Nat) (h:k=2\/k=10):hasRP k=[.bool true,.bool true,.bool false,.bool false]:=by rcases h with rfl|rfl<;>rfl
theorem hasD (k:Nat) (h:3<=k/\k<=9):hasRP k=[.bool true,.bool true,.bool true,.bool false]:=by
 rcases(show k=3\/k=4\/k=5\/k=6\/k=7\/k=8\/k=9 by omega)with rfl|rfl|rfl|rfl|rfl|rfl|rfl<;>rfl
theorem hasE (k:Nat) (h:k=11\/k=12\/k=17\/k=19):hasRP k=[.bool true,.bool true,.bool false,.bool true]:=by rcases h with rfl|rfl|rfl|rfl<;>rfl
theorem hasF (k:Nat) (h:k=14):hasRP k=[.bool false,.bool false,.bool false,.bool true]:=by subst h;rfl
theorem has_end (Q:Ending->World->Prop) (T:Array Value) (W:World) (k:Nat) (a b c d:Value) (ho:Own W k [a,b,c,d]) (hT:T[2]? = some (.pointer (some ⟨k,0,none⟩)))
 (hq:Q (.returned (.agg #[a,b,c,d])) W):bodyPost Tryz.prog Tryz.f72 Q .ret { tmps:=T,defers:=[] } W:=by
 have r0:=ho.2.1 0 _ rfl;have r1:=ho.2.1 1 _ rfl;have r2:=ho.2.1 2 _ rfl;have r3:=ho.2.1 3 _ rfl;have hr:(results Tryz.f72 T).run Tryz.prog W=.ok (.agg #[a,b,c,d]) W:=by
  simp[results,Tryz.results72,go_sem,hT,r0,r1,r2,r3]
 exact bodyPost_ret hr rfl hq
theorem rhas_any (op:Int) (w:World) (hk:knownB op=true) :
 Calls Tryz.prog 72 #[.int .i64 op] w fun e w'=>e=.returned (.agg (hasRP op).toArray)/\Below w.heap.size w w':=by
 have h0:0<=op/\op<20:=by unfold knownB at hk;grind
 obtain⟨k,rfl⟩:=Int.eq_ofNat_of_zero_le h0.1;have hlt:k<20:=oz
 clear hk h0;go_enter Tryz.func72,Tryz.ntmps72;go_wp2
 all_goals first
  | (refine has_end _ _ _ w.heap.size _ _ _ _ (Own.new w _ _) rfl ⟨?_,bel⟩
     simp only[beq_iff_eq,beq_eq_false_iff_ne,ne_eq]at *
     first
      | (rw[hasA k (by omega)])
      | (rw[hasB k (by omega)])
      | (rw[hasC k (by omega)])
      | (rw[hasD k (by omega)])
      | (rw[hasE k (by omega)])
      | (rw[hasF k (by omega)]))
  | (exfalso;simp only[beq_iff_eq,beq_eq_false_iff_ne,ne_eq]at *;omega)
/-- a list of numbers in memory of its own; it may be an empty row -/
def FreshN (w:World) (l:List Int) (e:Ending) (w':World):Prop:=∃ v,e=.returned v/\Below w.heap.size w w'/\w'.ownsRow 0 3 1 v l.length (Nums l)/\(∀ k,v.ownBlock=some k->w.heap.size<=k)
/-- a literal of no elements -/
theorem row_none (w:World) (e:TypeId) (size:Nat) {g:Nat}(hg:g=w.heap.size):(w.alloc (.cells #[] e)).ownsRow 0 e size (.slice (some ⟨g,0,none⟩) 0 0) 0 []:=by
 subst hg;exact World.ownsRow_lit (e:=e) (size:=size) w #[] 0 (Nat.zero_le _) (Nat.zero_le _) si
theorem rnext_any (B:Nat) (hh:HF) (f:PFunc) (k:Nat) (w:World) (hB:B<=w.heap.size) (hf:FuncOk B w hh f) (hat:k<f.code.length) (hn:f.code.length<=1024):Calls Tryz.prog 59 #[FuncVal hh f,.int .i64 k] w (FreshN w (nextP f k)):=by
 rw[rnext_eq];obtain⟨x,hx⟩:∃ x,f.code.getD k default=x:=⟨_,rfl⟩
 rw[hx];have h64:In64 x.n:=by
  obtain⟨_,_,⟨hcl,_,cb,co,_,hcc⟩,_,_⟩:=hf;have:=(hcc k oz).2.2.2.2.2;rw[hx]at this;exact this
 obtain⟨pa,pl,pc,cb,co,cc,rfl,hcm,hcB,⟨g0,g1,g2,g3,g4⟩,hcbl,hcb1,hcb2,hcb3,hfr,hwf⟩:=code_pre hB hf hat hn hx;obtain⟨op,xa,xb,xc,xn⟩:=x;dsimp only at *;have q0:¬(k:Int)<0:=oz
 have q1:¬(f.code.length:Int)<=(k:Int):=oz
 have q2:decide ((k:Int)<0)=false:=si
 have q3:decide ((f.code.length:Int)<=(k:Int))=false:=by simp;omega
 have H64:=qd h64;have HX:=qd hx;obtain⟨RES,hRES⟩:∃ q,rnextX f ⟨op,xa,xb,xc,xn⟩ k=q:=⟨_,rfl⟩
 rw[hRES];have HRES:=qd hRES;clear hRES;unfold FuncVal FreshN;dsimp only;clear hf hx h64 hcm hcB;go_enter Tryz.func59,Tryz.ntmps59;go_upto_region 5 with(fail)
 generalize hW0:World.alloc _ _=W0;have HE:Hid (W0.ownsRow 0 3 1 (.slice (some ⟨w.heap.size+1,0,none⟩) 0 0) 0 []):=qd (by rw[<-hW0];refine row_below bel (row_none (w.alloc _) _ _ ?_);simp);obtain⟨hb0,OF,OE,OX,hz0⟩:=own_three hW0;clear hW0 g0 g1 g2 g3 g4 OE;have f5:=own5 OF;have x5:=own5 OX;go_upto_region 6 with(first|(go_at_call 71;refine(rknown_any _ _).mono ?_;rintro e w1 ⟨rfl,hw1⟩;have hw2:=hw1.symm;subst hw2)|fail)
 go_cut [7,8] (fun v7 v wx=>v=.bool (aheadB ⟨op,xa,xb,xc,xn⟩)/\wx=W0)
 case first =>
  by_cases hk:knownB op=true
  ·by_cases e0:op=0
   ·have r0:(op != 0)=false:=by simp[e0]
    go_wp2;go_meet
    all_goals exact⟨by simp[aheadB,e0],rfl⟩
   have r0:(op != 0)=true:=by simpa using e0
   by_cases e1:op=14
   ·have r1:(op != 14)=false:=by simp[e1]
    go_wp2;go_meet
    all_goals exact⟨by simp[aheadB,e1],rfl⟩
   have r1:(op != 14)=true:=by simpa using e1
   by_cases e2:op=18
   ·have r2:(op != 18)=false:=by simp[e2]
    go_wp2;go_meet
    all_goals exact⟨by simp[aheadB,e2],rfl⟩
   have r2:(op != 18)=true:=by simpa using e2
   have hA:aheadB ⟨op,xa,xb,xc,xn⟩=true:=by simp[aheadB,hk,e0,e1,e2]
   have HA:=qd hA;clear hA e0 e1 e2;go_wp2;go_meet
   all_goals exact⟨by rw[HA.out],rfl⟩
  ·have hk2:knownB op=false:=by simpa using hk
   have hA:aheadB ⟨op,xa,xb,xc,xn⟩=false:=by simp[aheadB,hk2]
   have HA:=qd hA;clear hA;go_wp2;go_meet
   all_goals exact⟨by rw[HA.out],rfl⟩
 case rest =>
  obtain⟨rfl,rfl⟩:=hcut;obtain⟨wb,hwb⟩:∃ wb:World,wb=wc:=⟨_,rfl⟩
  subst hwb;have hfar:farB f ⟨op,xa,xb,xc,xn⟩=(decide (op=14\/op=15\/op=16\/op=17\/op=18)&&decide (0<=xn)&&decide (xn<f.code.length)):=by
   unfold farB;rw[Bool.eq_iff_iff];simp only[Bool.and_eq_true,decide_eq_true_eq];omega
  have hR:rnextX f ⟨op,xa,xb,xc,xn⟩ k=(if aheadB ⟨op,xa,xb,xc,xn⟩&&decide (k+1<f.code.length)then[(k:Int)+1]else[])++(if farB f ⟨op,xa,xb,xc,xn⟩ && !(aheadB ⟨op,xa,xb,xc,xn⟩&&decide (xn=(k:Int)+1))then[xn]else[]):=rfl;rw[HRES.out]at hR;have HR:=qd hR;clear hR HRES;generalize aheadB ⟨op,xa,xb,xc,xn⟩=ah at *;generalize farB f ⟨op,xa,xb,xc,xn⟩=fr at *;have HFAR:=qd hfar;clear hfar;go_upto_region 7 with(fail)
  go_cut [53] (fun v wx=>v=.bool (ah&&decide (k+1<f.code.length))/\wx=wb)
  case first =>
   cases ah
   ·go_wp2;go_meet
    all_goals exact⟨rfl,rfl⟩
   ·by_cases h1:k+1<f.code.length
    ·have h2:(k:Int)+1<(f.code.length:Int):=oz
     have H1:=qd h1;clear h1;go_wp2;go_meet
     all_goals exact⟨by simp[H1.out],rfl⟩
    ·have h2:¬(k:Int)+1<(f.code.length:Int):=oz
     have H1:=qd h1;clear h1;go_wp2;go_meet
     all_goals exact⟨by simp[H1.out],rfl⟩
  case rest =>
   obtain⟨rfl,rfl⟩:=hcut;obtain⟨wb,hwb⟩:∃ wb:World,wb=wc:=⟨_,rfl⟩
   subst hwb;generalize hB1:(ah&&decide (k+1<f.code.length))=b1;have HB1:=qd hB1;clear hB1;go_upto_if 53 with(fail)
   go_cut [5] (fun v wx=>∃ a c,v=.slice a (if b1=true then[(k:Int)+1]else[]).length c/\Hid (wx.ownsRow 0 3 1 v (if b1=true then[(k:Int)+1]else[]).length (Nums (if b1=true then[(k:Int)+1]else[])))/\Chg (fun j=>j=w.heap.size+1) wb wx/\(∀ j,v.ownBlock=some j->j=w.heap.size+1\/wb.heap.size<=j))
   case first =>
    cases b1
    ·go_wp2;go_meet
     all_goals exact⟨_,_,rfl,HE,Chg.refl _ _,fun j hj=>.inl (by simpa[Value.ownBlock]using hj.symm)⟩
    ·go_wp2_with (first|(at_builtin;refine wpList_app rfl (.tmp 54) (.tmp 57) 50 3 1 8 (.int .i64 0) rfl Tryz.underlying50 Tryz.infoI rfl dc (.slice (some ⟨w.heap.size+1,0,none⟩) 0 0) _ _ rfl (row_below bal HE.out) ⟨wb.heap.size,0,none⟩ 1 1 (Nums [(k:Int)+1]) rfl rfl (src_own (Own.new' _ _ _ _ rfl)) (Nums_one _) dc dc dc ?_;intro g4 c4 w4 hr4 hc4 hg4)|fail)
     go_meet;have hcA:Chg (fun j=>j=w.heap.size+1) wb w4:=(Chg.of bal).trans (hc4.mono (fun j _ hj=>by have h9:w.heap.size+1=j:=ob1 hj;omega));exact⟨_,_,rfl,qd hr4,hcA,fun j hj=>by
      have e:g4=j:=ob1 hj
      rcases hg4 with h|h
      ·left;have h9:w.heap.size+1=g4:=ob1 h;omega
      ·right;simp at h;omega⟩
   case rest =>
    obtain⟨a1,c1,rfl,HL,hc1,hv1⟩:=hcut;obtain⟨w1,hw1⟩:∃ wb:World,wb=wc:=⟨_,rfl⟩
    subst hw1;generalize hL1:(if b1=true then[(k:Int)+1]else[])=L1 at *;have OF1:=hc1.own OF (by show ¬(w.heap.size=w.heap.size+1);omega);have OX1:=hc1.own OX (by show ¬(w.heap.size+1+1=w.heap.size+1);omega);have f5b:=own5 OF1;have x5b:=own5 OX1;have hz1:=hc1.size;have hb1:Below w.heap.size w w1:=hb0.trans (hc1.below _ hb0.size (fun j _ e=>by have e2:j=w.heap.size+1:=e;omega));clear f5 x5 OF OX HE hc1 hb0 HX;go_upto_region 9 with(fail)
    go_cut [9] (fun v wx=>v=.bool fr/\wx=w1)
    case first =>
     by_cases ht:op=14\/op=15\/op=16\/op=17\/op=18
     ·have hd:decide (op=14\/op=15\/op=16\/op=17\/op=18)=true:=by simpa using ht
      have HT:=qd ht;have htg:=rtarget_any op w1;rw[hd]at htg HFAR;have HTG:=qd htg;clear ht hd htg;by_cases h0:0<=xn
      ·by_cases h1:xn<(f.code.length:Int)
       ·have hF:fr=true:=by rw[HFAR.out];simp[h0,h1]
        have HF:=qd hF;clear hF;go_wp2_with (first|(go_at_call 74;refine HTG.out.mono ?_;rintro e w2 ⟨rfl,hw2⟩;have hw3:=hw2.symm;subst hw3)|fail)
        go_meet
        all_goals exact⟨by rw[HF.out],rfl⟩
       ·have hF:fr=false:=by rw[HFAR.out];simp[h1]
        have HF:=qd hF;clear hF;go_wp2_with (first|(go_at_call 74;refine HTG.out.mono ?_;rintro e w2 ⟨rfl,hw2⟩;have hw3:=hw2.symm;subst hw3)|fail)
        go_meet
        all_goals exact⟨by rw[HF.out];simp;omega,rfl⟩
      ·have hF:fr=false:=by rw[HFAR.out];simp[h0]
       have HF:=qd hF;clear hF;go_wp2_with (first|(go_at_call 74;refine HTG.out.mono ?_;rintro e w2 ⟨rfl,hw2⟩;have hw3:=hw2.symm;subst hw3)|fail)
       go_meet
       all_goals exact⟨by rw[HF.out],rfl⟩
     ·have hd:decide (op=14\/op=15\/op=16\/op=17\/op=18)=false:=by simpa using ht
      have htg:=rtarget_any op w1;rw[hd]at htg HFAR;have HTG:=qd htg;have hF:fr=false:=by rw[HFAR.out];rfl
      have HF:=qd hF;clear ht hd htg hF;go_wp2_with (first|(go_at_call 74;refine HTG.out.mono ?_;rintro e w2 ⟨rfl,hw2⟩;have hw3:=hw2.symm;subst hw3)|fail)
      go_meet
      all_goals exact⟨by rw[HF.out],rfl⟩
    case rest =>
     obtain⟨rfl,rfl⟩:=hcut;obtain⟨w2,hw2⟩:∃ wb:World,wb=wc:=⟨_,rfl⟩
     subst hw2;go_upto_region 10 with(fail)
     go_cut [86] (fun v wx=>v=.bool (fr && !(ah&&decide (xn=(k:Int)+1)))/\wx=w2)
     case first =>
      cases fr
      ·go_wp2;go_meet
       all_goals exact⟨rfl,rfl⟩
      ·cases ah
       ·go_wp2;go_meet
        all_goals exact⟨rfl,rfl⟩
       ·by_cases h1:xn=(k:Int)+1
        ·have e1:(xn==(k:Int)+1)=true:=by simpa using h1
         have H1:=qd h1;clear h1;go_wp2;go_meet
         all_goals exact⟨by simp[H1.out],rfl⟩
        ·have e1:(xn==(k:Int)+1)=false:=by simpa using h1
         have H1:=qd h1;clear h1;go_wp2;go_meet
         all_goals exact⟨by simp[H1.out],rfl⟩
     case rest =>
      obtain⟨rfl,rfl⟩:=hcut;obtain⟨w3,hw3⟩:∃ wb:World,wb=wc:=⟨_,rfl⟩
      subst hw3;have HRR:=HR.out;generalize (fr && !(ah&&decide (xn=(k:Int)+1)))=b2 at *;have HR2:=qd HRR;clear HRR HR;cases b2
      ·have e:RES=L1:=by have h9:=HR2.out;rw[HB1.out,hL1]at h9;simpa using h9
       subst e;go_wp2
       try rw[Exit.noGoto_ret]
       go_ret;exact⟨_,rfl,hb1,HL.out,fun j hj=>by have:=hv1 j hj;omega⟩
      ·have e:RES=L1++[xn]:=by have h9:=HR2.out;rw[HB1.out,hL1]at h9;simpa using h9
       have hl:L1.length<=1:=by rw[<-hL1];split<;>simp
       have E:=qd e;have HL2:=qd hL1;clear e hL1;go_wp2_with (first|(at_builtin;refine wpList_app rfl (.tmp 87) (.tmp 90) 50 3 1 8 (.int .i64 0) rfl Tryz.underlying50 Tryz.infoI rfl dc (.slice a1 L1.length c1) _ _ rfl (row_below bal HL.out) ⟨w3.heap.size,0,none⟩ 1 1 (Nums [xn]) rfl rfl (src_own (Own.new' _ _ _ _ rfl)) (Nums_one _) (by unfold maxLen;omega) oz dc ?_;intro g6 c6 w6 hr6 hc6 hg6)|fail)
       try rw[Exit.noGoto_ret]
       go_ret;have hcA:Chg (fun j=>(Value.slice a1 L1.length c1).ownBlock=some j) w3 w6:=(Chg.of bal).trans hc6;have hbA:=hb1.trans (hcA.below _ hb1.size (fun j hj e=>by have:=hv1 j e;omega));refine⟨_,rfl,hbA,?_,fun j hj=>?_⟩
       ·rw[E.out,List.length_append];rw[<-Nums_append]at hr6;exact hr6
       ·have e:g6=j:=ob1 hj
        subst e;rcases hg6 with h|h
        ·have:=hv1 _ h;omega
        ·simp at h;omega
def natI (l:List Nat):List Int:=l.map Int.ofNat
theorem natI_snoc (l:List Nat) (a:Nat):natI (l++[a])=natI l++[(a:Int)]:=by simp[natI]
theorem natI_at {l:List Nat}{i u:Nat}(h:l[i]? = some u):(natI l)[i]? = some (u:Int):=by unfold natI;rw[List.getElem?_map,h];rfl
theorem rhas12_any (B:Nat) (hh:HF) (f:PFunc) (w:World) (hf:FuncOk B w hh f) (hn0:0<f.code.length) (hn:f.code.length<=1024):Calls Tryz.prog 103 #[FuncVal hh f] w fun e w'=>e=.returned (.bool true)/\Below w.heap.size w w':=by
 obtain⟨pa,pl,pc,ca,cl,cc⟩:=hh;obtain⟨_,_,⟨hcl,_⟩,_,_⟩:=hf;dsimp only at hcl;subst hcl;have i1:(0:Int)<(f.code.length:Int):=oz
 have i2:(f.code.length:Int)<=1024:=oz
 unfold FuncVal;dsimp only;go_enter Tryz.func103,Tryz.ntmps103;go_wp2;go_ret;exact⟨rfl,bel⟩
theorem rwithout_any (B:Nat) (hh:HF) (f:PFunc) (g:Int) (w:World) (hB:B<=w.heap.size) (hf:FuncOk B w hh f) (hn0:0<f.code.length) (hn:f.code.length<=1024):Calls Tryz.prog 75 #[FuncVal hh f,.int .i64 g] w (FreshB w (wOutP f g)):=by
 obtain⟨j0,gi,gz0,gz1,gz2⟩:=info_parts Tryz.infoB;have hmk:=run_make_row' (P:=Tryz.prog) 89 4 (.bool false) 1 Tryz.underlying89 Tryz.infoB rfl .i64 .i64 f.code.length oz oz;rw[madeBools]at hmk;have HF:=qd hf;have HHas:=qd (fun w' (h:FuncOk B w' hh f)=>rhas12_any B hh f w' h hn0 hn);have HNX:=qd (fun(a:Nat) w' (hw:B<=w'.heap.size) (h:FuncOk B w' hh f) (ha:a<f.code.length)=>rnext_any B hh f a w' hw h ha hn);obtain⟨pa,pl,pc,ca,cl,cc⟩:=hh;have hcl:f.code.length=cl:=hf.2.2.1.1;subst hcl;clear hf;unfold FuncVal at *;dsimp only at *;have hZ:=qd (fun e:g=0=>show wOutP f g=_ from e▸wOut_zero f);have hD:Hid (∀ can todo i k,WInv f g can todo i k->todo.length<=i->can=wOutP f g):=qd (fun can todo i k h hi=>h.done hi);have hLen:Hid ((wOutP f g).length=f.code.length):=qd (by simp[wOutP]);generalize wOutP f g=RP at *;go_enter Tryz.func75,Tryz.ntmps75;go_upto_region 3 with(first|(go_at_call 103;refine(HHas.out _ (HF.out.same (Same.of (by exact bel) hB))).mono ?_;rintro e w1 ⟨rfl,hb1⟩)|fail)
 have hbw1:Below w.heap.size w w1:=bal.trans (hb1.mono si);have OB1:Own w1 w.heap.size [.string f.name,.slice pa pl pc,.int .i64 f.regs,.int .i64 f.words,.slice ca f.code.length cc]:=(Own.new w [.string f.name,.slice pa pl pc,.int .i64 f.regs,.int .i64 f.words,.slice ca f.code.length cc] _).below hb1;have hz1:w.heap.size+1<=w1.heap.size:=by have:=hb1.size;simpa using this
 have b5:=own5 OB1;clear hb1 HHas;by_cases hg0:g=0
 ·have hr0:=hZ.out hg0;subst hg0;have HR0:=qd hr0;clear hr0 hZ hD;go_wp2
  try rw[Exit.noGoto_ret]
  go_ret;refine⟨_,rfl,hbw1.alloc oz _,?_,fun j hj=>?_⟩
  ·rw[hLen.out,HR0.out];have h9:=World.ownsRow_lit w1 (base:=0) (e:=4) (size:=1) (Bools (List.replicate f.code.length false)).toArray f.code.length (Nat.zero_le _) (by unfold maxLen;omega) (by simp[Bools]);exact h9
  ·have e:w1.heap.size=j:=ob1 hj
   omega
 ·have i1:(g==0)=false:=by simpa using hg0
  have i2:¬g=0:=hg0;have hS:=qd (WInv.start (f:=f) (g:=g) hn0 hg0);have i3:(0:Int)<(f.code.length:Int):=oz
  clear hZ;go_upto_region 6 with(fail)
  have HC:(w1.alloc (.cells (Bools (List.replicate f.code.length false)).toArray 4)).ownsRow 0 4 1 (.slice (some ⟨w1.heap.size,0,none⟩) f.code.length f.code.length) f.code.length (Bools (List.replicate f.code.length false)):=World.ownsRow_lit w1 (base:=0) (e:=4) (size:=1) (Bools (List.replicate f.code.length false)).toArray f.code.length (Nat.zero_le _) (by unfold maxLen;omega) (by simp[Bools]);generalize hW2:World.alloc _ _=W2 at *;obtain⟨cb,hcb⟩:∃ cb,w1.heap.size=cb:=⟨_,rfl⟩
  rw[hcb]at HC ⊢;have hb2:Below w.heap.size w W2:=by rw[<-hW2];exact hbw1.alloc oz _
  have OB2:Own W2 w.heap.size [.string f.name,.slice pa pl pc,.int .i64 f.regs,.int .i64 f.words,.slice ca f.code.length cc]:=by rw[<-hW2];exact OB1.alloc _
  have hcl:cb<W2.heap.size:=by rw[<-hW2,<-hcb];simp
  have hwc:w.heap.size<cb:=oz
  have c0:=row_cell HC (j:=0) (u:=.bool false) (by unfold Bools;rw[List.getElem?_map,List.getElem?_replicate,if_pos hn0];rfl);have z0:=HC.frozenAt 0;clear hW2 hcb hz1 hbw1 OB1 b5 gz0 gz1 gz2 gi hmk;go_upto_region 8 with(fail)
  have C3:=row_set HC 0 (.bool true);rw[Bools_set]at C3;generalize hW3:World.setCell _ _ _=W3 at *;have hc3:Chg (fun j=>j=cb) W2 W3:=by rw[<-hW3];exact Chg.setCell (S:=fun j=>j=cb) (Chg.refl _ _) (p:=⟨cb,0,none⟩) (.inl rfl) _
  have OB3:=hc3.own OB2 (by show ¬(w.heap.size=cb);omega);have hb3:Below w.heap.size w W3:=hb2.trans (hc3.below _ hb2.size (fun j hj e=>by have e2:j=cb:=e;omega));have hcl3:cb<W3.heap.size:=by have:=hc3.size;omega
  have hsW:W3.heap.size=W2.heap.size:=by rw[<-hW3];simp
  have T4:(W3.alloc (.cells #[.int .i64 0] 3)).ownsRow 0 3 1 (.slice (some ⟨W2.heap.size,0,none⟩) 1 1) 1 (Nums (natI [0])):=by rw[<-hsW];exact World.ownsRow_lit W3 (base:=0) (e:=3) (size:=1) #[.int .i64 0] 1 (Nat.zero_le _) dc si
  have C4:=row_below (w':=W3.alloc (.cells #[.int .i64 0] 3)) bal C3;have hb4:Below w.heap.size w (W3.alloc (.cells #[.int .i64 0] 3)):=hb3.alloc hb3.size _;have OB4:=OB3.alloc (.cells #[.int .i64 0] 3);have hz3:∀ j,(Value.slice (some ⟨W2.heap.size,0,none⟩) 1 1).ownBlock=some j->cb<j:=fun j hj=>by have e:W2.heap.size=j:=ob1 hj;omega
  clear hsW;generalize hW4:World.alloc _ _=W4 at *;have HC4:=qd C4;have HT4:=qd T4;have HB4:=qd OB4;have HBE:=qd hb4;clear hW4 hW3 HC c0 z0 hc3 hb2 hb3 OB2 OB3 C3 C4 T4 hb4 OB4 hcl hcl3;go_wp2;go_loopw [6,7] (fun v6 v7 wx=>∃ (can:List Bool) (todo:List Nat) (i:Nat),v7=.int .i64 i/\i<=todo.length/\Hid (WInv f g can todo i 0)/\Hid (Own wx w.heap.size [.string f.name,.slice pa pl pc,.int .i64 f.regs,.int .i64 f.words,.slice ca f.code.length cc])/\Hid (wx.ownsRow 0 4 1 (.slice (some ⟨cb,0,none⟩) f.code.length f.code.length) f.code.length (Bools can))/\Hid (wx.ownsRow 0 3 1 v6 todo.length (Nums (natI todo)))/\(∀ j,v6.ownBlock=some j->cb<j)/\Hid (Below w.heap.size w wx)) (fun _ i _=>f.code.length-(intOf i).toNat)
  case atStart=>exact⟨_,[0],0,rfl,Nat.zero_le _,hS,HB4,HC4,HT4,hz3,HBE⟩
  case round =>
   clear HB4 HC4 HT4 hz3 HBE hS;obtain⟨can,todo,i,rfl,hi,HI,HB,HCr,HT,hov,HBE⟩:=hrel;have hsz:=HI.out.size;have b5:=own5 HB.out;have hbw:=HBE.out.size;by_cases hit:i<todo.length
   ·have d1:(i:Int)<(todo.length:Int):=oz
    obtain⟨u,hu⟩:∃ u,todo[i]? = some u:=⟨_,List.getElem?_eq_getElem hit⟩
    have hul:=HI.out.lt u (List.mem_of_getElem? hu);obtain⟨tb,tc,rfl,htc,htm,htl⟩:=row_pos HT.out oz;have t0:=row_cell HT.out (Nums_some (natI_at hu));have hwi:IntKind.i64.wrap ((i:Int)+1)=(i:Int)+1:=IntWalk.i64_in _ oz;have HU:=qd hu;clear hu;go_upto_region 11 with(fail)
    refine wp_still 5 kr kr ?_;simp only[TD];repeat(refine WS_step (fun K hK=>?_);go_simp;refine hK _ ?_;clear hK K)
    refine WS_nil ?_;go_wp2_with fail;refine(HNX.out u wr.drew (by simp;omega) (HF.out.same (Same.of (show Below w.heap.size w wr.drew from HBE.out.drew) hB)) hul).mono ?_;rintro e w5 ⟨nv,rfl,hb5,hr5,hf5⟩;obtain⟨na,nc,rfl⟩:∃ na nc,nv=.slice na (nextP f u).length nc:=by
     rcases row_form hr5 with⟨rfl,h0,_⟩|⟨b,c,rfl,_⟩
     ·exact⟨none,0,by rw[h0]⟩
     ·exact⟨_,c,rfl⟩
    have hb5':Below wr.heap.size wr w5:=(Below.refl _ wr).drew.trans (hb5.mono si);have HB5:=qd (HB.out.below hb5');have HC5:=qd (row_below hb5' HCr.out);have HT5:=qd (row_below hb5' HT.out);have HN5:=qd hr5;have HBE5:=qd (HBE.out.trans (hb5'.mono hbw));have hcbl:=row_ltB HCr.out;have hf6:∀ j,(Value.slice na (nextP f u).length nc).ownBlock=some j->cb<j:=fun j hj=>by have h9:=hf5 j hj;simp at h9;omega
    have HF6:=qd hf6;have htn:∀ j,(Value.slice (some ⟨tb,0,none⟩) todo.length tc).ownBlock=some j->cb<j/\¬(Value.slice na (nextP f u).length nc).ownBlock=some j:=fun j hj=>⟨hov j hj,fun e=>by
     have h9:=hf5 j e;have e2:tb=j:=ob1 hj
     simp at h9;omega⟩
    have hin:=fun(t:Int) (ht:t∈nextP f u)=>nextP_in f u t ht;have hnl:=nextP_len f u;have HSK:Hid (∀ can todo k t,WInv f g can todo i k->todo[i]? = some u->(nextP f u)[k]? = some ((t:Nat):Int)->((t:Int)=g\/can.getD t false=true)->WInv f g can todo i (k+1)):=qd (fun can todo k t h hu ht hs=>h.skip hu ht hs);have HPU:Hid (∀ can todo k t,WInv f g can todo i k->todo[i]? = some u->(nextP f u)[k]? = some ((t:Nat):Int)->(t:Int)≠g->can.getD t false=false->WInv f g (can.set t true) (todo++[t]) i (k+1)):=qd (fun can todo k t h hu ht hg hc=>h.push hu ht hg hc);have HNE:Hid (∀ can todo k,WInv f g can todo i k->todo[i]? = some u->(nextP f u).length<=k->WInv f g can todo (i+1) 0):=qd (fun can todo k h hu hk=>h.next hu hk);have HIN:=qd hin;clear hb5 hr5 hf5 hf6 hb5' HB HCr HT HBE t0 hin htl htc htm b5;generalize nextP f u=nl at *;go_wp2;go_loopw [6,9] (fun v6 v9 wx=>∃ (can:List Bool) (todo:List Nat) (k:Nat),v9=.int .i64 k/\k<=nl.length/\Hid (todo[i]? = some u)/\Hid (WInv f g can todo i k)/\Hid (Own wx w.heap.size [.string f.name,.slice pa pl pc,.int .i64 f.regs,.int .i64 f.words,.slice ca f.code.length cc])/\Hid (wx.ownsRow 0 4 1 (.slice (some ⟨cb,0,none⟩) f.code.length f.code.length) f.code.length (Bools can))/\Hid (wx.ownsRow 0 3 1 v6 todo.length (Nums (natI todo)))/\Hid (wx.ownsRow 0 3 1 (.slice na nl.length nc) nl.length (Nums nl))/\(∀ j,v6.ownBlock=some j->cb<j/\¬(Value.slice na nl.length nc).ownBlock=some j)/\Hid (Below w.heap.size w wx)) (fun _ k _=>nl.length-(intOf k).toNat)
    case atStart=>exact⟨can,todo,0,rfl,Nat.zero_le _,HU,HI,HB5,HC5,HT5,HN5,htn,HBE5⟩
    case round =>
     clear HB5 HC5 HT5 HN5 htn HBE5 HU HI hov hi hsz hit d1;obtain⟨can,todo,k,rfl,hk,HU,HI,HB,HCr,HT,HN,hov,HBE⟩:=hrel;have hul2:=(List.getElem?_eq_some_iff.1 HU.out).1;have hsz:=HI.out.size;have hlen:=HI.out.len;have hbw2:=HBE.out.size;by_cases hkt:k<nl.length
     ·have d1:(k:Int)<(nl.length:Int):=oz
      have hwk:IntKind.i64.wrap ((k:Int)+1)=(k:Int)+1:=IntWalk.i64_in _ oz;obtain⟨nb,nc',hnv,-,-,hnbl⟩:=row_pos HN.out oz;cases hnv;have hgk:nl[k]? = some (nl[k]'hkt):=List.getElem?_eq_getElem hkt;have n0:=row_cell HN.out (Nums_some hgk);obtain⟨h0,h1⟩:=HIN.out _ (List.getElem_mem hkt);have HGK:=qd hgk;clear hgk;generalize nl[k]'hkt=t at *;obtain⟨t,rfl⟩:=Int.eq_ofNat_of_zero_le h0;have htt:t<f.code.length:=oz
      have ht2:(t:Int)<(f.code.length:Int):=oz
      have hct:can[t]? = some (can.getD t false):=by rw[List.getD_eq_getElem?_getD,List.getElem?_eq_getElem (by omega)];rfl
      have c0:=row_cell HCr.out (j:=t) (u:=.bool (can.getD t false)) (by unfold Bools;rw[List.getElem?_map,hct];rfl);have z0:=HCr.out.frozenAt t;have hcbl:=row_ltB HCr.out;obtain⟨ta,tc,rfl⟩:∃ ta tc,u6=.slice ta todo.length tc:=by
       rcases row_form HT.out with⟨rfl,h0,_⟩|⟨b,c,rfl,_⟩
       ·exact⟨none,0,by rw[h0]⟩
       ·exact⟨_,c,rfl⟩
      by_cases hg:(t:Int)=g
      ·have e1:((t:Int)!=g)=false:=by simp[hg]
       have HI2:=qd (HSK.out can todo k t HI.out HU.out HGK.out (.inl hg));have HG:=qd hg;clear hg;go_wp2;refine⟨⟨can,todo,k+1,si,oz,HU,HI2,HB,HCr,HT,HN,hov,HBE⟩,?_⟩;go_light;exact ml
      ·have e1:((t:Int)!=g)=true:=by simpa using hg
       cases hcc:can.getD t false
       ·rw[hcc]at c0;have HI2:=qd (HPU.out can todo k t HI.out HU.out HGK.out hg hcc);have hsz2:=HI2.out.size;rw[List.length_append]at hsz2;simp only[List.length_cons,List.length_nil]at hsz2;have HHG:=qd hg;have HCC:=qd hcc;clear hg hcc;have hst:Chg (fun j=>j=cb) wr (wr.setCell ⟨cb,t,none⟩ (.bool true)):=Chg.setCell (S:=fun j=>j=cb) (Chg.refl _ _) (p:=⟨cb,t,none⟩) (.inl rfl) _;have C2:=row_set HCr.out t (.bool true);rw[Bools_set]at C2;have HC2:=qd C2;have HT2:=qd (row_chg hst HT.out (fun j hj e=>by have:=(hov j hj).1;have e2:j=cb:=e;omega));have HN2:=qd (row_chg hst HN.out (fun j hj e=>by have:=HF6.out j hj;have e2:j=cb:=e;omega));have HB2:=qd (hst.own HB.out (by show ¬(w.heap.size=cb);omega));have HBE2:=qd (HBE.out.trans (hst.below _ hbw2 (fun j hj e=>by have e2:j=cb:=e;omega)));have n1:(wr.setCell ⟨cb,t,none⟩ (.bool true)).cell? ⟨nb,k,none⟩=some (.int .i64 t):=row_cell HN2.out (Nums_some HGK.out);have hsS:wr.heap.size<=(wr.setCell ⟨cb,t,none⟩ (.bool true)).heap.size:=si
        have hcbS:cb<(wr.setCell ⟨cb,t,none⟩ (.bool true)).heap.size:=oz
        have hnbS:nb<(wr.setCell ⟨cb,t,none⟩ (.bool true)).heap.size:=oz
        clear C2 hst;go_upto_region 17 with(fail)
        generalize wr.setCell ⟨cb,t,none⟩ (.bool true)=ws at *;go_wp2_with (first|(at_builtin;refine wpList_app rfl (.tmp 64) (.tmp 69) 50 3 1 8 (.int .i64 0) rfl Tryz.underlying50 Tryz.infoI rfl dc (.slice ta todo.length tc) _ _ rfl (row_below bal HT2.out) ⟨ws.heap.size,0,none⟩ 1 1 (Nums [(t:Int)]) rfl rfl (src_own (Own.new' _ _ _ _ rfl)) (Nums_one _) (by unfold maxLen;omega) oz dc ?_;intro g6 c6 w6 hr6 hc6 hg6)|fail)
        have hcA:Chg (fun j=>(Value.slice ta todo.length tc).ownBlock=some j) ws w6:=(Chg.of bal).trans hc6;have hv6:∀ j,(Value.slice (some ⟨g6,0,none⟩) (todo.length+1) c6).ownBlock=some j->cb<j/\¬(Value.slice (some ⟨nb,0,none⟩) nl.length nc).ownBlock=some j:=fun j hj=>by
         have e:g6=j:=ob1 hj
         subst e;rcases hg6 with h|h
         ·exact hov _ h
         ·simp at h;refine⟨oz,fun e=>?_⟩;have e2:nb=g6:=ob1 e
          omega
        have hr7:w6.ownsRow 0 3 1 (.slice (some ⟨g6,0,none⟩) (todo.length+1) c6) (todo++[t]).length (Nums (natI (todo++[t]))):=by
         rw[List.length_append,natI_snoc,Nums_append];exact hr6
        refine⟨⟨can.set t true,todo++[t],k+1,si,oz,qd (by rw[List.getElem?_append_left hul2];exact HU.out),HI2,qd (hcA.own HB2.out (fun e=>by have:=(hov _ e).1;omega)),qd (row_chg hcA HC2.out (fun j hj e=>by
         have h9:cb=j:=ob1 hj
         have:=(hov j e).1;omega)),qd hr7,qd (row_chg hcA HN2.out (fun j hj e=>(hov j e).2 hj)),hv6,qd (HBE2.out.trans (hcA.below _ HBE2.out.size (fun j hj e=>by have:=(hov j e).1;omega)))⟩,?_⟩
        go_light;exact ml
       ·rw[hcc]at c0;have HI2:=qd (HSK.out can todo k t HI.out HU.out HGK.out (.inr hcc));have HHG:=qd hg;have HCC:=qd hcc;clear hg hcc;go_wp2;refine⟨⟨can,todo,k+1,si,oz,HU,HI2,HB,HCr,HT,HN,hov,HBE⟩,?_⟩;go_light;exact ml
     ·obtain rfl:k=nl.length:=oz
      have d1:¬(nl.length:Int)<(nl.length:Int):=oz
      have HI2:=qd (HNE.out can todo _ HI.out HU.out lr);go_wp2;refine⟨⟨can,todo,i+1,si,oz,HI2,HB,HCr,HT,fun j hj=>(hov j hj).1,HBE⟩,?_⟩;go_light;exact ml
   ·obtain rfl:i=todo.length:=oz
    have d1:¬(todo.length:Int)<(todo.length:Int):=oz
    have e:=hD.out can todo _ _ HI.out lr;have HE:=qd e;clear e;obtain⟨ta,tc,rfl⟩:∃ ta tc,u6=.slice ta todo.length tc:=by
     rcases row_form HT.out with⟨rfl,h0,_⟩|⟨b,c,rfl,_⟩
     ·exact⟨none,0,by rw[h0]⟩
     ·exact⟨_,c,rfl⟩
    go_wp2
    try rw[Exit.noGoto_ret]
    go_ret;refine⟨_,rfl,HBE.out,?_,fun j hj=>?_⟩
    ·rw[hLen.out,<-HE.out];exact HCr.out
    ·have e:cb=j:=ob1 hj
     omega
theorem rreach_any (B:Nat) (hh:HF) (f:PFunc) (w:World) (hB:B<=w.heap.size) (hf:FuncOk B w hh f) (hn0:0<f.code.length) (hn:f.code.length<=1024):Calls Tryz.prog 61 #[FuncVal hh f] w (FreshB w (reachP f)):=by
 have HW:=qd (fun w' (h:Below w.heap.size w w')=>rwithout_any B hh f (-1) w' (Nat.le_trans hB h.size) (hf.same (Same.of h hB)) hn0 hn);rw[wOut_all f (by decide)]at HW;clear hf;obtain⟨pa,pl,pc,ca,cl,cc⟩:=hh;generalize reachP f=RP at *;unfold FuncVal at *;dsimp only at *;go_enter Tryz.func61,Tryz.ntmps61;go_wp2_with (first|(go_at_call 75;refine(HW.out _ bel).mono ?_;rintro e w1 ⟨v,rfl,hb,hr,hv⟩)|fail)
 go_ret;have hb0:Below w.heap.size w (w.alloc (.cells #[.string f.name,.slice pa pl pc,.int .i64 f.regs,.int .i64 f.words,.slice ca cl cc] 42)):=bal;exact⟨v,rfl,hb0.trans (hb.mono hb0.size),hr,fun k hk=>by have:=hv k hk;have:=hb0.size;omega⟩
def eCs (l:List (Nat×Int)):List Value:=l.flatMap fun e=>[.int .i64 e.1,.int .i64 e.2]
theorem eCs_app (l k:List (Nat×Int)):eCs (l++k)=eCs l++eCs k:=by unfold eCs;rw[List.flatMap_append]
theorem eCs_one (l:List (Nat×Int)):∀ v∈eCs l,v.oneCell'=true:=by
 intro v hv;obtain⟨e,_,h⟩:=List.mem_flatMap.1 hv;simp at h;rcases h with rfl|rfl<;>rfl
theorem eCs_at {l:List (Nat×Int)}{i:Nat}{e:Nat×Int}(h:l[i]? = some e):(eCs l)[i*2]? = some (.int .i64 e.1)/\(eCs l)[i*2+1]? = some (.int .i64 e.2):=by
 induction l generalizing i with
 | nil=>simp at h
 | cons x l ih =>
  cases i with
  | zero =>
   simp at h;subst h;exact⟨rfl,rfl⟩
  | succ i =>
   have h':l[i]? = some e:=by simpa using h
   obtain⟨a,b⟩:=ih h';have e1:eCs (x::l)=[.int .i64 x.1,.int .i64 x.2]++eCs l:=rfl;rw[e1];constructor
   ·rw[List.getElem?_append_right (by simp;omega)];have:(i+1)*2 - [Value.int .i64 x.1,.int .i64 x.2].length=i*2:=by simp;omega
    rw[this];exact a
   ·rw[List.getElem?_append_right (by simp;omega)];have:(i+1)*2+1 - [Value.int .i64 x.1,.int .i64 x.2].length=i*2+1:=by simp;omega
    rw[this];exact b
/-- a list of edges in memory of its own -/
def FreshE (w:World) (l:List (Nat×Int)) (e:Ending) (w':World):Prop:=∃ v,e=.returned v/\Below w.heap.size w w'/\w'.ownsRow 0 77 2 v l.length (eCs l)/\(∀ k,v.ownBlock=some k->w.heap.size<=k)
theorem Tryz.infoEg:(Tryz.prog.info? 77).map (fun i=>(i.zero,i.size,i.bytes))=some (some (.agg #[.int .i64 0,.int .i64 0]),2,16):=kr
theorem redges_any (B:Nat) (hh:HF) (f:PFunc) (w:World) (hB:B<=w.heap.size) (hf:FuncOk B w hh f) (hn0:0<f.code.length) (hn:f.code.length<=1024):Calls Tryz.prog 27 #[FuncVal hh f] w (FreshE w (edgesL f)):=by
 have HW:=qd (fun w' (h:Below w.heap.size w w')=>rreach_any B hh f w' (Nat.le_trans hB h.size) (hf.same (Same.of h hB)) hn0 hn);have HNX:=qd (fun(a:Nat) w' (h:Below w.heap.size w w') (ha:a<f.code.length)=>rnext_any B hh f a w' (Nat.le_trans hB h.size) (hf.same (Same.of h hB)) ha hn);clear hf;obtain⟨pa,pl,pc,ca,cl,cc⟩:=hh;have hRl:(reachP f).length=f.code.length:=reachP_len f;unfold edgesL;have hE0:Hid (edgesTo f 0=[]):=qd rfl;have hES:Hid (∀ u,edgesTo f (u+1)=edgesTo f u++(if(reachP f).getD u false then(nextP f u).map (fun v=>(u,v))else[])):=qd (edgesTo_succ f);have hEL:Hid (∀ u,u<=f.code.length->(edgesTo f u).length<=2048):=qd (fun u hu=>by
  have h1:=(edgesTo_pre f u hu).length_le;have h2:=edges_len f;omega)
 have hNL:Hid (∀ u,(nextP f u).length<=2):=qd (nextP_len f);generalize reachP f=RP at *;unfold FuncVal at *;dsimp only at *;generalize edgesTo f=ET at *;generalize nextP f=NX at *;go_enter Tryz.func27,Tryz.ntmps27;go_upto_region 3 with(first|(go_at_call 61;refine(HW.out _ bel).mono ?_;rintro e w1 ⟨v,rfl,hb1,hr1,hv1⟩)|fail)
 rw[hRl]at hr1;obtain⟨rb,rc,rfl,hrc,hrm,hrl⟩:=row_pos hr1 hn0;have hOE:(w1.alloc (.cells #[] 77)).ownsRow 0 77 2 (.slice (some ⟨w1.heap.size,0,none⟩) 0 0) (ET 0).length (eCs (ET 0)):=by rw[hE0.out];exact row_none w1 _ 2 rfl
 have hbw1:Below w.heap.size w w1:=bal.trans (hb1.mono si);have OB:Own w1 w.heap.size [.string f.name,.slice pa pl pc,.int .i64 f.regs,.int .i64 f.words,.slice ca cl cc]:=(Own.new w [.string f.name,.slice pa pl pc,.int .i64 f.regs,.int .i64 f.words,.slice ca cl cc] _).below hb1;have hz1:w.heap.size+1<=w1.heap.size:=by have:=hb1.size;simpa using this
 have hbw2:Below w.heap.size w (w1.alloc (.cells #[] 77)):=hbw1.alloc hbw1.size _;have OB2:=OB.alloc (.cells #[] 77);have R2:=row_below (w':=w1.alloc (.cells #[] 77)) bal hr1;have hov:∀ j,(Value.slice (some ⟨w1.heap.size,0,none⟩) 0 0).ownBlock=some j->w.heap.size<j/\j≠rb:=fun j hj=>by
  have e:w1.heap.size=j:=ob1 hj
  omega
 have hl0:(ET 0).length=0:=by rw[hE0.out];rfl
 have hrb:w.heap.size<rb:=by have h9:=hv1 rb rfl;simp at h9;omega
 rw[hl0]at hOE;generalize hW2:World.alloc _ _=W2 at *;have HO2:=qd hOE;have HB2:=qd OB2;have HR2:=qd R2;have HBE2:=qd hbw2;clear hW2 hOE OB2 R2 hbw2 OB hbw1 hr1 hb1 hv1 HW;go_wp2;go_loopw [4,5] (fun v4 v5 wx=>∃ u:Nat,v5=.int .i64 u/\u<=f.code.length/\Hid (wx.ownsRow 0 77 2 v4 (ET u).length (eCs (ET u)))/\Hid (Own wx w.heap.size [.string f.name,.slice pa pl pc,.int .i64 f.regs,.int .i64 f.words,.slice ca cl cc])/\Hid (wx.ownsRow 0 4 1 (.slice (some ⟨rb,0,none⟩) f.code.length rc) f.code.length (Bools RP))/\(∀ j,v4.ownBlock=some j->w.heap.size<j/\j≠rb)/\Hid (Below w.heap.size w wx)) (fun _ u _=>f.code.length-(intOf u).toNat)
 case atStart=>exact⟨0,rfl,Nat.zero_le _,by rw[hl0];exact HO2,HB2,HR2,hov,HBE2⟩
 case round =>
  clear HO2 HB2 HR2 hov HBE2 hl0;obtain⟨u,rfl,hu,HO,HB,HR,hov,HBE⟩:=hrel;have b5:=own5 HB.out;have hbw:=HBE.out.size;have hel:=hEL.out u hu;by_cases hut:u<f.code.length
  ·have d1:(u:Int)<(f.code.length:Int):=oz
   have hwu:IntKind.i64.wrap ((u:Int)+1)=(u:Int)+1:=IntWalk.i64_in _ oz;have r0:=row_cell HR.out (j:=u) (u:=.bool (RP.getD u false)) (by unfold Bools;rw[List.getElem?_map,List.getD_eq_getElem?_getD,List.getElem?_eq_getElem (by omega)];rfl);have HS:=qd (hES.out u);cases hcu:RP.getD u false
   ·rw[hcu]at r0;have e:ET (u+1)=ET u:=by rw[HS.out,hcu];simp
    have HEE:=qd e;clear e hcu;go_wp2;refine⟨⟨u+1,si,oz,by rw[HEE.out];exact HO,HB,HR,hov,HBE⟩,?_⟩;go_light;exact ml
   ·rw[hcu]at r0;have e:ET (u+1)=ET u++(NX u).map (fun v=>(u,v)):=by rw[HS.out,hcu];simp
    have HEE:=qd e;have hnl:=hNL.out u;have HNX2:=qd (HNX.out u wr HBE.out hut);clear e hcu;go_upto_region 8 with(first|(go_at_call 59;refine HNX2.out.mono ?_;rintro e w5 ⟨nv,rfl,hb5,hr5,hf5⟩)|fail)
    obtain⟨na,nc,rfl⟩:∃ na nc,nv=.slice na (NX u).length nc:=by
     rcases row_form hr5 with⟨rfl,h0,_⟩|⟨b,c,rfl,_⟩
     ·exact⟨none,0,by rw[h0]⟩
     ·exact⟨_,c,rfl⟩
    have HO5:=qd (row_below hb5 HO.out);have HB5:=qd (HB.out.below hb5);have HR5:=qd (row_below hb5 HR.out);have HN5:=qd hr5;have HBE5:=qd (HBE.out.trans (hb5.mono hbw));have hol:=fun j (hj:u4.ownBlock=some j)=>row_lt HO.out hj;have hov5:∀ j,u4.ownBlock=some j->(w.heap.size<j/\j≠rb)/\¬(Value.slice na (NX u).length nc).ownBlock=some j:=fun j hj=>⟨hov j hj,fun e=>by have:=hf5 j e;have:=hol j hj;omega⟩
    have hrbl:=row_ltB HR.out;have hz5:=hb5.size;clear hr5 HNX2 r0 b5 hf5;generalize NX u=nl at *;go_wp2;go_loopw [4,7] (fun v4 v7 wx=>∃ k:Nat,v7=.int .i64 k/\k<=nl.length/\Hid (wx.ownsRow 0 77 2 v4 ((ET u).length+k) (eCs (ET u++(nl.take k).map (fun v=>(u,v)))))/\Hid (Own wx w.heap.size [.string f.name,.slice pa pl pc,.int .i64 f.regs,.int .i64 f.words,.slice ca cl cc])/\Hid (wx.ownsRow 0 4 1 (.slice (some ⟨rb,0,none⟩) f.code.length rc) f.code.length (Bools RP))/\Hid (wx.ownsRow 0 3 1 (.slice na nl.length nc) nl.length (Nums nl))/\(∀ j,v4.ownBlock=some j->(w.heap.size<j/\j≠rb)/\¬(Value.slice na nl.length nc).ownBlock=some j)/\Hid (Below w.heap.size w wx)/\rb<wx.heap.size) (fun _ k _=>nl.length-(intOf k).toNat)
    case atStart=>exact⟨0,rfl,Nat.zero_le _,by simpa using HO5,HB5,HR5,HN5,hov5,HBE5,oz⟩
    case round =>
     clear HO5 HB5 HR5 HN5 hov5 HBE5 HO HB HR hov HBE hol hrbl hz5 hb5;obtain⟨k,rfl,hk,HO,HB,HR,HN,hov,HBE,hrbl⟩:=hrel;have hbw2:=HBE.out.size;obtain⟨oa,oc,rfl⟩:∃ oa oc,u4=.slice oa ((ET u).length+k) oc:=by
      rcases row_form HO.out with⟨rfl,h0,_⟩|⟨b,c,rfl,_⟩
      ·exact⟨none,0,by rw[h0]⟩
      ·exact⟨_,c,rfl⟩
     by_cases hkt:k<nl.length
     ·have d1:(k:Int)<(nl.length:Int):=oz
      have hwk:IntKind.i64.wrap ((k:Int)+1)=(k:Int)+1:=IntWalk.i64_in _ oz;obtain⟨nb,nc',hnv,-,-,hnbl⟩:=row_pos HN.out oz;cases hnv;have hgk:nl[k]? = some (nl[k]'hkt):=List.getElem?_eq_getElem hkt;have n0:=row_cell HN.out (Nums_some hgk);have hTk:nl.take (k+1)=nl.take k++[nl[k]'hkt]:=by rw[List.take_add_one,hgk];rfl
      have HTK:=qd hTk;clear hgk hTk;generalize nl[k]'hkt=t at *;go_wp2_with (first|(at_builtin;refine wpList_app rfl (.tmp 31) (.tmp 38) 73 77 2 16 (.agg #[.int .i64 0,.int .i64 0]) rfl Tryz.underlying73 Tryz.infoEg rfl dc (.slice oa ((ET u).length+k) oc) _ _ rfl (row_below bal HO.out) ⟨wr.heap.size,0,none⟩ 1 1 (eCs [(u,t)]) rfl rfl (src_own (Own.new' _ _ _ _ rfl)) (eCs_one _) (by unfold maxLen;omega) oz dc ?_;intro g6 c6 w6 hr6 hc6 hg6)|fail)
      have hcA:Chg (fun j=>(Value.slice oa ((ET u).length+k) oc).ownBlock=some j) wr w6:=(Chg.of bal).trans hc6;have hz6:=hcA.size;have hv6:∀ j,(Value.slice (some ⟨g6,0,none⟩) ((ET u).length+k+1) c6).ownBlock=some j->(w.heap.size<j/\j≠rb)/\¬(Value.slice (some ⟨nb,0,none⟩) nl.length nc).ownBlock=some j:=fun j hj=>by
       have e:g6=j:=ob1 hj
       subst e;rcases hg6 with h|h
       ·exact hov _ h
       ·simp at h;refine⟨⟨oz,oz⟩,fun e=>?_⟩;have e2:nb=g6:=ob1 e
        omega
      refine⟨⟨k+1,si,oz,qd ?_,qd (hcA.own HB.out (fun e=>by have:=(hov _ e).1.1;omega)),qd (row_chg hcA HR.out (fun j hj e=>by
       have h9:rb=j:=ob1 hj
       exact(hov j e).1.2 h9.symm)),qd (row_chg hcA HN.out (fun j hj e=>(hov j e).2 hj)),hv6,qd (HBE.out.trans (hcA.below _ hbw2 (fun j hj e=>by have:=(hov j e).1.1;omega))),oz⟩,?_⟩
      ·rw[HTK.out,List.map_append,<-List.append_assoc,eCs_app];exact hr6
      ·go_light;exact ml
     ·obtain rfl:k=nl.length:=oz
      have d1:¬(nl.length:Int)<(nl.length:Int):=oz
      have HO9:=HO.out;rw[List.take_length,<-HEE.out]at HO9;have hln:(ET (u+1)).length=(ET u).length+nl.length:=by rw[HEE.out];simp
      rw[<-hln]at HO9;have HO10:=qd HO9;have HLN:=qd hln;clear HO9 hln;go_wp2;refine⟨⟨u+1,si,oz,by rw[HLN.out]at HO10 ⊢;exact HO10,HB,HR,fun j hj=>(hov j hj).1,HBE⟩,?_⟩;go_light;exact ml
  ·obtain rfl:u=f.code.length:=oz
   have d1:¬(f.code.length:Int)<(f.code.length:Int):=oz
   go_wp2
   try rw[Exit.noGoto_ret]
   go_ret;exact⟨_,rfl,HBE.out,HO.out,fun j hj=>by have:=(hov j hj).1;omega⟩
theorem rlhas_any (B:Nat) (a:Option Addr) (n c:Nat) (l:List Int) (x:Int) (w:World) (h:NumsAt B w a n l) (hB:B<=w.heap.size):Calls Tryz.prog 14 #[.slice a n c,.int .i64 x] w fun e w'=>e=.returned (.bool (l.contains x))/\w'=w:=by
 obtain⟨R,hR⟩:∃ q,l.contains x=q:=⟨_,rfl⟩
 rw[hR];have HR:=qd hR;obtain⟨hl,hm,b,o,hb,hc⟩:=h;have HC:=qd hc;have HL:=qd hl;unfold maxLen at hm;clear hR hc hl;go_enter Tryz.func14,Tryz.ntmps14;go_wp2;go_loopw [5] (fun i wr=>∃ k:Nat,k<=n/\i=.int .i64 k/\wr=w/\Hid (∀ j,j<k->l.getD j 0≠x)) (fun i _=>n-(intOf i).toNat)
 case atStart=>exact⟨0,Nat.zero_le _,rfl,rfl,qd (fun j hj=>by omega)⟩
 case round =>
  obtain⟨k,hk,rfl,rfl,HN⟩:=hrel;by_cases hkt:k<n
  ·have d1:(k:Int)<(n:Int):=oz
   have hwk:IntKind.i64.wrap ((k:Int)+1)=(k:Int)+1:=IntWalk.i64_in _ oz;obtain⟨rfl,hbB⟩:=hb oz;have c0:=(HC.out k hkt).1;have hbl:b<wr.heap.size:=oz
   have HX:Hid (l.getD k 0=x->R=true):=qd (fun e=>by
    rw[<-HR.out,List.contains_iff_mem,<-e,List.getD_eq_getElem?_getD,List.getElem?_eq_getElem (by rw[HL.out];exact hkt)];exact List.getElem_mem _)
   have HY:Hid (l.getD k 0≠x->∀ j,j<k+1->l.getD j 0≠x):=qd (fun e j hj=>by
    by_cases e2:j=k
    ·subst e2;exact e
    ·exact HN.out j oz)
   generalize l.getD k 0=y at *;by_cases hy:y=x
   ·have q:(y==x)=true:=by simpa using hy
    have hRt:=HX.out hy;subst hRt;clear hy;go_wp2
    try rw[Exit.noGoto_ret]
    go_ret;exact⟨rfl,rfl⟩
   ·have q:(y==x)=false:=by simpa using hy
    have HY2:=qd (HY.out hy);clear hy;go_wp2;refine⟨⟨k+1,oz,si,by first|rfl|trivial,HY2⟩,?_⟩;go_light;exact ml
  ·obtain rfl:k=n:=oz
   have d1:¬(k:Int)<(k:Int):=oz
   have hRf:R=false:=by
    rw[<-HR.out];cases e:l.contains x with
    | false=>rfl
    | true =>
     obtain⟨j,hj⟩:=List.getElem?_of_mem (List.contains_iff_mem.1 e);have h9:=HN.out j (by have:=(List.getElem?_eq_some_iff.1 hj).1;rw[HL.out]at this;exact this);rw[List.getD_eq_getElem?_getD,hj]at h9;exact absurd rfl h9
   subst hRf;go_wp2
   try rw[Exit.noGoto_ret]
   go_ret;exact⟨rfl,rfl⟩
/-- two lists of edges in memory of their own -/
def FreshE2 (w:World) (la lb:List (Nat×Int)) (e:Ending) (w':World):Prop:=∃ va vb,e=.returned (.tuple #[va,vb])/\Below w.heap.size w w'/\w'.ownsRow 0 77 2 va la.length (eCs la)/\w'.ownsRow 0 77 2 vb lb.length (eCs lb)/\(∀ k,va.ownBlock=some k->w.heap.size<=k)/\(∀ k,vb.ownBlock=some k->w.heap.size<=k)/\∀ k,va.ownBlock=some k->¬vb.ownBlock=some k
theorem rsplit_any (B:Nat) (hh:HF) (f:PFunc) (w:World) (hB:B<=w.heap.size) (hf:FuncOk B w hh f) (hn0:0<f.code.length) (hn:f.code.length<=1024):Calls Tryz.prog 37 #[FuncVal hh f] w (FreshE2 w (splitA f (edgesL f)) (splitB f (edgesL f))):=by
 have HW:=qd (fun w' (h:Below w.heap.size w w')=>redges_any B hh f w' (Nat.le_trans hB h.size) (hf.same (Same.of h hB)) hn0 hn);have HO:=qd (fun(g:Int) w' (h:Below w.heap.size w w')=>rwithout_any B hh f g w' (Nat.le_trans hB h.size) (hf.same (Same.of h hB)) hn0 hn);clear hf;obtain⟨pa,pl,pc,ca,cl,cc⟩:=hh;have HEN:Hid (∀ x∈edgesL f,∃ v:Nat,x.2=v/\v<f.code.length/\x.1<f.code.length):=qd (edges_nat f);have hel:=edges_len f;have HWO:Hid (∀ g,(wOutP f g).length=f.code.length):=qd (fun g=>by simp[wOutP]);have HWD:Hid (∀ (v u:Nat),u<f.code.length->(wOutP f v).getD u false = !domB f v u):=qd (fun v u hu=>by
  classical
  unfold wOutP;rw[List.getD_eq_getElem?_getD,List.getElem?_map,List.getElem?_range hu];show decide (WR f v u) = !domB f v u;cases hd:domB f v u
  ·have:¬¬WR f v u:=fun h=>by rw[wr_dom.2 h]at hd;cases hd
   simpa using this
  ·have:=wr_dom.1 hd;simpa using this)
 generalize edgesL f=es at *;generalize wOutP f=WO at *;unfold FuncVal at *;dsimp only at *;go_enter Tryz.func37,Tryz.ntmps37;go_upto_region 4 with(first|(go_at_call 27;refine(HW.out _ bel).mono ?_;rintro e w1 ⟨ve,rfl,hb1,hr1,hv1⟩)|fail)
 obtain⟨W0,hW0⟩:∃ W0:World,W0=((w.alloc (.cells #[.string f.name,.slice pa pl pc,.int .i64 f.regs,.int .i64 f.words,.slice ca cl cc] 42)).alloc (.cells #[] 77)).alloc (.cells #[] 77):=⟨_,rfl⟩
 rw[<-hW0]at hb1 hv1;have hb0:Below w.heap.size w W0:=by rw[hW0];exact bel
 have OB0:Own W0 w.heap.size [.string f.name,.slice pa pl pc,.int .i64 f.regs,.int .i64 f.words,.slice ca cl cc]:=by rw[hW0];exact((Own.new _ _ _).alloc _).alloc _
 have ra0:W0.ownsRow 0 77 2 (.slice (some ⟨w.heap.size+1,0,none⟩) 0 0) 0 []:=by rw[hW0];refine row_below bal (row_none (w.alloc _) _ 2 ?_);simp
 have rb0:W0.ownsRow 0 77 2 (.slice (some ⟨w.heap.size+1+1,0,none⟩) 0 0) 0 []:=by rw[hW0];refine row_none ((w.alloc _).alloc _) _ 2 ?_;simp
 have hz0:w.heap.size+3=W0.heap.size:=by rw[hW0];simp
 have hz0':w.heap.size+3<=W0.heap.size:=oz
 have HB1:=qd (OB0.below hb1);have HA1:=qd (row_below hb1 ra0);have HX1:=qd (row_below hb1 rb0);have HE1:=qd hr1;have HBE1:=qd (hb0.trans (hb1.mono hb0.size));have hz1:=hb1.size;obtain⟨ea,ec,rfl⟩:∃ ea ec,ve=.slice ea es.length ec:=by
  rcases row_form hr1 with⟨rfl,h0,_⟩|⟨b,c,rfl,_⟩
  ·exact⟨none,0,by rw[h0]⟩
  ·exact⟨_,c,rfl⟩
 have HVE:Hid (∀ k,(Value.slice ea es.length ec).ownBlock=some k->w.heap.size+1+1<k):=qd (fun k hk=>by have:=hv1 k hk;omega);have hS0:splitA f (es.take 0)=[]/\splitB f (es.take 0)=[]:=⟨rfl,rfl⟩
 have hwl:w.heap.size+1+1<w1.heap.size:=oz
 clear hW0 hb0 OB0 ra0 rb0 hz0 hr1 hv1 hb1 HW;go_wp2;go_loopw [4,5,7] (fun v4 v5 v7 wx=>∃ k:Nat,v7=.int .i64 k/\k<=es.length/\Hid (wx.ownsRow 0 77 2 v4 (splitA f (es.take k)).length (eCs (splitA f (es.take k))))/\Hid (wx.ownsRow 0 77 2 v5 (splitB f (es.take k)).length (eCs (splitB f (es.take k))))/\Hid (wx.ownsRow 0 77 2 (.slice ea es.length ec) es.length (eCs es))/\Hid (Own wx w.heap.size [.string f.name,.slice pa pl pc,.int .i64 f.regs,.int .i64 f.words,.slice ca cl cc])/\Hid (Below w.heap.size w wx)/\Hid ((∀ j,v4.ownBlock=some j->w.heap.size<j/\¬v5.ownBlock=some j/\¬(Value.slice ea es.length ec).ownBlock=some j)/\∀ j,v5.ownBlock=some j->w.heap.size<j/\¬(Value.slice ea es.length ec).ownBlock=some j)) (fun _ _ k _=>es.length-(intOf k).toNat)
 case atStart=>exact⟨0,rfl,Nat.zero_le _,by rw[hS0.1];exact HA1,by rw[hS0.2];exact HX1,HE1,HB1,HBE1,qd ⟨fun j hj=>by
  have e:w.heap.size+1=j:=ob1 hj
  refine⟨oz,fun h=>?_,fun h=>by have:=HVE.out j h;omega⟩;have e2:w.heap.size+1+1=j:=ob1 h
  omega,fun j hj=>by
  have e:w.heap.size+1+1=j:=ob1 hj
  exact⟨oz,fun h=>by have:=HVE.out j h;omega⟩⟩⟩
 case round =>
  clear HA1 HX1 HE1 HB1 HBE1 HVE hS0 hwl hz1 hz0';obtain⟨k,rfl,hk,HA,HX,HE,HB,HBE,HV⟩:=hrel;have hbw:=HBE.out.size;by_cases hkt:k<es.length
  ·have d1:(k:Int)<(es.length:Int):=oz
   have hwk:IntKind.i64.wrap ((k:Int)+1)=(k:Int)+1:=IntWalk.i64_in _ oz;obtain⟨eb,ec',hev,-,-,hebl⟩:=row_pos HE.out oz;cases hev;have hgk:es[k]? = some (es[k]'hkt):=List.getElem?_eq_getElem hkt;obtain⟨v,hv1,hv2,hv3⟩:=HEN.out _ (List.getElem_mem hkt);have hTA:es.take (k+1)=es.take k++[es[k]'hkt]:=by rw[List.take_add_one,hgk];rfl
   have hAt:=eCs_at hgk;have hdm:domB f (es[k]'hkt).2.toNat (es[k]'hkt).1=domB f v (es[k]'hkt).1:=by rw[hv1,Int.toNat_natCast]
   generalize es[k]'hkt=x at *;obtain⟨u,y⟩:=x;dsimp only at *;subst hv1;have e0:=row_cell HE.out hAt.1;have e1:=row_cell HE.out hAt.2;have b5:=own5 HB.out;have HTA:=qd hTA;have HDM:=qd (show splitA f (es.take (k+1))=splitA f (es.take k)++(if domB f v u then[]else[(u,(v:Int))])/\splitB f (es.take (k+1))=splitB f (es.take k)++(if domB f v u then[(u,(v:Int))]else[])from by
    unfold splitA splitB;rw[hTA,List.filter_append,List.filter_append];cases hd:domB f v u<;>simp[hd])
   have hlA:(splitA f (es.take k)).length<=es.length:=by
    unfold splitA;exact Nat.le_trans (List.length_filter_le _ _) (by rw[List.length_take];omega)
   have hlB:(splitB f (es.take k)).length<=es.length:=by
    unfold splitB;exact Nat.le_trans (List.length_filter_le _ _) (by rw[List.length_take];omega)
   have HOv:=qd (HO.out (v:Int) wr.drew HBE.out.drew);have hw1:=HWO.out (v:Int);have hw2:=HWD.out v u hv3;clear hgk hTA hAt hdm;generalize splitA f (es.take k)=LA at *;generalize splitB f (es.take k)=LB at *;generalize WO (v:Int)=WOv at *;go_upto_region 7 with(fail)
   refine wp_still 6 kr kr ?_;simp only[TD];repeat(refine WS_step (fun K hK=>?_);go_simp;refine hK _ ?_;clear hK K)
   refine WS_nil ?_;go_wp2_with fail;refine HOv.out.mono ?_;rintro e w5 ⟨nv,rfl,hb5,hr5,hf5⟩;have hb5':Below wr.heap.size wr w5:=(Below.refl _ wr).drew.trans (hb5.mono si);rw[hw1]at hr5;obtain⟨nb,nc,rfl,-,-,hnl⟩:=row_pos hr5 hn0;have n0:=row_cell hr5 (j:=u) (u:=.bool (WOv.getD u false)) (by unfold Bools;rw[List.getElem?_map,List.getD_eq_getElem?_getD,List.getElem?_eq_getElem (by omega)];rfl);rw[hw2]at n0;have hw3:=n0;have HA5:=qd (row_below hb5' HA.out);have HX5:=qd (row_below hb5' HX.out);have HE5:=qd (row_below hb5' HE.out);have HB5:=qd (HB.out.below hb5');have HBE5:=qd (HBE.out.trans (hb5'.mono hbw));have e0':=(hb5'.cell (p:=⟨eb,k*2,none⟩) hebl).trans e0;have e1':=(hb5'.cell (p:=⟨eb,k*2+1,none⟩) hebl).trans e1;have hebl5:eb<w5.heap.size:=by have:=hb5'.size;omega
   have hal:=fun j (hj:u4.ownBlock=some j)=>row_lt HA5.out hj;have hxl:=fun j (hj:u5.ownBlock=some j)=>row_lt HX5.out hj;have HAL:=qd hal;have HXL:=qd hxl;have hul:(u:Int)<(f.code.length:Int):=oz
   have hb5w:=HBE5.out.size;clear hr5 hb5 n0 hb5' HA HX HE HB HBE e0 e1 hf5 HOv hw1 hw2 hal hxl b5;cases hd:domB f v u
   ·have HDM2:=HDM.out;rw[hd]at HDM2 hw3;simp only[Bool.false_eq_true,if_false,List.append_nil]at HDM2;have HD2:=qd HDM2;clear HDM2;obtain⟨oa,oc,hov⟩:∃ oa oc,u4=.slice oa LA.length oc:=by
     rcases row_form HA5.out with⟨h,h0,_⟩|⟨b,c,h,_⟩
     ·exact⟨none,0,by rw[h,h0]⟩
     ·exact⟨_,c,h⟩
    subst hov;go_wp2_with (first|(at_builtin;refine wpList_app rfl (.tmp 42) (.tmp 47) 73 77 2 16 (.agg #[.int .i64 0,.int .i64 0]) rfl Tryz.underlying73 Tryz.infoEg rfl dc (.slice oa LA.length oc) _ _ rfl (row_below bal HA5.out) ⟨w5.heap.size,0,none⟩ 1 1 (eCs [(u,(v:Int))]) rfl rfl (src_own (Own.new' _ _ _ _ rfl)) (eCs_one _) (by unfold maxLen;omega) oz dc ?_;intro g6 c6 w6 hr6 hc6 hg6)|fail)
    have hcA:Chg (fun j=>(Value.slice oa LA.length oc).ownBlock=some j) w5 w6:=(Chg.of bal).trans hc6;refine⟨⟨k+1,si,oz,qd (by rw[HD2.out.1,eCs_app,List.length_append];exact hr6),qd (by rw[HD2.out.2];exact row_chg hcA HX5.out (fun j hj e=>(HV.out.1 j e).2.1 hj)),qd (row_chg hcA HE5.out (fun j hj e=>(HV.out.1 j e).2.2 hj)),qd (hcA.own HB5.out (fun e=>by have:=(HV.out.1 _ e).1;omega)),qd (HBE5.out.trans (hcA.below _ hb5w (fun j hj e=>by have:=(HV.out.1 j e).1;omega))),qd ⟨fun j hj=>?_,HV.out.2⟩⟩,?_⟩
    ·have e:g6=j:=ob1 hj
     subst e;rcases hg6 with h|h
     ·exact HV.out.1 _ h
     ·simp at h;refine⟨oz,fun e=>by have:=HXL.out _ e;omega,fun e=>?_⟩;have e2:eb=g6:=ob1 e
      omega
    ·go_light;exact ml
   ·have HDM2:=HDM.out;rw[hd]at HDM2 hw3;simp only[if_true,List.append_nil]at HDM2;have HD2:=qd HDM2;clear HDM2;obtain⟨oa,oc,hov⟩:∃ oa oc,u5=.slice oa LB.length oc:=by
     rcases row_form HX5.out with⟨h,h0,_⟩|⟨b,c,h,_⟩
     ·exact⟨none,0,by rw[h,h0]⟩
     ·exact⟨_,c,h⟩
    subst hov;go_wp2_with (first|(at_builtin;refine wpList_app rfl (.tmp 35) (.tmp 40) 73 77 2 16 (.agg #[.int .i64 0,.int .i64 0]) rfl Tryz.underlying73 Tryz.infoEg rfl dc (.slice oa LB.length oc) _ _ rfl (row_below bal HX5.out) ⟨w5.heap.size,0,none⟩ 1 1 (eCs [(u,(v:Int))]) rfl rfl (src_own (Own.new' _ _ _ _ rfl)) (eCs_one _) (by unfold maxLen;omega) oz dc ?_;intro g6 c6 w6 hr6 hc6 hg6)|fail)
    have hcA:Chg (fun j=>(Value.slice oa LB.length oc).ownBlock=some j) w5 w6:=(Chg.of bal).trans hc6;refine⟨⟨k+1,si,oz,qd (by rw[HD2.out.1];exact row_chg hcA HA5.out (fun j hj e=>(HV.out.1 j hj).2.1 e)),qd (by rw[HD2.out.2,eCs_app,List.length_append];exact hr6),qd (row_chg hcA HE5.out (fun j hj e=>(HV.out.2 j e).2 hj)),qd (hcA.own HB5.out (fun e=>by have:=(HV.out.2 _ e).1;omega)),qd (HBE5.out.trans (hcA.below _ hb5w (fun j hj e=>by have:=(HV.out.2 j e).1;omega))),qd ⟨fun j hj=>?_,fun j hj=>?_⟩⟩,?_⟩
    ·refine⟨(HV.out.1 j hj).1,fun e=>?_,(HV.out.1 j hj).2.2⟩;have e1:g6=j:=ob1 e
     subst e1;rcases hg6 with h|h
     ·exact(HV.out.1 _ hj).2.1 h
     ·simp at h;have:=HAL.out _ hj;omega
    ·have e:g6=j:=ob1 hj
     subst e;rcases hg6 with h|h
     ·exact HV.out.2 _ h
     ·simp at h;refine⟨oz,fun e=>?_⟩;have e2:eb=g6:=ob1 e
      omega
    ·go_light;exact ml
  ·obtain rfl:k=es.length:=oz
   have d1:¬(es.length:Int)<(es.length:Int):=oz
   rw[List.take_length]at HA HX;go_wp2
   try rw[Exit.noGoto_ret]
   go_ret2;exact⟨_,_,rfl,HBE.out,HA.out,HX.out,fun j hj=>by have:=(HV.out.1 j hj).1;omega,fun j hj=>by have:=(HV.out.2 j hj).1;omega,fun j hj=>(HV.out.1 j hj).2.1⟩
end Go.Proofs.YteebpnbdihcfmaaGreatDoor
