/- The reference of spans; The plain forms of pac; Package bounds; Plain law -/
import Derived.Test.YteebpnbdihcfmaaGreatDoorJ05
import Derived.Test.YteebpnbdihcfmaaGreatDoorJ04
import Derived.Test.YteebpnbdihcfmaaGreatDoorJ03
set_option linter.unusedVariables false
set_option linter.unusedSimpArgs false
set_option maxRecDepth 100000
set_option maxHeartbeats 20000000
namespace Go.Proofs.YteebpnbdihcfmaaGreatDoor
open Go.RowKit
theorem aT9 {p:Prop}(h:p:=by
 cases e;go_wp2_with (first|(go_at_call 69;refine(HG.out _ _ _).mono ?_;intro e w10 h10;obtain⟨rfl,h11⟩:=h10;have h12:=h11.symm;subst h12)|(go_at_call 68;refine(HL.out _ _ _).mono ?_;intro e w10 h10;obtain⟨rfl,h11⟩:=h10;have h12:=h11.symm;subst h12)|fail)
 refine fV (by rfl) (by rfl) aK si ?_;exact⟨rfl,bel⟩):p:=h
theorem aAb (a b:Int) (w:World):Calls Tryz.prog 69 #[.int .i64 a,.int .i64 b] w fun e w'=>∃ v,e=.returned v/\v=.int .i64 (max a b)/\w'=w:=(lX a b w).mono (by rintro e w' ⟨h1,h2⟩;exact⟨_,h1,rfl,h2⟩)
theorem aCj (a b:Int) (w:World):Calls Tryz.prog 68 #[.int .i64 a,.int .i64 b] w fun e w'=>∃ v,e=.returned v/\v=.int .i64 (min a b)/\w'=w:=(nA a b w).mono (by rintro e w' ⟨h1,h2⟩;exact⟨_,h1,rfl,h2⟩)
theorem aO5 {p:Prop}(h:p:=by
 have k3:=aD (OK.out.below hb1);have OR:=O3.below hb1;have s4:=cQ OR;have q4:=aD OR;have hbv:=hbw.trans (hb1.mono hbw.size);clear s3 q3 k2;go_wp2
 try rw[Exit.noGoto_ret]
 refine bV (by rfl) (by rfl) (by rfl) ((OR.set 0 _ si).set 1 _ si) si ⟨rfl,?_⟩;exact(hbv.setCell (p:=⟨w.heap.size+1+1,0,none⟩) iA _).setCell (p:=⟨w.heap.size+1+1,1,none⟩) iA _):p:=h
theorem qZ (a b:aB) (w:World):Calls Tryz.prog 66 #[aJ a,aJ b] w fun e w'=>e=.returned (.tuple #[aJ (cZ a b).1,.bool (cZ a b).2])/\Below w.heap.size w w':=by
 have HA:=qd (fun x y w=>iQ ⟨x,y⟩ w);have HQ:Hid (cZ a b=if(rU a b).hi<(rU a b).lo then(⟨0,0⟩,false)else(rU a b,true)):=qd (by unfold cZ;rfl);obtain⟨⟨⟨ql,qh⟩,qb⟩,hq⟩:∃ q,cZ a b=q:=⟨_,rfl⟩
 rw[hq]at HQ ⊢;clear hq;obtain⟨lo,hi⟩:=a;obtain⟨lo2,hi2⟩:=b;unfold rU at HQ;unfold aJ dU at HA;unfold aJ;dsimp only at *;have hcf1:∀ (args:Array Value) (w:World),(callFunc 69 args).run Tryz.prog w=.ok (.enter 69 args) w:=fun _ _=>rfl;have hcf2:∀ (args:Array Value) (w:World),(callFunc 68 args).run Tryz.prog w=.ok (.enter 68 args) w:=fun _ _=>rfl;go_enter Tryz.func66,Tryz.ntmps66;go_upto_region 1 with(fail)
 generalize hW:World.alloc _ _=W;obtain⟨hb,o1,o2,o3,hz⟩:=iP hW;have q1:=aD o1;have q2:=aD o2;have HG:=qd (fun w=>aAb lo lo2 w);have HL:=qd (fun w=>aCj hi hi2 w);have HSS:Hid (∀ w',Below W.heap.size W w'->w'.cell? ⟨w.heap.size,0,none⟩=some (.int .i64 lo)/\w'.cell? ⟨w.heap.size,1,none⟩=some (.int .i64 hi)/\w'.cell? ⟨w.heap.size+1,0,none⟩=some (.int .i64 lo2)/\w'.cell? ⟨w.heap.size+1,1,none⟩=some (.int .i64 hi2)):=qd (fun w' h=>by
  have a1:=aD (o1.below h);have a2:=aD (o2.below h);exact⟨a1.2.1,a1.2.2.1,a2.2.1,a2.2.2.1⟩)
 have HO3:=qd o3;have HBW:=qd hb;clear hW o1 o2 o3 q1 q2 hb;go_cut [6] (fun v wc=>∃ k:Nat,v=.pointer (some ⟨k,0,none⟩)/\Hid (aF wc k [.int .i64 (max lo lo2),.int .i64 (min hi hi2)])/\Hid (Below W.heap.size W wc))
 case first =>
  go_region_held3 (fun w'=>w'.cell? ⟨w.heap.size,0,none⟩=some (.int .i64 lo)/\w'.cell? ⟨w.heap.size,1,none⟩=some (.int .i64 hi)/\w'.cell? ⟨w.heap.size+1,0,none⟩=some (.int .i64 lo2)/\w'.cell? ⟨w.heap.size+1,1,none⟩=some (.int .i64 hi2)) (exact HSS.out _ bel)
   (first
   | (refine aP rfl 69 [.tmp 8,.tmp 10] #[2,2] rfl hcf1 [.int .i64 lo,.int .i64 lo2] rfl _ (HG.out _) ?_;rintro v wM ⟨rfl,rfl⟩)
   | (refine aP rfl 68 [.tmp 13,.tmp 15] #[2,2] rfl hcf2 [.int .i64 hi,.int .i64 hi2] rfl _ (HL.out _) ?_;rintro v wM ⟨rfl,rfl⟩))
  all_goals go_wp2
  all_goals go_meet
  all_goals exact⟨_,rfl,qd (by first|exact aF.new _ _ _|exact(aF.new _ _ _).drew|exact qR (aF.new _ _ _)|exact qR (aF.new _ _ _).drew),qd bel⟩
 case rest =>
  obtain⟨k,rfl,OK,HBC⟩:=hcut;have k2:=aD OK.out;have O3:=HO3.out.below HBC.out;have s3:=cQ O3;have q3:=aD O3;have hbw:=HBW.out.trans (HBC.out.mono HBW.out.size);have hn:=HA.out (max lo lo2) (min hi hi2);by_cases h1:min hi hi2<max lo lo2
  ·rw[decide_eq_true h1]at hn;have HN:=qd hn;have e:=HQ.out;rw[if_pos h1]at e;cases e;clear hn h1;go_upto_region 3 with(first|(go_at_call 31;refine(HN.out _).mono ?_;rintro e w1 ⟨rfl,hb1⟩)|fail)
   exact aO5
  ·rw[decide_eq_false h1]at hn;have HN:=qd hn;have e:=HQ.out;rw[if_neg h1]at e;cases e;clear hn h1;go_upto_region 4 with(first|(go_at_call 31;refine(HN.out _).mono ?_;rintro e w1 ⟨rfl,hb1⟩)|fail)
   exact aO5
theorem aGi (a b:aB) (w:World) (ha:a.lo<=a.hi) (hb:b.lo<=b.hi) (i1:aM a.lo) (i2:aM b.hi):Calls Tryz.prog 67 #[aJ a,aJ b] w fun e w'=>e=.returned (.tuple #[aJ (eP a b).1,aJ (eP a b).2.1,.bool (eP a b).2.2])/\Below w.heap.size w w':=by
 have HA:=qd (fun w=>iQ a w);have HB:=qd (fun w=>iQ b w);have HQ:Hid (eP a b=if b.hi<=a.lo then(cO,cO,false)else(⟨a.lo,min a.hi (b.hi-1)⟩,⟨max b.lo (a.lo+1),b.hi⟩,true)):=qd (by unfold eP;rfl);obtain⟨⟨⟨ql,qh⟩,⟨rl,rh⟩,qb⟩,hq⟩:∃ q,eP a b=q:=⟨_,rfl⟩
 rw[hq]at HQ ⊢;clear hq;obtain⟨lo,hi⟩:=a;obtain⟨lo2,hi2⟩:=b;unfold cO at HQ;unfold aJ dU at HA HB;unfold aJ;dsimp only at *;rw[decide_eq_false (show ¬hi<lo by omega)]at HA;rw[decide_eq_false (show ¬hi2<lo2 by omega)]at HB;have hcf1:∀ (args:Array Value) (w:World),(callFunc 69 args).run Tryz.prog w=.ok (.enter 69 args) w:=fun _ _=>rfl;have hcf2:∀ (args:Array Value) (w:World),(callFunc 68 args).run Tryz.prog w=.ok (.enter 68 args) w:=fun _ _=>rfl;go_enter Tryz.func67,Tryz.ntmps67;go_upto_region 1 with(fail)
 generalize hW:World.alloc _ _=W;obtain⟨hbW,o1,o2,o3,o4,hz⟩:=eS hW;have q1:=aD o1;have O1:=qd o1;have O2:=qd o2;have O3:=qd o3;have O4:=qd o4;clear hW o1 o2 o3 o4;by_cases h:hi2<=lo
 ·have e:=HQ.out;rw[if_pos h]at e;cases e;go_upto_region 2 with(first|(go_at_call 31;first|(refine(HA.out _).mono ?_;rintro e w1 ⟨rfl,hb1⟩;have q2:=aD (O2.out.below hb1);have hbx:=hbW.trans (hb1.mono hbW.size);clear HA)|(refine(HB.out _).mono ?_;rintro e w2 ⟨rfl,hb2⟩;have hby:=hbx.trans (hb2.mono hbx.size);have p1:=aD ((O1.out.below hb1).below hb2);have p2:=aD ((O2.out.below hb1).below hb2);clear HB))|fail)
  have P3:=(O3.out.below hb1).below hb2;have P4:=(O4.out.below hb1).below hb2;have s3:=cQ P3;have s4:=cQ P4;have p3:=aD P3;have p4:=aD P4;clear q1 q2;go_wp2
  try rw[Exit.noGoto_ret]
  exact aRs
 ·have e0:=HQ.out;rw[if_neg h]at e0;have e1:lo=ql:=(congrArg (fun q:aB×aB×Bool=>q.1.lo) e0).symm;have e2:min hi (hi2-1)=qh:=(congrArg (fun q:aB×aB×Bool=>q.1.hi) e0).symm;have e3:max lo2 (lo+1)=rl:=(congrArg (fun q:aB×aB×Bool=>q.2.1.lo) e0).symm;have e4:hi2=rh:=(congrArg (fun q:aB×aB×Bool=>q.2.1.hi) e0).symm;have e5:true=qb:=(congrArg (fun q:aB×aB×Bool=>q.2.2) e0).symm;clear e0 HQ;subst e1 e2 e3 e4 e5;unfold aM at i1 i2;have hw1:IntKind.i64.wrap (hi2-1)=hi2-1:=IntWalk.i64_in _ oz;have hw2:IntKind.i64.wrap (lo+1)=lo+1:=IntWalk.i64_in _ oz;clear i1 i2;go_upto_region 3 with(first|(go_at_call 31;first|(refine(HA.out _).mono ?_;rintro e w1 ⟨rfl,hb1⟩;have q2:=aD (O2.out.below hb1);have hbx:=hbW.trans (hb1.mono hbW.size);clear HA)|(refine(HB.out _).mono ?_;rintro e w2 ⟨rfl,hb2⟩;have hby:=hbx.trans (hb2.mono hbx.size);have p1:=aD ((O1.out.below hb1).below hb2);have p2:=aD ((O2.out.below hb1).below hb2);clear HB))|fail)
  have P1:=qd ((O1.out.below hb1).below hb2);have P2:=qd ((O2.out.below hb1).below hb2);have P3:=(O3.out.below hb1).below hb2;have P4:=(O4.out.below hb1).below hb2;have HY:=qd hby;have HG:=qd (fun w=>aAb lo2 (lo+1) w);have HL:=qd (fun w=>aCj hi (hi2-1) w);have HSS:Hid (∀ w',Below w2.heap.size w2 w'->w'.cell? ⟨w.heap.size,0,none⟩=some (.int .i64 lo)/\w'.cell? ⟨w.heap.size,1,none⟩=some (.int .i64 hi)/\w'.cell? ⟨w.heap.size+1,0,none⟩=some (.int .i64 lo2)/\w'.cell? ⟨w.heap.size+1,1,none⟩=some (.int .i64 hi2)):=qd (fun w' h=>by
   have a1:=aD (P1.out.below h);have a2:=aD (P2.out.below h);exact⟨a1.2.1,a1.2.2.1,a2.2.1,a2.2.2.1⟩)
  have s3:=cQ P3;have s4:=cQ P4;have p3:=aD P3;have p4:=aD P4;have n1:w.heap.size≠w.heap.size+1+1:=oz
  have n2:w.heap.size≠w.heap.size+1+1+1:=oz
  have n3:w.heap.size+1+1≠w.heap.size:=oz
  have n4:w.heap.size+1+1+1≠w.heap.size:=oz
  clear q1 q2 O1 O2 O3 O4 hbW hb1 hb2 hbx hby ha hb;go_cut [6] (fun v wc=>v=.bool true/\Hid (aF wc (w.heap.size+1+1) [.int .i64 lo,.int .i64 (min hi (hi2-1))])/\Hid (aF wc (w.heap.size+1+1+1) [.int .i64 (max lo2 (lo+1)),.int .i64 hi2])/\Hid (Below w.heap.size w wc))
  case first =>
   have hyy:=HY.out
   go_region_held3 (fun w'=>w'.cell? ⟨w.heap.size,0,none⟩=some (.int .i64 lo)/\w'.cell? ⟨w.heap.size,1,none⟩=some (.int .i64 hi)/\w'.cell? ⟨w.heap.size+1,0,none⟩=some (.int .i64 lo2)/\w'.cell? ⟨w.heap.size+1,1,none⟩=some (.int .i64 hi2)) (first|go_keep|exact HSS.out _ ((Below.refl _ _).drew))
    (first
    | (refine aP rfl 69 [.tmp 32,.tmp 35] #[2,2] rfl hcf1 [.int .i64 lo2,.int .i64 (lo+1)] rfl _ (HG.out _) ?_;rintro v wM ⟨rfl,rfl⟩)
    | (refine aP rfl 68 [.tmp 25,.tmp 28] #[2,2] rfl hcf2 [.int .i64 hi,.int .i64 (hi2-1)] rfl _ (HL.out _) ?_;rintro v wM ⟨rfl,rfl⟩))
   all_goals go_wp2
   all_goals go_meet
   all_goals exact⟨rfl,qd aK,qd aK,qd bel⟩
  case rest =>
   obtain⟨rfl,OA,OB,HB2⟩:=hcut;go_wp2
   try rw[Exit.noGoto_ret]
   refine uO (by rfl) (by rfl) (by rfl) (by rfl) OA.out OB.out si ?_;exact⟨rfl,HB2.out⟩
theorem uK {P:aB}{x:Int}(h:P.lo<=P.hi):iC P x=⟨min P.lo x,max P.hi x⟩:=by
 unfold iC cJ;dsimp only;rw[if_neg (by omega),if_neg (by omega)]
theorem aJb (l:List Int):∀ (P:aB),P.lo<=P.hi->(l.foldl iC P).lo<=(l.foldl iC P).hi:=by
 induction l with
 | nil=>exact fun P h=>h
 | cons x l ih =>
  intro P h;rw[List.foldl_cons];refine ih _ ?_;rw[uK h];show min P.lo x<=max P.hi x;omega
theorem aAc {p:Prop}(h:p:=by
 intro w' hSw;obtain⟨s0,-⟩:=HSS.out w' hSw;go_simp;(try with_reducible rfl)):p:=h
theorem wD (b o n cap:Nat) (l:List Int) (all:Bool) (w:World) (hb:b<w.heap.size) (hn:n=l.length) (hm:n<=maxLen) (hpos:0<n) (hc:∀ i,i<n->w.cell? ⟨b,o+i,none⟩=some (.int .i64 (l.getD i 0))) :
 Calls Tryz.prog 98 #[.slice (some ⟨b,o,none⟩) n cap,.bool all] w fun e w'=>e=.returned (aJ (gK l all))/\Below w.heap.size w w':=by
 have HA:=qd sZ;subst hn;have HC:=qd hc;clear hc;unfold gK;unfold aJ at HA ⊢;unfold kO at *;dsimp only at *;cases all
 ·simp only[Bool.false_eq_true,if_false];go_enter Tryz.func98,Tryz.ntmps98;go_wp2_with (first|(go_at_call 65;refine(HA.out _).mono ?_;rintro e w1 ⟨rfl,hb1⟩;have q0:aF w1 w.heap.size [.int .i64 0,.int .i64 0]:=(aF.new w _ _).below hb1;have q1:=aD q0;have q2:=cQ q0;have hz1:=hb1.size)|fail)
  try rw[Exit.noGoto_ret]
  exact wG
 ·simp only[if_true];have c0:=HC.out 0 hpos;have hm':l.length<=9223372036854775807:=hm;rw[Nat.add_zero]at c0;have hn0:(0:Int)<l.length:=oz
  unfold aRj;have hP1:(l.take 1).foldl iC ⟨l.getD 0 0,l.getD 0 0⟩=⟨l.getD 0 0,l.getD 0 0⟩:=by
   rw[eQ iC 0 l 0 hpos,List.take_zero,List.foldl_nil,uK (Int.le_refl _)];simp
  generalize l.getD 0 0=x0 at *;have hle:=aJb l ⟨x0,x0⟩ (Int.le_refl _);go_enter Tryz.func98,Tryz.ntmps98;go_upto_region 3 with(fail)
  generalize hW:World.alloc _ _=W;have hbW:Below w.heap.size w W:=by rw[<-hW];exact bel
  have oW:aF W w.heap.size [.int .i64 0,.int .i64 0]:=by rw[<-hW];exact aF.new _ _ _
  have hbl:b<W.heap.size:=by have:=hbW.size;omega
  have cW:=(hbW.cell (p:=⟨b,o,none⟩) hb).trans c0;have HSS:Hid (∀ w',Below W.heap.size W w'->w'.cell? ⟨b,o,none⟩=some (.int .i64 x0)/\True):=qd (fun w' h=>⟨(h.cell (p:=⟨b,o,none⟩) hbl).trans cW,trivial⟩);clear hW;refine aE (fun w'=>Below W.heap.size W w') kr ((Below.refl _ W).drew) ?_;intro K0 hK0 hHeld
  (refine fH 0 rfl ?_ aAc;try simp only[Act.put,SU])
  (refine fH 1 rfl ?_ aAc;try simp only[Act.put,SU])
  (refine fH 2 rfl ?_ aAc;try simp only[Act.put,SU])
  (refine fH 3 rfl ?_ aAc;try simp only[Act.put,SU])
  (refine fH 4 rfl ?_ aAc;try simp only[Act.put,SU])
  (refine fH 5 rfl ?_ aAc;try simp only[Act.put,SU])
  (refine fH 6 rfl ?_ aAc;try simp only[Act.put,SU])
  (refine wpAnyH_ready (rs:=[7]) kr si ?_;refine iB rfl (fun K hK=>?_) AllReadyH.nil)
  go_simp
  refine hK.out _ _ ?_ (fun hHeld=>?_);(focus((try dsimp only);any_goals (exact eN.drew)));clear hK K;try simp only[Act.put,SU]
  (refine wpAnyH_ready (rs:=[8]) kr si ?_;refine iB rfl (fun K hK=>?_) AllReadyH.nil)
  go_simp
  refine hK.out _ _ ?_ (fun hHeld=>?_);(focus((try dsimp only);any_goals (exact eN.drew)));clear hK K;try simp only[Act.put,SU]
  refine aO kr ?_;refine hK0.out _ _ ?_;have hb0':Below W.heap.size W (W.alloc (.cells #[.int .i64 x0,.int .i64 x0] 47)).drew:=eN.drew;have o1:aF (W.alloc (.cells #[.int .i64 x0,.int .i64 x0] 47)).drew W.heap.size [.int .i64 x0,.int .i64 x0]:=(aF.new W _ _).drew;generalize hW0:(W.alloc (.cells #[.int .i64 x0,.int .i64 x0] 47)).drew=W0 at hb0' o1 ⊢;have hb0:=hbW.trans (hb0'.mono hbW.size);have o0:=oW.below hb0';have hwW:=oW.1;obtain⟨kb,hkb⟩:∃ kb,kb=W.heap.size:=⟨_,rfl⟩
  rw[<-hkb]at o1 hwW ⊢;clear hW0 hK0 hHeld HSS hb0' oW cW c0 hbl hbW hkb;go_wp2;go_loopw [6] (fun i wr=>∃ j:Nat,1<=j/\j<=l.length/\i=.int .i64 j/\Hid (Below w.heap.size w wr)/\Hid (aF wr w.heap.size [.int .i64 0,.int .i64 0])/\Hid (aF wr kb [.int .i64 ((l.take j).foldl iC ⟨x0,x0⟩).lo,.int .i64 ((l.take j).foldl iC ⟨x0,x0⟩).hi])) (fun i _=>l.length-(intOf i).toNat)
  case atStart=>exact⟨1,Nat.le_refl _,oz,rfl,qd hb0,qd o0,qd (by rw[hP1];exact o1)⟩
  case round =>
   clear o0 o1 hb0 hP1;obtain⟨j,hj1,hj,rfl,hbr,h0,h1⟩:=hrel;have hzr:=hbr.out.size;have q1:=aD h1.out;have q3:=cQ h1.out;by_cases hlt:j<l.length
   ·have d2:(j:Int)<(l.length:Int):=oz
    have hwk:IntKind.i64.wrap ((j:Int)+1)=(j:Int)+1:=IntWalk.i64_in _ oz;have cj:=(hbr.out.cell (p:=⟨b,o+j,none⟩) hb).trans (HC.out j hlt);have hPl:=aJb (l.take j) ⟨x0,x0⟩ (Int.le_refl _);have hS:=qd ((eQ iC 0 l j oz ⟨x0,x0⟩).trans (uK hPl));generalize List.foldl iC ⟨x0,x0⟩ (l.take j)=P at *;obtain⟨plo,phi⟩:=P;generalize l.getD j 0=x at *;dsimp only at *;have HL:=qd (nA plo x);have HG:=qd (lX phi x);go_upto_region 7 with(fail)
    refine bC 6 kr kr ?_;simp only[TD];repeat(refine bS (fun K hK=>?_);go_simp;refine hK _ ?_;clear hK K)
    refine cF ?_;go_upto_region 8 with(first|(go_at_call 68;refine(HL.out _).mono ?_;intro e w10 h10;obtain⟨rfl,h11⟩:=h10;have h12:=h11.symm;subst h12)|fail)
    generalize hW1:World.setCell _ _ _=W1;have hb1:Below w.heap.size w W1:=by rw[<-hW1];exact hbr.out.setCell (p:=⟨kb,0,none⟩) (by show _<=kb;omega) _
    have o1:aF W1 kb [.int .i64 (min plo x),.int .i64 phi]:=by rw[<-hW1];exact h1.out.set 0 _ si
    have h00:=h0.out;have o0:aF W1 w.heap.size [.int .i64 0,.int .i64 0]:=by rw[<-hW1];exact aK
    clear h00;have c1:=(hb1.cell (p:=⟨b,o+j,none⟩) hb).trans ((hbr.out.cell (p:=⟨b,o+j,none⟩) hb).symm.trans cj);have p1:=aD o1;have p3:=cQ o1;clear hW1 q1 q3 cj;refine bC 6 kr kr ?_;simp only[TD];repeat(refine bS (fun K hK=>?_);go_simp;refine hK _ ?_;clear hK K)
    refine cF ?_;go_wp2_with (first|(go_at_call 69;refine(HG.out _).mono ?_;intro e w10 h10;obtain⟨rfl,h11⟩:=h10;have h12:=h11.symm;subst h12)|fail)
    refine⟨⟨j+1,oz,oz,si,qd (((hb1.setCell (p:=⟨kb,1,none⟩) (by show _<=kb;omega) _).drew).drew),qd aK,qd (by rw[hS.out];exact((o1.set 1 _ si).drew).drew)⟩,?_⟩;go_light;exact ml
   ·have hjk:j=l.length:=oz
    subst hjk;have d2:¬(l.length:Int)<(l.length:Int):=oz
    have hS:l.foldl iC ⟨x0,x0⟩=(l.take l.length).foldl iC ⟨x0,x0⟩:=by rw[List.take_length]
    generalize List.foldl iC ⟨x0,x0⟩ (l.take l.length)=P at *;obtain⟨plo,phi⟩:=P;dsimp only at *;have HS:=qd hS;clear hS;have g0:=h0.out;have q0:=aD g0;have q2:=cQ g0;have hbr':=hbr.out;go_wp2;refine fV (by rfl) (by rfl) aK si ?_;exact⟨by rw[HS.out],bel⟩
def dL (a:aB):Prop:=aM a.lo/\aM a.hi/\a.lo<=a.hi
def cB (a:aB):aB×Bool:=(⟨if a.lo=0 then 1 else a.lo,if a.hi=0 then -1 else a.hi⟩,decide ((if a.lo=0 then 1 else a.lo)<=(if a.hi=0 then -1 else a.hi)))
def kB (n many:Int):Int:=if n<0/\wrap64 (wrap64 (many-1)-n)<wrap64 (-n)/\0<many then 9223372036854775807 else wrap64 (wrap64 (many-1)-n)
def fJ (n many:Int):aB×Bool:=if n = -9223372036854775808 then(⟨0,0⟩,false)else(⟨wrap64 (-n),kB n many⟩,decide (wrap64 (-n)<=kB n many))
def fQ (r:List aB) (i:Nat) (a:aB):List aB×Bool:=(r.set i (cZ (r.getD i default) a).1,(cZ (r.getD i default) a).2)
/-- the parameters' ranges are met, one after the other; none: one of them isn't -/
def dN (r:List aB) (b:Nat) (ps:List aB):Nat->Option (List aB)
 | 0=>some r
 | k+1=>(dN r b ps k).bind fun q=>if(fQ q (b+k) (ps.getD k default)).2 then some (fQ q (b+k) (ps.getD k default)).1 else none
def aGz (x:List aB×Bool):Option (List aB):=if x.2 then some x.1 else none
def fI (r:List aB) (i:Int):aB:=r.getD i.toNat default
def eC (r:List aB) (i:Int) (a:aB):List aB:=r.set i.toNat a
def eD (m:bA) (n:Int):List aB:=(m.funcs.getD n.toNat default).params
def lL (x:dJ) (r:List aB):Option (List aB) :=
 if(aS x.op (fI r x.b) (fI r x.c)).2 then some (eC (if x.op=6\/x.op=7 then eC r x.c (cB (fI r x.c)).1 else r) x.a (aS x.op (fI r x.b) (fI r x.c)).1)else none
def mI (x:dJ) (words:Int) (r:List aB):Option (List aB) :=
 if(fJ x.n words).2=false then none else
 if(fQ r x.b.toNat (fJ x.n words).1).2 then some (if x.op=11 then eC (fQ r x.b.toNat (fJ x.n words).1).1 x.a kO else(fQ r x.b.toNat (fJ x.n words).1).1)else none
def rT (x:dJ) (far one:Bool) (r:List aB):Option (List aB) :=
 if one then some r else if far=decide (x.op=16)then aGz (fQ r x.a.toNat ⟨0,0⟩)else
 if(cB (fI r x.a)).2 then some (eC r x.a (cB (fI r x.a)).1)else none
def mL (x:dJ) (far one:Bool) (r:List aB):Option (List aB) :=
 if one then some r else if x.a=x.b then(if far then some r else none)else
 if far then(if(fI r x.b).lo<=(fI r x.a).hi then some (eC r x.a ⟨max (fI r x.a).lo (fI r x.b).lo,(fI r x.a).hi⟩)else none)else
 if(eP (fI r x.a) (fI r x.b)).2.2 then some (eC r x.a (eP (fI r x.a) (fI r x.b)).1)else none
/-- behind an instruction, on a way; far: the way is its target's, one: its target is the next one -/
def gZ (m:bA) (words:Int) (x:dJ) (far one:Bool) (r:List aB):Option (List aB) :=
 if x.op=1 then some (eC r x.a ⟨x.n,x.n⟩)
 else if x.op=2 then some (eC r x.a (fI r x.b))
 else if 3<=x.op/\x.op<=10 then lL x r
 else if x.op=18 then some (eC r x.a (aS 3 (fI r x.a) ⟨1,1⟩).1)
 else if x.op=11\/x.op=12 then mI x words r
 else if x.op=13 then aGz (fQ r x.a.toNat ⟨0,wrap64 (x.n-1)⟩)
 else if x.op=19 then(dN r x.b.toNat (eD m x.n) (eD m x.n).length).map fun q=>eC q x.a kO
 else if x.op=15\/x.op=16 then rT x far one r
 else if x.op=17 then mL x far one r
 else some r
def gP (m:bA) (f:aC) (frm:Nat) (tt:Int) (r:List aB):Option (List aB) :=
 gZ m f.words (f.code.getD frm default) (decide (tt=(f.code.getD frm default).n)&&decide ((f.code.getD frm default).n≠(frm:Int)+1)) (decide ((f.code.getD frm default).n=(frm:Int)+1)) r
/-- what stands at the instructions; nothing came as yet: no spans -/
structure fF where
 inn:List (List aB)
 chg:List (List Int)
 mrk:List Bool
 jn:List Int
def lE (old next:aB):Bool := !mC (cJ old next) old
def nI (s:fF) (tt:Nat):Int:=wrap64 (s.jn.getD tt 0+1)
def gR (thr:List Int) (j:Int) (old next:aB):aB:=if 4<j then gY old next thr else cJ old next
def uE (old next:List aB) (c:List Int):List Int:=(List.range c.length).map fun i=>if i<old.length/\lE (old.getD i default) (next.getD i default)=true then wrap64 (c.getD i 0+1)else c.getD i 0
def fX (thr:List Int) (j:Int) (old next:List aB):List aB:=(List.range old.length).map fun i=>gR thr j (old.getD i default) (next.getD i default)
def qI (old next:List aB):Bool:=(List.range old.length).any fun i=>lE (old.getD i default) (next.getD i default)
def cM (thr:List Int) (s:fF) (tt:Nat) (next:List aB):fF :=
 if s.inn.getD tt []=[]then { s with inn:=s.inn.set tt next,mrk:=s.mrk.set tt true }
 else if qI (s.inn.getD tt []) next then
  { inn:=s.inn.set tt (fX thr (nI s tt) (s.inn.getD tt []) next),chg:=s.chg.set tt (uE (s.inn.getD tt []) next (s.chg.getD tt [])),mrk:=s.mrk.set tt true,jn:=s.jn.set tt (nI s tt) }
 else s
def iW (m:bA) (f:aC) (at_:Nat) (inn:List aB) (s:fF) (tt:Int):fF :=
 match gP m f at_ tt inn with
 | some out=>cM m.thr s tt.toNat out
 | none=>s
def gF (m:bA) (f:aC) (s:fF) (at_:Nat):fF :=
 if s.mrk.getD at_ false then(aY f at_).foldl (iW m f at_ (s.inn.getD at_ [])) { s with mrk:=s.mrk.set at_ false } else s
def oE (m:bA) (f:aC) (s:fF):fF:=(List.range f.code.length).foldl (gF m f) s
def cL (f:aC):List aB:=f.params++List.replicate (f.regs.toNat-f.params.length) ⟨0,0⟩
def fL (f:aC):fF :=
 { inn:=(List.replicate f.code.length []).set 0 (cL f),chg:=List.replicate f.code.length (List.replicate f.regs.toNat 0),mrk:=(List.replicate f.code.length false).set 0 true,jn:=List.replicate f.code.length 0 }
/-- all is gone through, again and again, until no mark is left -/
inductive fO (m:bA) (f:aC):fF->fF->Prop
 | stop (s:fF):s.mrk.contains true=false->fO m f s s
 | pass (s t:fF):s.mrk.contains true=true->fO m f (oE m f s) t->fO m f s t
theorem fO.uniq {m:bA}{f:aC}{s t u:fF}(h:fO m f s t) (h2:fO m f s u):t=u:=by
 induction h with
 | stop s hs=>cases h2 with
  | stop _ _=>rfl
  | pass _ _ h3 _=>rw[hs]at h3;cases h3
 | pass s t hs _ ih=>cases h2 with
  | stop _ h3=>rw[hs]at h3;cases h3
  | pass _ _ _ h4=>exact ih h4
section
theorem rH {a b:aB}(ha:dL a) (hb:dL b):dL (cJ a b)/\(cJ a b).lo=min a.lo b.lo/\(cJ a b).hi=max a.hi b.hi:=by
 obtain⟨a1,a2,a3⟩:=ha;obtain⟨b1,b2,b3⟩:=hb;have e:cJ a b=⟨min a.lo b.lo,max a.hi b.hi⟩:=by unfold cJ;rw[if_neg (by omega),if_neg (by omega)]
 rw[e];refine⟨⟨?_,?_,?_⟩,rfl,rfl⟩
 ·unfold aM at *;dsimp only;omega
 ·unfold aM at *;dsimp only;omega
 ·dsimp only;omega
theorem aJv (x:Int):∀ (thr:List Int) (acc:Int),acc<=x->thr.foldl (jY x) acc<=x/\acc<=thr.foldl (jY x) acc
 | [],acc,h=>⟨h,Int.le_refl _⟩
 | t::thr,acc,h=>by
  have h2:jY x acc t<=x/\acc<=jY x acc t:=by unfold jY;split<;>omega
  have:=aJv x thr _ h2.1;exact⟨this.1,by rw[List.foldl_cons];omega⟩
theorem aB9 (x:Int):∀ (thr:List Int) (acc:Int),x<=acc->x<=thr.foldl (dZ x) acc/\thr.foldl (dZ x) acc<=acc
 | [],acc,h=>⟨h,Int.le_refl _⟩
 | t::thr,acc,h=>by
  have h2:x<=dZ x acc t/\dZ x acc t<=acc:=by unfold dZ;split<;>omega
  have:=aB9 x thr _ h2.1;exact⟨this.1,by rw[List.foldl_cons];omega⟩
theorem aI9 {a b:aB}(thr:List Int) (ha:dL a) (hb:dL b):dL (gY a b thr)/\(gY a b thr).lo<=min a.lo b.lo/\max a.hi b.hi<=(gY a b thr).hi:=by
 obtain⟨⟨j1,j2,j3⟩,e1,e2⟩:=rH ha hb;obtain⟨a1,a2,a3⟩:=ha;obtain⟨b1,b2,b3⟩:=hb;have u1:=aJv (cJ a b).lo thr (-9223372036854775808) j1.1;have u2:=aB9 (cJ a b).hi thr 9223372036854775807 j2.2;unfold gY;dsimp only;unfold aM at *;refine⟨⟨?_,?_,?_⟩,?_,?_⟩
 ·unfold aM;dsimp only;split<;>omega
 ·unfold aM;dsimp only;split<;>omega
 ·dsimp only;split<;>split<;>omega
 ·split<;>omega
 ·split<;>omega
theorem zE {a b:aB}(thr:List Int) (j:Int) (ha:dL a) (hb:dL b):dL (gR thr j a b)/\(gR thr j a b).lo<=min a.lo b.lo/\max a.hi b.hi<=(gR thr j a b).hi:=by
 unfold gR;split
 ·exact aI9 thr ha hb
 ·have:=rH ha hb;exact⟨this.1,oz,oz⟩
def aBc (a:aB):Nat:=(a.lo+9223372036854775808).toNat+(9223372036854775807-a.hi).toNat
def uT (regs:Nat) (l:List aB):Nat:=if l=[]then regs*36893488147419103232+1 else iE l.length fun i=>aBc (l.getD i default)
theorem aS4 {a:aB}(h:dL a):aBc a<=36893488147419103232:=by
 obtain⟨h1,h2,h3⟩:=h;unfold aM at *;unfold aBc;omega
theorem aRu {a b:aB}(thr:List Int) (j:Int) (ha:dL a) (hb:dL b):aBc (gR thr j a b)<=aBc a:=by
 obtain⟨⟨h1,h2,h3⟩,h4,h5⟩:=zE thr j ha hb;obtain⟨a1,a2,a3⟩:=ha;unfold aM at *;unfold aBc;omega
theorem aMh {a b:aB}(thr:List Int) (j:Int) (ha:dL a) (hb:dL b) (hg:lE a b=true):aBc (gR thr j a b)<aBc a:=by
 obtain⟨⟨h1,h2,h3⟩,h4,h5⟩:=zE thr j ha hb;obtain⟨_,e1,e2⟩:=rH ha hb;have hg2:¬((cJ a b).lo=a.lo/\(cJ a b).hi=a.hi):=fun⟨g1,g2⟩=>by
  unfold lE mC at hg;rw[g1,g2]at hg;simp at hg
 obtain⟨a1,a2,a3⟩:=ha;obtain⟨b1,b2,b3⟩:=hb;unfold aM at *;unfold aBc;omega
def gU (regs:Nat) (l:List aB):Prop:=l.length=regs/\∀ i,i<regs->dL (l.getD i default)
structure rC (n regs:Nat) (s:fF):Prop where
 li:s.inn.length=n
 lc:s.chg.length=n
 lm:s.mrk.length=n
 lj:s.jn.length=n
 inn:∀ v,v<n->s.inn.getD v []=[]\/gU regs (s.inn.getD v [])
 chg:∀ v,v<n->(s.chg.getD v []).length=regs
def jZ (n regs:Nat) (s:fF):Nat:=2*iE n (fun v=>uT regs (s.inn.getD v []))+iE n fun v=>if s.mrk.getD v false then 1 else 0
theorem bP {α:Type}(l:List α) (i j:Nat) (a d:α) (hi:i<l.length):(l.set i a).getD j d=if j=i then a else l.getD j d:=by
 simp only[List.getD_eq_getElem?_getD];by_cases e:j=i
 ·subst e;rw[if_pos rfl,List.getElem?_set_self hi];rfl
 ·rw[if_neg e,List.getElem?_set_ne (by omega)]
theorem qT {α:Type}(n:Nat) (g:Nat->α) (i:Nat) (d:α) (hi:i<n):((List.range n).map g).getD i d=g i:=by
 simp[List.getD_eq_getElem?_getD,hi]
section
variable {n regs : Nat} {s : fF} {tt : Nat} {next : List aB} {thr : List Int}
theorem aIe {old:List aB}(j:Int) (ho:gU regs old) (hx:gU regs next):gU regs (fX thr j old next):=by
 refine⟨by simp[fX,ho.1],fun i hi=>?_⟩;unfold fX;rw[qT _ _ _ _ (by rw[ho.1];exact hi)];exact(zE thr j (ho.2 i hi) (hx.2 i hi)).1
theorem vE (h:rC n regs s) (hto:tt<n) (hx:gU regs next):rC n regs (cM thr s tt next):=by
 unfold cM;split
 ·refine⟨by simp[h.li],h.lc,by simp[h.lm],h.lj,fun v hv=>?_,h.chg⟩;dsimp only;rw[bP _ _ _ _ _ (by rw[h.li];exact hto)];split
  ·exact .inr hx
  ·exact h.inn v hv
 ·split
  ·rename_i h1 h2;have ho:gU regs (s.inn.getD tt []):=(h.inn tt hto).resolve_left h1;refine⟨by simp[h.li],by simp[h.lc],by simp[h.lm],by simp[h.lj],fun v hv=>?_,fun v hv=>?_⟩
   ·dsimp only;rw[bP _ _ _ _ _ (by rw[h.li];exact hto)];split
    ·exact .inr (aIe _ ho hx)
    ·exact h.inn v hv
   ·dsimp only;rw[bP _ _ _ _ _ (by rw[h.lc];exact hto)];split
    ·unfold uE;rw[List.length_map,List.length_range];exact h.chg tt hto
    ·exact h.chg v hv
  ·exact h
theorem aLy {old:List aB}(hr:0<regs) (j:Int) (ho:gU regs old) (hx:gU regs next) (hs:qI old next=true):uT regs (fX thr j old next)<uT regs old:=by
 have hl:(fX thr j old next).length=old.length:=by simp[fX]
 have ne1:old≠[]:=fun e=>by have:=ho.1;rw[e]at this;simp at this;omega
 have ne2:fX thr j old next≠[]:=fun e=>by rw[e]at hl;have:=ho.1;simp at hl;omega
 unfold uT;rw[if_neg ne1,if_neg ne2,hl];unfold qI at hs;rw[List.any_eq_true]at hs;obtain⟨i,hi,hg⟩:=hs;have hi:=List.mem_range.1 hi;have he:∀ k,k<old.length->(fX thr j old next).getD k default=gR thr j (old.getD k default) (next.getD k default):=fun k hk=>by
  unfold fX;rw[qT _ _ _ _ hk]
 refine aJg (u:=i) _ hi (fun k hk=>?_) ?_
 ·rw[he k hk];exact aRu thr j (ho.2 k (by rw[<-ho.1];exact hk)) (hx.2 k (by rw[<-ho.1];exact hk))
 ·rw[he i hi];exact aMh thr j (ho.2 i (by rw[<-ho.1];exact hi)) (hx.2 i (by rw[<-ho.1];exact hi)) hg
theorem aI2 (hr:0<regs) (hx:gU regs next):uT regs next<uT regs []:=by
 have ne1:next≠[]:=fun e=>by have:=hx.1;rw[e]at this;simp at this;omega
 unfold uT;rw[if_neg ne1,if_pos rfl,hx.1];have:=oT (f:=fun i=>aBc (next.getD i default)) (m:=36893488147419103232) regs (fun k hk=>aS4 (hx.2 k hk));omega
theorem aJ0 {inn:List (List aB)}{mrk:List Bool}{l:List aB}(li:inn.length=n) (lm:mrk.length=n) (hto:tt<n) (hl:uT regs l<uT regs (inn.getD tt [])) :
 2*iE n (fun v=>uT regs ((inn.set tt l).getD v []))+iE n (fun v=>if(mrk.set tt true).getD v false then 1 else 0)<2*iE n (fun v=>uT regs (inn.getD v []))+iE n (fun v=>if mrk.getD v false then 1 else 0):=by
 have h1:=kC (f:=fun v=>uT regs ((inn.set tt l).getD v [])) (g:=fun v=>uT regs (inn.getD v [])) n hto (fun k hk=>by rw[bP _ _ _ _ _ (by rw[li];exact hto),if_neg hk]);have h2:=kC (f:=fun v=>if(mrk.set tt true).getD v false then 1 else 0) (g:=fun v=>if mrk.getD v false then 1 else 0) n hto (fun k hk=>by rw[bP _ _ _ _ _ (by rw[lm];exact hto),if_neg hk]);rw[bP _ _ _ _ _ (by rw[li];exact hto),if_pos rfl]at h1;rw[bP _ _ _ _ _ (by rw[lm];exact hto),if_pos rfl]at h2;simp only[if_true]at h2;split at h2<;>omega
theorem aI3 (hr:0<regs) (h:rC n regs s) (hto:tt<n) (hx:gU regs next):jZ n regs (cM thr s tt next)<=jZ n regs s:=by
 unfold cM;split
 ·rename_i h1;refine Nat.le_of_lt (aJ0 h.li h.lm hto ?_);rw[h1];exact aI2 hr hx
 ·split
  ·rename_i h1 h2;have ho:gU regs (s.inn.getD tt []):=(h.inn tt hto).resolve_left h1;exact Nat.le_of_lt (aJ0 h.li h.lm hto (aLy hr _ ho hx h2))
  ·exact Nat.le_refl _
end
end
section
theorem aOb (x:Int):aM (IntKind.i64.wrap x):=by
 unfold aM IntKind.wrap IntKind.signed IntKind.bits;simp;omega
theorem tH:dL kO:=by unfold dL aM kO;simp
theorem rI {n:Int}(h:aM n):dL ⟨n,n⟩:=⟨h,h,Int.le_refl _⟩
theorem aA1:∀ (l:List Int) (acc:aB),dL acc->(∀ x∈l,aM x)->dL (l.foldl iC acc)
 | [],acc,h,_=>h
 | x::l,acc,h,hl=>aA1 l _ (by unfold iC;exact(rH h (rI (hl x si))).1) (fun y hy=>hl y (by simp[hy]))
theorem vK {l:List Int}(all:Bool) (h:∀ x∈l,aM x) (hl:l≠[]):dL (gK l all):=by
 unfold gK;split
 ·refine aA1 l _ (rI ?_) h;cases l with
  | nil=>exact absurd rfl hl
  | cons x l=>exact h x si
 ·exact tH
theorem rZ (y n:Bool):dL (eT y n):=by cases y<;>cases n<;>(unfold dL aM eT;simp)
theorem aSy (a b:aB):∀ x∈mN a b,aM x:=by
 intro x hx;unfold mN at hx;obtain⟨d,_,hx⟩:=List.mem_flatMap.1 hx;unfold lW at hx;split at hx
 ·rcases List.mem_cons.1 hx with rfl|hx
  ·exact aOb _
  ·have:x=IntKind.i64.wrap (a.hi.tdiv d):=by simpa using hx
   rw[this];exact aOb _
 ·simp at hx
theorem aLv {a b:aB}(ha:dL a) (hb:dL b) (h0:mC b cO=false):dL (mS a b):=by
 obtain⟨a1,a2,a3⟩:=ha;obtain⟨b1,b2,b3⟩:=hb;have hz:¬(b.lo=0/\b.hi=0):=fun⟨e1,e2⟩=>by unfold mC cO at h0;rw[e1,e2]at h0;simp at h0
 unfold aM at *;have hm:0<=tS b/\tS b<=9223372036854775807:=by
  unfold tS;rw[nX];unfold wrap64;omega
 have hn:wrap64 (-tS b) = -tS b:=by unfold wrap64;omega
 unfold mS dL aM;dsimp only;rw[hn];split<;>split<;>omega
theorem aNb {p:Prop}(h:p:=by
 split
 ·exact rI (jW _)
 ·refine vK _ (fun x hx=>?_) si;simp at hx;rcases hx with rfl|rfl<;>exact jW _):p:=h
theorem aJw {op:Int}{a b:aB}(ha:dL a) (hb:dL b) (h:(aS op a b).2=true):dL (aS op a b).1:=by
 unfold aS at *;split
 ·unfold uH;exact aNb
 split
 ·unfold uF;exact aNb
 split
 ·unfold rX;split
  ·exact rI (jW _)
  ·refine vK _ (fun x hx=>?_) (by simp[fM]);obtain⟨p,_,rfl⟩:=List.mem_map.1 hx;exact jW _
 split
 ·split
  ·rename_i h3 h4 h5 h6 h7;simp[h3,h4,h5,h6,h7]at h
  ·rename_i h3 h4 h5 h6 h7;dsimp only;unfold fA;split
   ·exact tH
   ·refine vK _ (aSy a b) (fun e=>?_);have:=aAh a b hb.2.2 (fun⟨e1,e2⟩=>h7 (by unfold mC cO;rw[e1,e2];simp));rw[e]at this;simp at this
 split
 ·split
  ·rename_i h3 h4 h5 h6 h7 h8;simp[h3,h4,h5,h6,h7,h8]at h
  ·rename_i h3 h4 h5 h6 h7 h8;exact aLv ha hb (by simpa using h8)
 split
 ·exact rZ _ _
 split
 ·exact rZ _ _
 split
 ·exact rZ _ _
 ·rename_i h3 h4 h5 h6 h7 h8 h9 h10;simp[h3,h4,h5,h6,h7,h8,h9,h10]at h
theorem aMe {a b:aB}(ha:dL a) (hb:aM b.lo/\aM b.hi) (h:(cZ a b).2=true):dL (cZ a b).1:=by
 obtain⟨a1,a2,a3⟩:=ha;unfold cZ rU at *;dsimp only at *;split at h
 ·cases h
 ·rename_i h1;rw[if_neg h1];unfold dL aM at *;dsimp only;omega
theorem tJ {a:aB}(ha:dL a) (h:(cB a).2=true):dL (cB a).1:=by
 obtain⟨a1,a2,a3⟩:=ha;unfold cB at *;have h:=of_decide_eq_true h;unfold dL aM at *;dsimp only;refine⟨?_,?_,h⟩<;>split<;>omega
theorem aN9 (n many:Int):aM (fJ n many).1.lo/\aM (fJ n many).1.hi:=by
 unfold fJ;split
 ·unfold aM;simp
 ·refine⟨jW _,?_⟩;dsimp only;unfold kB;split
  ·unfold aM;omega
  ·exact jW _
section
variable {regs : Nat} {r : List aB}
theorem gU.at (h:gU regs r) {i:Int}(h0:0<=i) (h1:i<regs):dL (fI r i):=h.2 i.toNat oz
theorem gU.set (h:gU regs r) {i:Nat}{a:aB}(ha:dL a):gU regs (r.set i a):=by
 refine⟨by rw[List.length_set];exact h.1,fun j hj=>?_⟩;by_cases hi:i<r.length
 ·rw[bP _ _ _ _ _ hi];split
  ·exact ha
  ·exact h.2 j hj
 ·rw[List.set_eq_of_length_le (by omega)];exact h.2 j hj
theorem gU.meet (h:gU regs r) {i:Nat}{a:aB}(hi:i<regs) (ha:aM a.lo/\aM a.hi) (h2:(fQ r i a).2=true):gU regs (fQ r i a).1:=h.set (aMe (h.2 i hi) ha h2)
theorem gU.meets (h:gU regs r) {b:Nat}{ps:List aB}(hb:b+ps.length<=regs) (hp:∀ i,i<ps.length->aM (ps.getD i default).lo/\aM (ps.getD i default).hi):∀ k,k<=ps.length->∀ q,dN r b ps k=some q->gU regs q
 | 0,_,q,hq=>by cases hq;exact h
 | k+1,hk,q,hq=>by
  unfold dN at hq;obtain⟨q0,h0,hq⟩:=Option.bind_eq_some_iff.1 hq;have ih:=gU.meets h hb hp k oz q0 h0;split at hq
  ·rename_i h2;cases hq;exact ih.meet oz (hp k oz) h2
  ·cases hq
theorem pW {p:Prop}(h:p:=by
 unfold aM;omega):p:=h
theorem aVc {m:bA}{f:aC}{x:dJ}(hm:aGt m f) (hx:cY m f x) (h64:aM x.n) (hp:∀ i,i<(eD m x.n).length->aM ((eD m x.n).getD i default).lo/\aM ((eD m x.n).getD i default).hi)
 {far one:Bool}{words:Int} (h:gU f.regs.toNat r) {out:List aB} (ho:gZ m words x far one r=some out):gU f.regs.toNat out:=by
 have r1:=hm.r1;have ha:dL (fI r x.a):=h.at hx.a0 (by have:=hx.a1;omega);have hb:dL (fI r x.b):=h.at hx.b0 (by have:=hx.b1;omega);have hc:dL (fI r x.c):=h.at hx.c0 (by have:=hx.c1;omega);have la:=hx.a0;have la1:=hx.a1;have lb:=hx.b0;have lb1:=hx.b1;unfold gZ at ho;split at ho
 ·cases ho;exact h.set (rI h64)
 split at ho
 ·cases ho;exact h.set hb
 split at ho
 ·unfold lL at ho;split at ho
  ·rename_i h1 h2 h3 h4;cases ho;refine gU.set ?_ (aJw hb hc h4);split
   ·refine h.set (tJ hc ?_);rename_i h5;have hz:mC (fI r x.c) cO=false:=by
     rcases h5 with h5|h5<;>(rw[h5]at h4;unfold aS at h4;simp at h4;cases e:mC (fI r x.c) cO;rfl;rw[e]at h4;simp at h4)
    obtain⟨c1,c2,c3⟩:=hc;unfold mC cO at hz;simp only[Bool.and_eq_false_iff,decide_eq_false_iff_not]at hz;unfold cB;rw[decide_eq_true_iff];split<;>split<;>omega
   ·exact h
  ·cases ho
 split at ho
 ·cases ho;exact h.set (aJw ha (rI pW) (by unfold aS;simp))
 split at ho
 ·unfold mI at ho;split at ho
  ·cases ho
  ·split at ho
   ·rename_i h5;cases ho;have:=h.meet (i:=x.b.toNat) oz (aN9 x.n words) h5;split
    ·exact this.set tH
    ·exact this
   ·cases ho
 split at ho
 ·unfold aGz at ho;split at ho
  ·rename_i h5;cases ho;exact h.meet oz ⟨by unfold aM;simp,jW _⟩ h5
  ·cases ho
 split at ho
 ·rename_i h5;obtain⟨q,hq,e⟩:=Option.map_eq_some_iff.1 ho;subst e;have hcl:=hx.call h5;refine gU.set ?_ tH;refine gU.meets h ?_ hp _ lr q hq;have:(eD m x.n).length=(bX m x.n.toNat).params.length:=rfl;omega
 split at ho
 ·unfold rT at ho;split at ho
  ·cases ho;exact h
  ·split at ho
   ·unfold aGz at ho;split at ho
    ·rename_i h5;cases ho;exact h.meet oz (by unfold aM;simp) h5
    ·cases ho
   ·split at ho
    ·rename_i h5;cases ho;exact h.set (tJ ha h5)
    ·cases ho
 split at ho
 ·unfold mL at ho;split at ho
  ·cases ho;exact h
  ·split at ho
   ·split at ho
    ·cases ho;exact h
    ·cases ho
   ·split at ho
    ·split at ho
     ·rename_i h5;cases ho;refine h.set ?_;obtain⟨a1,a2,a3⟩:=ha;obtain⟨b1,b2,b3⟩:=hb;unfold dL aM at *;dsimp only;omega
     ·cases ho
    ·split at ho
     ·rename_i h5;cases ho;refine h.set ?_;obtain⟨a1,a2,a3⟩:=ha;obtain⟨b1,b2,b3⟩:=hb;unfold eP at *;split at h5
      ·cases h5
      ·rename_i h6;rw[if_neg h6];unfold dL aM at *;dsimp only;omega
     ·cases ho
 ·cases ho;exact h
end
end
def InS (p:aB) (n:Int):Prop:=p.lo<=n/\n<=p.hi
theorem InS.meet {a b:aB}{n:Int}(h:InS a n) (k:InS b n):(cZ a b).2=true/\InS (cZ a b).1 n:=by
 unfold InS at *;unfold cZ rU;dsimp only;rw[if_neg (by omega)];exact⟨rfl,by dsimp only;omega,by dsimp only;omega⟩
theorem w64 {n:Int}(h:aM n):wrap64 n=n:=by unfold aM at h;unfold wrap64;omega
theorem aQy {a b:Int}(h:(gM a b).2=true):(gM a b).1=a*b/\aM (a*b):=by
 unfold gM at *;dsimp only at *;simp only[Bool.and_eq_true,decide_eq_true_eq]at h;exact⟨w64 h,h⟩
theorem aPz {p:Prop}(h:p:=by
 by_cases a2:0<ahi
 ·rw[if_pos a2]at e;exact aT9
 ·rw[if_neg a2]at e;exact aT9):p:=h
theorem uR {p:Prop}(h:p:=by
 rw[<-hW2];exact aF.new _ _ _):p:=h
theorem yQ {p:Prop}(h:p:=by
 rw[nX];unfold wrap64;omega):p:=h
theorem yT (a b:aB) (w:World) (h1:aM b.lo) (h2:aM b.hi) (hb:b.lo<=b.hi) (hz:¬(b.lo=0/\b.hi=0)):Calls Tryz.prog 102 #[aJ a,aJ b] w fun e w'=>e=.returned (aJ (mS a b))/\Below w.heap.size w w':=by
 have HG:=qd lX;have HL:=qd nA;obtain⟨⟨ql,qh⟩,hq⟩:∃ q,mS a b=q:=⟨_,rfl⟩
 rw[hq];unfold mS tS at hq;obtain⟨alo,ahi⟩:=a;obtain⟨lo,hi⟩:=b;unfold aM at h1 h2;dsimp only at *;have HQ:=qd hq;clear hq;unfold aJ;dsimp only;go_enter Tryz.func102,Tryz.ntmps102;go_upto_region 2 with(fail)
 generalize hW:World.alloc _ _=W;obtain⟨hbW,o1,o2,o3,hzW⟩:=iP hW;have q1:=aD o1;have q2:=aD o2;clear hW;rcases(show(lo<0/\0<hi)\/(lo<0/\hi=0)\/(lo<0/\hi<0)\/(lo=0/\0<hi)\/(0<lo) by omega)with hc|hc|hc|hc|hc
 focus
  have d1:lo<0:=oz
  have d2:0<hi:=oz
  have d3:¬0<lo:=oz
  have d4:¬hi<0:=oz
  have x1:IntKind.i64.wrap (lo+1)=lo+1:=IntWalk.i64_in _ oz;have x2:IntKind.i64.wrap (-(lo+1)) = -(lo+1):=IntWalk.i64_in _ oz;have x3:IntKind.i64.wrap (hi-1)=hi-1:=IntWalk.i64_in _ oz;obtain⟨M,hM⟩:∃ M,max (-(lo+1)) (hi-1)=M:=⟨_,rfl⟩
  have hM0:0<=M/\M<=9223372036854775807:=oz
  have hLM:wrap64 (IntKind.u64.wrap (max (lo.natAbs:Int) (hi.natAbs:Int)-1))=M:=yQ
  have x9:IntKind.i64.wrap (-M) = -M:=IntWalk.i64_in _ oz;have x8:wrap64 (-M) = -M:=w64 pW;have e:=HQ.out;rw[hLM,x8]at e;clear hLM x8 hc hb hz h1 h2;go_upto_region 10 with(first|(go_at_call 69;refine(HG.out _ _ _).mono ?_;intro e w10 h10;obtain⟨rfl,h11⟩:=h10;have h12:=h11.symm;subst h12)|fail)
  first|rw[hM]|skip
  clear d1 d2 d3 d4 x1 x2 x3
 rotate_left
 focus
  have d1:lo<0:=oz
  have d2:¬0<hi:=oz
  have d3:¬0<lo:=oz
  have d4:¬hi<0:=oz
  have x1:IntKind.i64.wrap (lo+1)=lo+1:=IntWalk.i64_in _ oz;have x2:IntKind.i64.wrap (-(lo+1)) = -(lo+1):=IntWalk.i64_in _ oz;obtain⟨M,hM⟩:∃ M,-(lo+1)=M:=⟨_,rfl⟩
  have hM0:0<=M/\M<=9223372036854775807:=oz
  have hLM:wrap64 (IntKind.u64.wrap (max (lo.natAbs:Int) (hi.natAbs:Int)-1))=M:=yQ
  have x9:IntKind.i64.wrap (-M) = -M:=IntWalk.i64_in _ oz;have x8:wrap64 (-M) = -M:=w64 pW;have e:=HQ.out;rw[hLM,x8]at e;clear hLM x8 hc hb hz h1 h2;go_upto_region 10 with(first|(go_at_call 69;refine(HG.out _ _ _).mono ?_;intro e w10 h10;obtain⟨rfl,h11⟩:=h10;have h12:=h11.symm;subst h12)|fail)
  first|rw[hM]|skip
  clear d1 d2 d3 d4 x1 x2
 rotate_left
 focus
  have d1:lo<0:=oz
  have d2:¬0<hi:=oz
  have d3:¬0<lo:=oz
  have d4:hi<0:=oz
  have x1:IntKind.i64.wrap (lo+1)=lo+1:=IntWalk.i64_in _ oz;have x2:IntKind.i64.wrap (-(lo+1)) = -(lo+1):=IntWalk.i64_in _ oz;have x3:IntKind.i64.wrap (hi+1)=hi+1:=IntWalk.i64_in _ oz;have x4:IntKind.i64.wrap (-(hi+1)) = -(hi+1):=IntWalk.i64_in _ oz;obtain⟨M,hM⟩:∃ M,max (-(lo+1)) (-(hi+1))=M:=⟨_,rfl⟩
  have hM0:0<=M/\M<=9223372036854775807:=oz
  have hLM:wrap64 (IntKind.u64.wrap (max (lo.natAbs:Int) (hi.natAbs:Int)-1))=M:=yQ
  have x9:IntKind.i64.wrap (-M) = -M:=IntWalk.i64_in _ oz;have x8:wrap64 (-M) = -M:=w64 pW;have e:=HQ.out;rw[hLM,x8]at e;clear hLM x8 hc hb hz h1 h2;go_upto_region 10 with(first|(go_at_call 69;refine(HG.out _ _ _).mono ?_;intro e w10 h10;obtain⟨rfl,h11⟩:=h10;have h12:=h11.symm;subst h12)|fail)
  first|rw[hM]|skip
  clear d1 d2 d3 d4 x1 x2 x3 x4
 rotate_left
 focus
  have d1:¬lo<0:=oz
  have d2:0<hi:=oz
  have d3:¬0<lo:=oz
  have d4:¬hi<0:=oz
  have x1:IntKind.i64.wrap (hi-1)=hi-1:=IntWalk.i64_in _ oz;obtain⟨M,hM⟩:∃ M,max 0 (hi-1)=M:=⟨_,rfl⟩
  have hM0:0<=M/\M<=9223372036854775807:=oz
  have hLM:wrap64 (IntKind.u64.wrap (max (lo.natAbs:Int) (hi.natAbs:Int)-1))=M:=yQ
  have x9:IntKind.i64.wrap (-M) = -M:=IntWalk.i64_in _ oz;have x8:wrap64 (-M) = -M:=w64 pW;have e:=HQ.out;rw[hLM,x8]at e;clear hLM x8 hc hb hz h1 h2;go_upto_region 10 with(first|(go_at_call 69;refine(HG.out _ _ _).mono ?_;intro e w10 h10;obtain⟨rfl,h11⟩:=h10;have h12:=h11.symm;subst h12)|fail)
  first|rw[hM]|skip
  clear d1 d2 d3 d4 x1
 rotate_left
 focus
  have d1:¬lo<0:=oz
  have d2:0<hi:=oz
  have d3:0<lo:=oz
  have d4:¬hi<0:=oz
  have x1:IntKind.i64.wrap (hi-1)=hi-1:=IntWalk.i64_in _ oz;have x2:IntKind.i64.wrap (lo-1)=lo-1:=IntWalk.i64_in _ oz;obtain⟨M,hM⟩:∃ M,max (max 0 (hi-1)) (lo-1)=M:=⟨_,rfl⟩
  have hM0:0<=M/\M<=9223372036854775807:=oz
  have hLM:wrap64 (IntKind.u64.wrap (max (lo.natAbs:Int) (hi.natAbs:Int)-1))=M:=yQ
  have x9:IntKind.i64.wrap (-M) = -M:=IntWalk.i64_in _ oz;have x8:wrap64 (-M) = -M:=w64 pW;have e:=HQ.out;rw[hLM,x8]at e;clear hLM x8 hc hb hz h1 h2;go_upto_region 10 with(first|(go_at_call 69;refine(HG.out _ _ _).mono ?_;intro e w10 h10;obtain⟨rfl,h11⟩:=h10;have h12:=h11.symm;subst h12)|fail)
  first|rw[hM]|skip
  clear d1 d2 d3 d4 x1 x2
 rotate_left
 all_goals
  go_upto_region 11 with(fail)
  generalize hW2:World.alloc _ _=W2;have hb2:Below W.heap.size W W2:=by rw[<-hW2];exact bel
  have p4:aF W2 W.heap.size [.int .i64 0,.int .i64 0]:=uR
  have p1:=aD (o1.below hb2);have p3:=o3.below hb2;have s3:=cQ p3;have r3:=aD p3;have s4:=cQ p4;have r4:=aD p4;have hbw:=hbW.trans (hb2.mono hbW.size);clear hW2 q1 q2 o1 o2 o3;by_cases a1:alo<0
  ·rw[if_pos a1]at e;exact aPz
  ·rw[if_neg a1]at e;exact aPz
theorem aCz (a:aB) (n:Int) (v:Bool) (w:World) (h:iJ a n=v):Calls Tryz.prog 97 #[.agg #[.int .i64 a.lo,.int .i64 a.hi],.int .i64 n] w fun e w'=>e=.returned (.bool v)/\Below w.heap.size w w':=by
 subst h;exact aIn a n w
theorem aBt (a b:aB) (w:World) (ha:a.lo<=a.hi) (ia:aM a.lo) (h:b.lo<=b.hi) (h2:¬(b.lo=0/\b.hi=0)):Calls Tryz.prog 101 #[aJ a,aJ b] w fun e w'=>e=.returned (aJ (fA a b))/\Below w.heap.size w w':=by
 have HH:=qd (fun(n:Int) v w=>aCz b n v w);have HHa:=qd (fun v w=>aCz a (-9223372036854775808) v w);have HA:=qd sZ;have HP:=qd (aAh a b h h2);have HL:=qd (aB2 a b);have HT:=qd (aFt a b);have HU:=qd (fun w g o n cap=>wD g o n cap (mN a b) true w);have HD:fA a b=if iJ a (-9223372036854775808)=true/\iJ b (-1)=true then kO else gK (mN a b) true:=by
  unfold fA;have e:(a.lo = -9223372036854775808/\iJ b (-1)=true)↔(iJ a (-9223372036854775808)=true/\iJ b (-1)=true):=by
   unfold aM at ia;refine and_congr ?_ Iff.rfl;unfold iJ;exact aIs
  by_cases h9:a.lo = -9223372036854775808/\iJ b (-1)=true
  ·rw[if_pos h9,if_pos (e.1 h9)]
  ·rw[if_neg h9,if_neg (fun h=>h9 (e.2 h))]
 generalize fA a b=R at *;obtain⟨v1,hv1⟩:∃ v,iJ a (-9223372036854775808)=v:=⟨_,rfl⟩
 obtain⟨v2,hv2⟩:∃ v,iJ b (-1)=v:=⟨_,rfl⟩
 have HB1:=qd (HH.out (-1) v2 · hv2);have HA1:=qd (HHa.out v1 · hv1);rw[hv1,hv2]at HD;have HF:=qd (fun d=>show lW a b d=if d≠0/\iJ b d=true then[IntKind.i64.wrap (a.lo.tdiv d),IntKind.i64.wrap (a.hi.tdiv d)]else[] by unfold lW;rfl);have hT0:mT a b 0=[]:=by simp[mT]
 have HT4:Hid (mT a b 4=mN a b):=qd (by simp[mT,mN]);clear HHa h2 hv1 hv2 ia ha h;obtain⟨lo,hi⟩:=a;obtain⟨lo2,hi2⟩:=b;unfold aJ at HA HU ⊢;dsimp only at *;generalize mT ⟨lo,hi⟩ ⟨lo2,hi2⟩=DT at *;generalize mN ⟨lo,hi⟩ ⟨lo2,hi2⟩=DL at *;have HDD:=qd HD;clear HD;go_enter Tryz.func101,Tryz.ntmps101;go_upto_region 1 with(fail)
 generalize hW:World.alloc _ _=W;obtain⟨hbW,o1,o2,o3,hzW⟩:=iP hW;have q1:=aD o1;have O1:=qd o1;have O2:=qd o2;have O3:=qd o3;clear hW o1 o2 o3;by_cases hall:v1=true/\v2=true
 ·obtain⟨rfl,rfl⟩:=hall;have e:=HDD.out;rw[if_pos ⟨rfl,rfl⟩]at e;subst e
  try unfold kO at HA
  try unfold kO
  try dsimp only at HA ⊢
  go_upto_region 2 with(first|(go_at_call 97;first|(refine(HA1.out _).mono ?_;rintro e w1 ⟨rfl,hb1⟩;have q2:=aD (O2.out.below hb1);have hbx:=hbW.trans (hb1.mono hbW.size);clear HA1)|(refine(HB1.out _).mono ?_;rintro e w2 ⟨rfl,hb2⟩;have hby:=hbx.trans (hb2.mono hbx.size);clear HB1))|fail)
  go_wp2_with (first|(go_at_call 65;refine(HA.out _).mono ?_;rintro e w3 ⟨rfl,hb3⟩;have hbz:=hby.trans (hb3.mono hby.size);have p3:=((O3.out.below hb1).below hb2).below hb3;have r3:=aD p3;have s3:=cQ p3)|fail)
  try rw[Exit.noGoto_ret]
  exact wG
 ·have e:=HDD.out;rw[if_neg hall]at e;subst e;cases v1
  focus
   go_upto_region 3 with(first|(go_at_call 97;refine(HA1.out _).mono ?_;rintro e w2 ⟨rfl,hb1⟩)|fail)
   have hby:=hbW.trans (hb1.mono hbW.size);have P1:=qd (O1.out.below hb1);have P2:=qd (O2.out.below hb1);have P3:=qd (O3.out.below hb1);clear hb1
  rotate_left
  focus
   obtain rfl:v2=false:=by
    cases v2
    ·rfl
    ·exact absurd ⟨rfl,rfl⟩ hall
   go_upto_region 3 with(first|(go_at_call 97;first|(refine(HA1.out _).mono ?_;rintro e w1 ⟨rfl,hb1⟩;have q2:=aD (O2.out.below hb1);have hbx:=hbW.trans (hb1.mono hbW.size);clear HA1)|(refine(HB1.out _).mono ?_;rintro e w2 ⟨rfl,hb2⟩;have hby:=hbx.trans (hb2.mono hbx.size);clear HB1))|fail)
   have P1:=qd ((O1.out.below hb1).below hb2);have P2:=qd ((O2.out.below hb1).below hb2);have P3:=qd ((O3.out.below hb1).below hb2);clear hb1 hb2 q2 hbx
  all_goals
   clear hall;have p2:=aD P2.out;have HBY:=qd hby;clear q1 O1 O2 O3 hbW hby;go_upto_region 5 with(fail)
   generalize hW5:World.alloc _ _=W5;have hb5:Below w2.heap.size w2 W5:=by rw[<-hW5];exact bel
   have OO:aF W5 w2.heap.size [.int .i64 lo2,.int .i64 hi2,.int .i64 (-1),.int .i64 1]:=by rw[<-hW5];exact(aF.new _ _ _).alloc _
   have V0:W5.ownsRow 0 2 1 (.slice (some ⟨w2.heap.size+1,0,none⟩) 0 0) 0 []:=by rw[<-hW5];refine eE (w2.alloc _) _ 1 ?_;simp
   obtain⟨ob,hob⟩:∃ ob,ob=w2.heap.size:=⟨_,rfl⟩
   rw[<-hob]at OO V0 ⊢;have hb05:=HBY.out.trans (hb5.mono HBY.out.size);have hobz:w.heap.size+3<=ob:=by have:=HBY.out.size;have:=P3.out.1;omega
   have HB5:=qd hb05;have Q1:=qd (P1.out.below hb5);have Q2:=qd (P2.out.below hb5);have Q3:=qd (P3.out.below hb5);have QO:=qd OO;have QV:=qd (show W5.ownsRow 0 2 1 (.slice (some ⟨ob+1,0,none⟩) 0 0) (DT 0).length (aR (DT 0)) by rw[hT0];exact V0);clear hW5 OO V0 hb5 hb05 hob p2 P1 P2 P3 HBY;go_wp2;go_loopw [6,7] (fun v i wr=>∃ j:Nat,j<=4/\i=.int .i64 j/\Hid (Below w.heap.size w wr)/\Hid (aF wr w.heap.size [.int .i64 lo,.int .i64 hi])/\Hid (aF wr (w.heap.size+1) [.int .i64 lo2,.int .i64 hi2])/\Hid (aF wr (w.heap.size+1+1) [.int .i64 0,.int .i64 0])/\Hid (aF wr ob [.int .i64 lo2,.int .i64 hi2,.int .i64 (-1),.int .i64 1])/\(∀ k,v.ownBlock=some k->ob<k)/\Hid (wr.ownsRow 0 2 1 v (DT j).length (aR (DT j)))) (fun _ i _=>4-(intOf i).toNat)
   case atStart=>exact⟨0,oz,rfl,HB5,Q1,Q2,Q3,QO,fun k hk=>by
    have e:ob+1=k:=eL hk
    omega, by first | exact QV | (have e : (DT 0).length = 0 := by rw [hT0]; rfl
                                  exact QV)⟩
   case round =>
    clear HB5 Q1 Q2 Q3 QO QV;obtain⟨j,hj,rfl,HBR,Q1,Q2,Q3,QO,hvb,HV⟩:=hrel;have a2:=aD Q1.out;have b2:=aD Q2.out;have hzr:=HBR.out.size;by_cases hjt:j<4
    ·have d2:(j:Int)<4:=oz
     have hwk:IntKind.i64.wrap ((j:Int)+1)=(j:Int)+1:=IntWalk.i64_in _ oz;have hTj:=HT.out j hjt;have hLj:=HL.out j;obtain⟨d,hd⟩:∃ d,[lo2,hi2,-1,1].getD j 0=d:=⟨_,rfl⟩
     have cj:wr.cell? ⟨ob,j,none⟩=some (.int .i64 d):=QO.out.2.1 j _ (by subst hd;rcases(show j=0\/j=1\/j=2\/j=3 by omega)with rfl|rfl|rfl|rfl<;>rfl);rw[hd]at hTj;have HTj:=qd hTj;have hFd:=HF.out d;have hobl:=QO.out.1;clear hd hTj;by_cases hd0:d=0
     ·rw[if_neg (by simp[hd0])]at hFd;have HFd:=qd hFd;have q0:(d != 0)=false:=by simp[hd0]
      clear hFd hd0;go_upto_region 8 with(fail)
      refine bC 12 kr kr ?_;simp only[TD];repeat(refine bS (fun K hK=>?_);go_simp;refine hK _ ?_;clear hK K)
      refine cF ?_;go_wp2;refine⟨⟨j+1,oz,si,qd HBR.out.drew,qd Q1.out.drew,qd Q2.out.drew,qd Q3.out.drew,qd QO.out.drew,hvb,qd (by rw[HTj.out,HFd.out,List.append_nil];exact aA (Below.refl _ _).drew HV.out)⟩,?_⟩;go_light;exact ml
     ·have q0:(d != 0)=true:=by simpa using hd0
      obtain⟨hs,hhs⟩:∃ s,iJ ⟨lo2,hi2⟩ d=s:=⟨_,rfl⟩
      have HHd:=qd (fun w=>HH.out d hs w hhs);rw[hhs]at hFd;have HFd:=qd hFd;clear hFd hhs;cases hs
      ·have HFe:=qd (HFd.out.trans (if_neg si));go_upto_region 8 with(fail)
       refine bC 11 kr kr ?_;simp only[TD];repeat(refine bS (fun K hK=>?_);go_simp;refine hK _ ?_;clear hK K)
       refine cF ?_;go_wp2_with (first|(go_at_call 97;refine(HHd.out _).mono ?_;rintro e w3 ⟨rfl,hb3⟩)|fail)
       have hb4:Below wr.heap.size wr w3:=(Below.refl _ wr).drew.trans hb3;refine⟨⟨j+1,oz,si,qd (HBR.out.trans (hb4.mono hzr)),qd (Q1.out.below hb4),qd (Q2.out.below hb4),qd (Q3.out.below hb4),qd (QO.out.below hb4),hvb,qd (by rw[HTj.out,HFe.out,List.append_nil];exact aA hb4 HV.out)⟩,?_⟩;go_light;exact ml
      ·have HFe:=qd (HFd.out.trans (if_pos ⟨hd0,rfl⟩));go_upto_region 8 with(fail)
       refine bC 11 kr kr ?_;simp only[TD];repeat(refine bS (fun K hK=>?_);go_simp;refine hK _ ?_;clear hK K)
       refine cF ?_;go_upto_region 9 with(first|(go_at_call 97;refine(HHd.out _).mono ?_;rintro e w3 ⟨rfl,hb3⟩)|fail)
       have hb4:Below wr.heap.size wr w3:=(Below.refl _ wr).drew.trans hb3;have R1:=qd (Q1.out.below hb4);have R2:=qd (Q2.out.below hb4);have R3:=qd (Q3.out.below hb4);have RO:=qd (QO.out.below hb4);have RV:=qd (aA hb4 HV.out);have HB4:=qd (HBR.out.trans (hb4.mono hzr));have hz4:=hb4.size;have g1:=aD R1.out;have cd:=(hb4.cell (p:=⟨ob,j,none⟩) (by show ob<_;omega)).trans cj;have hln:=HL.out j;have hdd:¬d=0:=hd0;clear Q1 Q2 Q3 QO HV HBR hb3 a2 b2 cj
       go_region_law (refine iN rfl (.tmp 40) (.tmp 55) 22 2 1 8 (.int .i64 0) rfl Tryz.underlying22 Tryz.info64 rfl dc _ _ _ rfl (aA bel RV.out) ⟨w3.heap.size,0,none⟩ 2 2 (aR [IntKind.i64.wrap (Int.tdiv lo d),IntKind.i64.wrap (Int.tdiv hi d)]) rfl rfl (cC (aF.drew (aF.new' _ _ _ _ si))) (bZ _) bH oz dc ?_;intro g2 cap2 w4 hb5 hc4 hg4)
       all_goals(
        have hc5:aG (fun k=>u6.ownBlock=some k) w3 w4:=(((aG.refl _ w3).alloc _).drew).trans hc4;go_wp2;refine⟨⟨j+1,oz,si,qd (HB4.out.trans (hc5.below _ HB4.out.size (fun k hk e=>by have:=hvb k e;omega))),qd (hc5.own R1.out (fun e=>by have:=hvb _ e;omega)),qd (hc5.own R2.out (fun e=>by have:=hvb _ e;omega)),qd (hc5.own R3.out (fun e=>by have:=hvb _ e;omega)),qd (hc5.own RO.out (fun e=>by have:=hvb _ e;omega)),?_,qd ?_⟩,?_⟩
        ·intro k hk;have hk':g2=k:=by simpa[Value.ownBlock]using hk
         subst hk';rcases hg4 with h|h
         ·exact hvb _ h
         ·simp at h;omega
        ·rw[HTj.out,HFe.out,bK,List.length_append];exact hb5
        ·go_light;exact ml)
    ·obtain rfl:j=4:=oz
     have d2:¬((4:Nat):Int)<4:=oz
     have hv4:wr.ownsRow 0 2 1 u6 DL.length (aR DL):=by rw[<-HT4.out];exact HV.out
     have hl8:DL.length<=8:=by rw[<-HT4.out];exact HL.out 4
     have hp:=HP.out;obtain⟨g,cap,rfl,-,-,hg⟩:=bB hv4 hp;have HB:=qd (HU.out wr g 0 _ cap hg rfl bH hp (fun i hi'=>by
      have hx:=aH hv4 (j:=i) (u:=.int .i64 (DL.getD i 0)) (aV aGh);rw[Nat.zero_add];exact hx))
     clear hv4 HV hvb;go_wp2_with (first|(go_at_call 98;refine HB.out.mono ?_;rintro e w3 ⟨rfl,hb3⟩;have o5:=Q3.out.below hb3;have q5:=aD o5;have q6:=cQ o5;have hz3:=hb3.size;have hbz:=HBR.out.trans (hb3.mono HBR.out.size))|fail)
     exact wG
end Go.Proofs.YteebpnbdihcfmaaGreatDoor
