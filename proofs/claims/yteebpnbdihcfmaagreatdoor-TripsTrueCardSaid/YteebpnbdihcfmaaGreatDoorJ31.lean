/- R14; Plain law; R14; R14 -/
import Derived.Test.YteebpnbdihcfmaaGreatDoorJ30
import Derived.Test.YteebpnbdihcfmaaGreatDoorJ06
import Derived.Test.YteebpnbdihcfmaaGreatDoorJ10
import Derived.Test.YteebpnbdihcfmaaGreatDoorJ29
import Derived.Test.YteebpnbdihcfmaaGreatDoorJ08
import Derived.Test.YteebpnbdihcfmaaGreatDoorJ01
set_option linter.unusedVariables false
set_option linter.unusedSimpArgs false
set_option maxRecDepth 100000
set_option maxHeartbeats 20000000
namespace Go.Proofs.YteebpnbdihcfmaaGreatDoor
open Go.RowKit
theorem listsF_len (l:List (Nat×Int)) (t:Bool) (v:Nat):(listsF l t v).length<=l.length:=by
 unfold listsF;split<;>(rw[List.length_map];exact List.length_filter_le _ _)
theorem listsF_fun (l:List (Nat×Int)) (u v:Nat) (t:Bool) (x:Nat) (y:Int) (hx:(if t then v else u)=x) (hy:(if t then(u:Int)else(v:Int))=y):listsF (l++[(u,(v:Int))]) t=fun k=>if k=x then listsF l t x++[y]else listsF l t k:=by
 subst hx;subst hy;funext k;rw[listsF_snoc];by_cases e:k=(if t then v else u)
 ·rw[if_pos e,if_pos e,e]
 ·rw[if_neg e,if_neg e]
/-- what is empty is nil -/
def NilAt (G:Nat->List Int) (S:List Value):Prop:=∀ v s,S[v]? = some s->(G v).length=0->s=.slice none 0 0
theorem NilAt.push {G:Nat->List Int}{S:List Value}{v:Nat}{x:Int}{s':Value}(h:NilAt G S):NilAt (fun k=>if k=v then G v++[x]else G k) (S.set v s'):=by
 intro u s hs he;dsimp only at he;by_cases e:u=v
 ·rw[if_pos e]at he;simp at he
 ·rw[if_neg e]at he;rw[List.getElem?_set_ne (by omega)]at hs;exact h u s hs he
theorem rlists_any (n:Nat) (l:List (Nat×Int)) (t:Bool) (ea:Option Addr) (ec:Nat) (w:World) (hr:w.ownsRow 0 77 2 (.slice ea l.length ec) l.length (eCs l)) (hl:∀ x∈l,∃ v:Nat,x.2=v/\v<n/\x.1<n) (hlen:l.length<=4096) (hn0:0<n) (hn:n<=1024) :
 Calls Tryz.prog 38 #[.int .i64 n,.slice ea l.length ec,.bool t] w fun e w'=>∃ fb S,e=.returned (.slice (some ⟨fb,0,none⟩) n n)/\Below w.heap.size w w'/\w.heap.size<=fb/\FromAt w' (fb+1) fb n (listsF l t) S/\NilAt (listsF l t) S:=by
 have hm2:=run_make_row' (P:=Tryz.prog) 59 50 (.slice none 0 0) 24 Tryz.underlying59 Tryz.infoS rfl .i64 .i64 n oz oz;rw[madeNils]at hm2;have HL:=qd hl;have HRW:=qd hr;have HEL:Hid (∀ k,ea=some k->k.block<w.heap.size):=qd (fun k hk=>by
  subst hk;rcases row_form hr with⟨h,_⟩|⟨b,c,h,_⟩
  ·cases h
  ·cases h;exact row_lt hr rfl)
 have OS0:(w.alloc (.cells (List.replicate n (Value.slice none 0 0)).toArray 50)).ownsRow 0 50 1 (.slice (some ⟨w.heap.size,0,none⟩) n n) n (List.replicate n (Value.slice none 0 0)):=by
  have:=World.ownsRow_lit w (base:=0) (e:=50) (size:=1) (List.replicate n (Value.slice none 0 0)).toArray n (Nat.zero_le _) (by unfold maxLen;omega) si;simpa using this
 have hL0:∀ v,listsF [] t v=[]:=fun v=>listsF_nil t v;clear hl hr;go_enter Tryz.func38,Tryz.ntmps38;go_wp2;generalize hW0:World.alloc _ _=W0;have hb0:Below w.heap.size w W0:=by rw[<-hW0];exact bel
 have HB0:=qd hb0;have HE0:=qd (row_below hb0 HRW.out);have HG0:Hid (FromAt W0 (w.heap.size+1) w.heap.size n (listsF (l.take 0) t) (List.replicate n (.slice none 0 0))):=qd (by
  refine⟨by rw[<-hW0];exact OS0,si,fun v s hs=>?_,fun v s k hs hk=>?_,oz,fun u v s t k hs ht hk _=>?_⟩
  ·rw[List.getElem?_replicate]at hs;split at hs
   ·cases hs;rw[List.take_zero,hL0];exact World.ownsRow_nil _ _ _ _
   ·cases hs
  ·rw[List.getElem?_replicate]at hs;split at hs
   ·cases hs;cases hk
   ·cases hs
  ·rw[List.getElem?_replicate]at hs;split at hs
   ·cases hs;cases hk
   ·cases hs)
 have HN0:Hid (NilAt (listsF (l.take 0) t) (List.replicate n (.slice none 0 0))):=qd (fun v s hs _=>by
  rw[List.getElem?_replicate]at hs;split at hs
  ·cases hs;rfl
  ·cases hs)
 clear OS0 hW0 hm2 hb0 HRW hL0;generalize hfb:w.heap.size=fb at HG0 HB0 HEL ⊢;have hfb':=Nat.le_of_eq hfb;go_loopw [8] (fun v8 wx=>∃ k:Nat,∃ S,v8=.int .i64 k/\k<=l.length/\Hid (FromAt wx (fb+1) fb n (listsF (l.take k) t) S)/\Hid (wx.ownsRow 0 77 2 (.slice ea l.length ec) l.length (eCs l))/\Hid (Below fb w wx)/\Hid (NilAt (listsF (l.take k) t) S)) (fun v8 _=>l.length-(intOf v8).toNat)
 case atStart=>exact⟨0,_,rfl,Nat.zero_le _,HG0,HE0,HB0,HN0⟩
 case round =>
  clear HG0 HE0 HB0 HN0;obtain⟨k,S,rfl,hk,HT,HE,HBE,HN⟩:=hrel;have hbw:=HBE.out.size;rw[hfb]at hbw;by_cases hkt:k<l.length
  ·have d1:(k:Int)<(l.length:Int):=oz
   have hwk:IntKind.i64.wrap ((k:Int)+1)=(k:Int)+1:=IntWalk.i64_in _ oz;obtain⟨eb,ec',hev,-,-,hebl⟩:=row_pos HE.out oz;cases hev;have hebf:eb<fb:=HEL.out _ rfl;have hgk:l[k]? = some (l[k]'hkt):=List.getElem?_eq_getElem hkt;obtain⟨v,hv1,hv2,hv3⟩:=HL.out _ (List.getElem_mem hkt);have hTA:l.take (k+1)=l.take k++[l[k]'hkt]:=by rw[List.take_add_one,hgk];rfl
   have hAt:=eCs_at hgk;generalize l[k]'hkt=x at *;obtain⟨u,y⟩:=x;dsimp only at *;subst hv1;have e0:=row_cell HE.out hAt.1;have e1:=row_cell HE.out hAt.2;have HLL:Hid (∀ v,(listsF (l.take k) t v).length<=4096):=qd (fun v=>Nat.le_trans (listsF_len _ _ _) (by rw[List.length_take];omega));have i1:(0:Int)<=(v:Int):=oz
   have i2:(v:Int)<(n:Int):=oz
   have i3:(0:Int)<=(u:Int):=oz
   have i4:(u:Int)<(n:Int):=oz
   have i5:(0:Int)<=(k:Int):=oz
   cases t with
   | true =>
    have HTA:Hid (listsF (l.take (k+1)) true=fun q=>if q=v then listsF (l.take k) true v++[(u:Int)]else listsF (l.take k) true q):=qd (by rw[hTA];exact listsF_fun _ _ _ _ _ _ rfl rfl);clear hTA hAt hgk;generalize listsF (l.take k) true=G at *;obtain⟨s,hs⟩:=HT.out.at (v:=v) oz;obtain⟨sa,sc,rfl⟩:=HT.out.form hs;have hsc:=HT.out.cell hs;have hfl:=row_ltB HT.out.row;have hlen:=HLL.out v;have hfr:=HT.out.row.frozenAt v;go_upto_region 6 with(fail)
    refine region_held_plain (fun w'=>w'.cell? ⟨eb,k*2,none⟩=some (.int .i64 (u:Int))/\w'.cell? ⟨eb,k*2+1,none⟩=some (.int .i64 (v:Int))) kr ⟨e0,e1⟩ ?_;intro K0 hK0 hHeld;have hsc1:(wr.drew.alloc (.cells #[.int .i64 (u:Int)] 3)).cell? ⟨fb,v,none⟩=some (.slice sa (G v).length sc):=(World.cell?_of_block (Below.heap_alloc _ _ _ hfl)).trans hsc;have hSA:(wr.drew.alloc (.cells #[.int .i64 (u:Int)] 3)).cell? ⟨eb,k*2,none⟩=some (.int .i64 (u:Int))/\(wr.drew.alloc (.cells #[.int .i64 (u:Int)] 3)).cell? ⟨eb,k*2+1,none⟩=some (.int .i64 (v:Int)):=⟨(World.cell?_of_block (Below.heap_alloc _ _ _ hebl)).trans e0,(World.cell?_of_block (Below.heap_alloc _ _ _ hebl)).trans e1⟩
    (refine wtb 0 rfl ?_ (by intro w' hSw;obtain⟨s0,s1⟩:=hSw;go_simp;(try with_reducible rfl));try simp only[Act.put,SU])
    (refine wtb 1 rfl ?_ (by intro w' hSw;obtain⟨s0,s1⟩:=hSw;go_simp;(try with_reducible rfl));try simp only[Act.put,SU])
    (refine wtb 2 rfl ?_ (by intro w' hSw;obtain⟨s0,s1⟩:=hSw;go_simp;(try with_reducible rfl));try simp only[Act.put,SU])
    (refine wtb 3 rfl ?_ (by intro w' hSw;obtain⟨s0,s1⟩:=hSw;go_simp;(try with_reducible rfl));try simp only[Act.put,SU])
    (refine wtb 4 rfl ?_ (by intro w' hSw;obtain⟨s0,s1⟩:=hSw;go_simp;(try with_reducible rfl));try simp only[Act.put,SU])
    (refine wtb 5 rfl ?_ (by intro w' hSw;obtain⟨s0,s1⟩:=hSw;go_simp;(try with_reducible rfl));try simp only[Act.put,SU])
    (refine wtb 6 rfl ?_ (by intro w' hSw;obtain⟨s0,s1⟩:=hSw;go_simp;(try with_reducible rfl));try simp only[Act.put,SU])
    (refine wtb 7 rfl ?_ (by intro w' hSw;obtain⟨s0,s1⟩:=hSw;go_simp;(try with_reducible rfl));try simp only[Act.put,SU])
    (refine wtb 8 rfl ?_ (by intro w' hSw;obtain⟨s0,s1⟩:=hSw;go_simp;(try with_reducible rfl));try simp only[Act.put,SU])
    (refine wtb 9 rfl ?_ (by intro w' hSw;obtain⟨s0,s1⟩:=hSw;go_simp;(try with_reducible rfl));try simp only[Act.put,SU])
    (refine wtb 10 rfl ?_ (by intro w' hSw;obtain⟨s0,s1⟩:=hSw;go_simp;(try with_reducible rfl));try simp only[Act.put,SU])
    (refine wtb 11 rfl ?_ (by intro w' hSw;obtain⟨s0,s1⟩:=hSw;go_simp;(try with_reducible rfl));try simp only[Act.put,SU])
    (refine wtb 12 rfl ?_ (by intro w' hSw;obtain⟨s0,s1⟩:=hSw;go_simp;(try with_reducible rfl));try simp only[Act.put,SU])
    (refine wtb 14 rfl ?_ (by intro w' hSw;obtain⟨s0,s1⟩:=hSw;go_simp;(try with_reducible rfl));try simp only[Act.put,SU])
    (refine wtb 15 rfl ?_ (by intro w' hSw;obtain⟨s0,s1⟩:=hSw;go_simp;(try with_reducible rfl));try simp only[Act.put,SU])
    (refine wtb 16 rfl ?_ (by intro w' hSw;obtain⟨s0,s1⟩:=hSw;go_simp;(try with_reducible rfl));try simp only[Act.put,SU])
    (refine wtb 17 rfl ?_ (by intro w' hSw;obtain⟨s0,s1⟩:=hSw;go_simp;(try with_reducible rfl));try simp only[Act.put,SU])
    (refine wtb 18 rfl ?_ (by intro w' hSw;obtain⟨s0,s1⟩:=hSw;go_simp;(try with_reducible rfl));try simp only[Act.put,SU])
    refine wpAnyH_ready (rs:=[13,19]) kr si ?_;refine AllReadyH.cons rfl (fun K hK=>?_) (AllReadyH.cons rfl (fun K hK=>?_) AllReadyH.nil)
    all_goals go_simp
    refine hK.out _ _ ?_ (fun hHeld=>?_);(focus((try dsimp only);any_goals (assumption)));clear hK K;try simp only[Act.put,SU]
    (refine wpAnyH_ready (rs:=[19]) kr si ?_;refine AllReadyH.cons rfl (fun K hK=>?_) AllReadyH.nil)
    go_simp
    refine hK.out _ _ ?_ (fun hHeld=>?_);(focus((try dsimp only);any_goals (assumption)));clear hK K;try simp only[Act.put,SU]
    rotate_left;refine hK.out _ _ ?_ (fun hHeld=>?_);(focus((try dsimp only);any_goals (assumption)));clear hK K;try simp only[Act.put,SU]
    (refine wpAnyH_ready (rs:=[13]) kr si ?_;refine AllReadyH.cons rfl (fun K hK=>?_) AllReadyH.nil)
    go_simp
    refine hK.out _ _ ?_ (fun hHeld=>?_);(focus((try dsimp only);any_goals (assumption)));clear hK K;try simp only[Act.put,SU]
    all_goals
     (refine wpAnyH_ready (rs:=[20]) kr si ?_;refine AllReadyH.cons rfl (fun K hK=>?_) AllReadyH.nil)
     have hbA:Below wr.heap.size wr (wr.drew.alloc (.cells #[.int .i64 (u:Int)] 3)):=(Below.refl _ wr).drew.alloc lr _;refine step_app rfl (.tmp 31) (.tmp 37) 50 3 1 8 (.int .i64 0) rfl Tryz.underlying50 Tryz.infoI rfl dc (.slice sa (G v).length sc) _ _ rfl (row_below hbA (HT.out.each v _ hs)) ⟨wr.heap.size,0,none⟩ 1 1 (Nums [(u:Int)]) rfl rfl (src_own (Own.new' _ _ _ _ rfl)) (Nums_one _) (by unfold maxLen;omega) oz dc ?_;intro g6 c6 w6 hr6 hc6 hg6;have hc7:Chg (fun k=>(Value.slice sa (G v).length sc).ownBlock=some k) wr w6:=(Chg.of hbA).trans hc6;have hg7:∀ k,(Value.slice (some ⟨g6,0,none⟩) ((G v).length+1) c6).ownBlock=some k->(Value.slice sa (G v).length sc).ownBlock=some k\/wr.heap.size<=k:=fun k hk=>by
      have e:g6=k:=ob1 hk
      subst e;rcases hg6 with h|h
      ·exact .inl h
      ·simp at h;exact .inr oz
     obtain⟨hT2,-⟩:=HT.out.push hs hc7 hr6 hg7 oz;have hnb:∀ k,k<fb+1->¬(Value.slice sa (G v).length sc).ownBlock=some k:=fun k hk e=>by have:=HT.out.low v _ k hs e;omega
     have hne:¬(Value.slice sa (G v).length sc).ownBlock=some eb:=hnb eb oz;have hS6:w6.cell? ⟨eb,k*2,none⟩=some (.int .i64 (u:Int))/\w6.cell? ⟨eb,k*2+1,none⟩=some (.int .i64 (v:Int)):=⟨(hc7.cellAt _ hebl hne).trans e0,(hc7.cellAt _ hebl hne).trans e1⟩
     have hR6:=row_chg hc7 HT.out.row (fun k hk=>hnb k (by have e:fb=k:=ob1 hk;omega));have hF6:=hR6.frozenAt v;have hE6:=row_cell hR6 hs;have hst:Chg (· = fb) w6 (w6.setCell ⟨fb,v,none⟩ (.slice (some ⟨g6,0,none⟩) ((G v).length+1) c6)):=Chg.setCell (S:=(· = fb)) (Chg.refl _ _) (p:=⟨fb,v,none⟩) (Or.inl rfl) _;have hc8:=hc7.size;have hS7:(w6.setCell ⟨fb,v,none⟩ (.slice (some ⟨g6,0,none⟩) ((G v).length+1) c6)).cell? ⟨eb,k*2,none⟩=some (.int .i64 (u:Int))/\(w6.setCell ⟨fb,v,none⟩ (.slice (some ⟨g6,0,none⟩) ((G v).length+1) c6)).cell? ⟨eb,k*2+1,none⟩=some (.int .i64 (v:Int)):=⟨(hst.cellAt _ oz oz).trans hS6.1,(hst.cellAt _ oz oz).trans hS6.2⟩
     have HT2:=qd hT2;have HE2:=qd (row_chg hst (row_chg hc7 HE.out (fun j hj=>hnb j (by have e:eb=j:=ob1 hj;omega))) (fun j hj e2=>by have e:eb=j:=ob1 hj;omega));have HB2:=qd ((HBE.out.trans (hc7.below _ hbw (fun j hj e=>by have:=HT.out.low v _ j hs e;omega))).trans (hst.below _ oz (fun j hj e=>by omega)));clear hT2 hnb hne hc7 hr6 hc6 hg7 hst hR6 hg6;refine hK.out _ _ ?_ (fun hHeld=>?_);(focus((try dsimp only);any_goals (assumption)));clear hK K;try simp only[Act.put,SU]
     (refine wpAnyH_ready (rs:=[21]) kr si ?_;refine AllReadyH.cons rfl (fun K hK=>?_) AllReadyH.nil)
     go_simp
     refine hK.out _ _ ?_ (fun hHeld=>?_);(focus((try dsimp only);any_goals (assumption)));clear hK K;try simp only[Act.put,SU]
     (refine wpAnyH_ready (rs:=[22]) kr si ?_;refine AllReadyH.cons rfl (fun K hK=>?_) AllReadyH.nil)
     go_simp
     refine hK.out _ _ ?_ (fun hHeld=>?_);(focus((try dsimp only);any_goals (assumption)));clear hK K;try simp only[Act.put,SU]
     refine anyH_done kr ?_;refine hK0.out _ _ ?_;go_wp2;refine⟨⟨k+1,_,si,oz,qd (by rw[HTA.out];exact HT2.out),HE2,HB2,qd (by rw[HTA.out];exact HN.out.push)⟩,?_⟩;go_light;exact ml
   | false =>
    have HTA:Hid (listsF (l.take (k+1)) false=fun q=>if q=u then listsF (l.take k) false u++[(v:Int)]else listsF (l.take k) false q):=qd (by rw[hTA];exact listsF_fun _ _ _ _ _ _ rfl rfl);clear hTA hAt hgk;generalize listsF (l.take k) false=G at *;obtain⟨s,hs⟩:=HT.out.at (v:=u) oz;obtain⟨sa,sc,rfl⟩:=HT.out.form hs;have hsc:=HT.out.cell hs;have hfl:=row_ltB HT.out.row;have hlen:=HLL.out u;have hfr:=HT.out.row.frozenAt u;go_upto_region 7 with(fail)
    refine region_held_plain (fun w'=>w'.cell? ⟨eb,k*2,none⟩=some (.int .i64 (u:Int))/\w'.cell? ⟨eb,k*2+1,none⟩=some (.int .i64 (v:Int))) kr ⟨e0,e1⟩ ?_;intro K0 hK0 hHeld;have hsc1:(wr.drew.alloc (.cells #[.int .i64 (v:Int)] 3)).cell? ⟨fb,u,none⟩=some (.slice sa (G u).length sc):=(World.cell?_of_block (Below.heap_alloc _ _ _ hfl)).trans hsc;have hSA:(wr.drew.alloc (.cells #[.int .i64 (v:Int)] 3)).cell? ⟨eb,k*2,none⟩=some (.int .i64 (u:Int))/\(wr.drew.alloc (.cells #[.int .i64 (v:Int)] 3)).cell? ⟨eb,k*2+1,none⟩=some (.int .i64 (v:Int)):=⟨(World.cell?_of_block (Below.heap_alloc _ _ _ hebl)).trans e0,(World.cell?_of_block (Below.heap_alloc _ _ _ hebl)).trans e1⟩
    (refine wtb 0 rfl ?_ (by intro w' hSw;obtain⟨s0,s1⟩:=hSw;go_simp;(try with_reducible rfl));try simp only[Act.put,SU])
    (refine wtb 1 rfl ?_ (by intro w' hSw;obtain⟨s0,s1⟩:=hSw;go_simp;(try with_reducible rfl));try simp only[Act.put,SU])
    (refine wtb 2 rfl ?_ (by intro w' hSw;obtain⟨s0,s1⟩:=hSw;go_simp;(try with_reducible rfl));try simp only[Act.put,SU])
    (refine wtb 3 rfl ?_ (by intro w' hSw;obtain⟨s0,s1⟩:=hSw;go_simp;(try with_reducible rfl));try simp only[Act.put,SU])
    (refine wtb 4 rfl ?_ (by intro w' hSw;obtain⟨s0,s1⟩:=hSw;go_simp;(try with_reducible rfl));try simp only[Act.put,SU])
    (refine wtb 5 rfl ?_ (by intro w' hSw;obtain⟨s0,s1⟩:=hSw;go_simp;(try with_reducible rfl));try simp only[Act.put,SU])
    (refine wtb 6 rfl ?_ (by intro w' hSw;obtain⟨s0,s1⟩:=hSw;go_simp;(try with_reducible rfl));try simp only[Act.put,SU])
    (refine wtb 7 rfl ?_ (by intro w' hSw;obtain⟨s0,s1⟩:=hSw;go_simp;(try with_reducible rfl));try simp only[Act.put,SU])
    (refine wtb 8 rfl ?_ (by intro w' hSw;obtain⟨s0,s1⟩:=hSw;go_simp;(try with_reducible rfl));try simp only[Act.put,SU])
    (refine wtb 9 rfl ?_ (by intro w' hSw;obtain⟨s0,s1⟩:=hSw;go_simp;(try with_reducible rfl));try simp only[Act.put,SU])
    (refine wtb 10 rfl ?_ (by intro w' hSw;obtain⟨s0,s1⟩:=hSw;go_simp;(try with_reducible rfl));try simp only[Act.put,SU])
    (refine wtb 11 rfl ?_ (by intro w' hSw;obtain⟨s0,s1⟩:=hSw;go_simp;(try with_reducible rfl));try simp only[Act.put,SU])
    (refine wtb 12 rfl ?_ (by intro w' hSw;obtain⟨s0,s1⟩:=hSw;go_simp;(try with_reducible rfl));try simp only[Act.put,SU])
    (refine wtb 14 rfl ?_ (by intro w' hSw;obtain⟨s0,s1⟩:=hSw;go_simp;(try with_reducible rfl));try simp only[Act.put,SU])
    (refine wtb 15 rfl ?_ (by intro w' hSw;obtain⟨s0,s1⟩:=hSw;go_simp;(try with_reducible rfl));try simp only[Act.put,SU])
    (refine wtb 16 rfl ?_ (by intro w' hSw;obtain⟨s0,s1⟩:=hSw;go_simp;(try with_reducible rfl));try simp only[Act.put,SU])
    (refine wtb 17 rfl ?_ (by intro w' hSw;obtain⟨s0,s1⟩:=hSw;go_simp;(try with_reducible rfl));try simp only[Act.put,SU])
    (refine wtb 18 rfl ?_ (by intro w' hSw;obtain⟨s0,s1⟩:=hSw;go_simp;(try with_reducible rfl));try simp only[Act.put,SU])
    refine wpAnyH_ready (rs:=[13,19]) kr si ?_;refine AllReadyH.cons rfl (fun K hK=>?_) (AllReadyH.cons rfl (fun K hK=>?_) AllReadyH.nil)
    all_goals go_simp
    refine hK.out _ _ ?_ (fun hHeld=>?_);(focus((try dsimp only);any_goals (assumption)));clear hK K;try simp only[Act.put,SU]
    (refine wpAnyH_ready (rs:=[19]) kr si ?_;refine AllReadyH.cons rfl (fun K hK=>?_) AllReadyH.nil)
    go_simp
    refine hK.out _ _ ?_ (fun hHeld=>?_);(focus((try dsimp only);any_goals (assumption)));clear hK K;try simp only[Act.put,SU]
    rotate_left;refine hK.out _ _ ?_ (fun hHeld=>?_);(focus((try dsimp only);any_goals (assumption)));clear hK K;try simp only[Act.put,SU]
    (refine wpAnyH_ready (rs:=[13]) kr si ?_;refine AllReadyH.cons rfl (fun K hK=>?_) AllReadyH.nil)
    go_simp
    refine hK.out _ _ ?_ (fun hHeld=>?_);(focus((try dsimp only);any_goals (assumption)));clear hK K;try simp only[Act.put,SU]
    all_goals
     (refine wpAnyH_ready (rs:=[20]) kr si ?_;refine AllReadyH.cons rfl (fun K hK=>?_) AllReadyH.nil)
     have hbA:Below wr.heap.size wr (wr.drew.alloc (.cells #[.int .i64 (v:Int)] 3)):=(Below.refl _ wr).drew.alloc lr _;refine step_app rfl (.tmp 53) (.tmp 59) 50 3 1 8 (.int .i64 0) rfl Tryz.underlying50 Tryz.infoI rfl dc (.slice sa (G u).length sc) _ _ rfl (row_below hbA (HT.out.each u _ hs)) ⟨wr.heap.size,0,none⟩ 1 1 (Nums [(v:Int)]) rfl rfl (src_own (Own.new' _ _ _ _ rfl)) (Nums_one _) (by unfold maxLen;omega) oz dc ?_;intro g6 c6 w6 hr6 hc6 hg6;have hc7:Chg (fun k=>(Value.slice sa (G u).length sc).ownBlock=some k) wr w6:=(Chg.of hbA).trans hc6;have hg7:∀ k,(Value.slice (some ⟨g6,0,none⟩) ((G u).length+1) c6).ownBlock=some k->(Value.slice sa (G u).length sc).ownBlock=some k\/wr.heap.size<=k:=fun k hk=>by
      have e:g6=k:=ob1 hk
      subst e;rcases hg6 with h|h
      ·exact .inl h
      ·simp at h;exact .inr oz
     obtain⟨hT2,-⟩:=HT.out.push hs hc7 hr6 hg7 oz;have hnb:∀ k,k<fb+1->¬(Value.slice sa (G u).length sc).ownBlock=some k:=fun k hk e=>by have:=HT.out.low u _ k hs e;omega
     have hne:¬(Value.slice sa (G u).length sc).ownBlock=some eb:=hnb eb oz;have hS6:w6.cell? ⟨eb,k*2,none⟩=some (.int .i64 (u:Int))/\w6.cell? ⟨eb,k*2+1,none⟩=some (.int .i64 (v:Int)):=⟨(hc7.cellAt _ hebl hne).trans e0,(hc7.cellAt _ hebl hne).trans e1⟩
     have hR6:=row_chg hc7 HT.out.row (fun k hk=>hnb k (by have e:fb=k:=ob1 hk;omega));have hF6:=hR6.frozenAt u;have hE6:=row_cell hR6 hs;have hst:Chg (· = fb) w6 (w6.setCell ⟨fb,u,none⟩ (.slice (some ⟨g6,0,none⟩) ((G u).length+1) c6)):=Chg.setCell (S:=(· = fb)) (Chg.refl _ _) (p:=⟨fb,u,none⟩) (Or.inl rfl) _;have hc8:=hc7.size;have hS7:(w6.setCell ⟨fb,u,none⟩ (.slice (some ⟨g6,0,none⟩) ((G u).length+1) c6)).cell? ⟨eb,k*2,none⟩=some (.int .i64 (u:Int))/\(w6.setCell ⟨fb,u,none⟩ (.slice (some ⟨g6,0,none⟩) ((G u).length+1) c6)).cell? ⟨eb,k*2+1,none⟩=some (.int .i64 (v:Int)):=⟨(hst.cellAt _ oz oz).trans hS6.1,(hst.cellAt _ oz oz).trans hS6.2⟩
     have HT2:=qd hT2;have HE2:=qd (row_chg hst (row_chg hc7 HE.out (fun j hj=>hnb j (by have e:eb=j:=ob1 hj;omega))) (fun j hj e2=>by have e:eb=j:=ob1 hj;omega));have HB2:=qd ((HBE.out.trans (hc7.below _ hbw (fun j hj e=>by have:=HT.out.low u _ j hs e;omega))).trans (hst.below _ oz (fun j hj e=>by omega)));clear hT2 hnb hne hc7 hr6 hc6 hg7 hst hR6 hg6;refine hK.out _ _ ?_ (fun hHeld=>?_);(focus((try dsimp only);any_goals (assumption)));clear hK K;try simp only[Act.put,SU]
     (refine wpAnyH_ready (rs:=[21]) kr si ?_;refine AllReadyH.cons rfl (fun K hK=>?_) AllReadyH.nil)
     go_simp
     refine hK.out _ _ ?_ (fun hHeld=>?_);(focus((try dsimp only);any_goals (assumption)));clear hK K;try simp only[Act.put,SU]
     (refine wpAnyH_ready (rs:=[22]) kr si ?_;refine AllReadyH.cons rfl (fun K hK=>?_) AllReadyH.nil)
     go_simp
     refine hK.out _ _ ?_ (fun hHeld=>?_);(focus((try dsimp only);any_goals (assumption)));clear hK K;try simp only[Act.put,SU]
     refine anyH_done kr ?_;refine hK0.out _ _ ?_;go_wp2;refine⟨⟨k+1,_,si,oz,qd (by rw[HTA.out];exact HT2.out),HE2,HB2,qd (by rw[HTA.out];exact HN.out.push)⟩,?_⟩;go_light;exact ml
  ·obtain rfl:k=l.length:=oz
   have d1:¬(l.length:Int)<(l.length:Int):=oz
   rw[List.take_length]at HT HN;go_wp2
   try rw[Exit.noGoto_ret]
   go_ret;exact⟨fb,rfl,HBE.out,Nat.le_refl _,_,HT.out,HN.out⟩
section
def unM (been:Int->Bool):Nat:=((List.range 1024).filter fun k:Nat => !been k).length
structure QInv (nx:Int->List Int) (b0:Int->Bool) (t0:List Int) (n:Nat) (been:Int->Bool) (todo:List Int) (i:Nat):Prop where
 s:SInv nx b0 t0 been (todo.drop i)
 sz:4096*unM been+todo.length<=4198400
 el:∀ x∈todo,∃ k:Nat,x=k/\k<n
section
variable {nx : Int -> List Int} {b0 : Int -> Bool} {t0 todo : List Int} {been : Int -> Bool} {n i : Nat} {a : Int}
theorem QInv.start (h1:t0.length<=4096) (h2:∀ x∈t0,∃ k:Nat,x=k/\k<n):QInv nx b0 t0 n b0 t0 0:=⟨by rw[List.drop_zero];exact .start,by
 have:unM b0<=1024:=by
  unfold unM;have:=List.length_filter_le (fun k:Nat => !b0 k) (List.range 1024)
  rwa [List.length_range]at this
 omega,h2⟩
theorem QInv.len (h:QInv nx b0 t0 n been todo i):todo.length<=4198400:=by have:=h.sz;omega
theorem QInv.at (h:QInv nx b0 t0 n been todo i) (hi:todo[i]? = some a):SInv nx b0 t0 been (todo.drop (i+1)++[a]):=by
 obtain⟨hl,he⟩:=List.getElem?_eq_some_iff.1 hi;refine SInv.popped ?_;have h2:=h.s;rw[List.drop_eq_getElem_cons hl,he]at h2;exact h2
theorem QInv.skip (h:QInv nx b0 t0 n been todo i) (hi:todo[i]? = some a) (hb:been a=true):QInv nx b0 t0 n been todo (i+1):=⟨(h.at hi).drop hb,h.sz,h.el⟩
theorem QInv.push (h:QInv nx b0 t0 n been todo i) (hn:n<=1024) (hi:todo[i]? = some a) (hb:been a=false) (h1:(nx a).length<=4096) (h2:∀ x∈nx a,∃ k:Nat,x=k/\k<n):QInv nx b0 t0 n (addB been a) (todo++nx a) (i+1):=by
 obtain⟨hl,he⟩:=List.getElem?_eq_some_iff.1 hi;refine⟨?_,?_,?_⟩
 ·rw[List.drop_append_of_le_length (by omega)];exact(h.at hi).mark hb
 ·obtain⟨k,rfl,hk⟩:=h.el a (List.mem_of_getElem? hi);have h3:=filt_lt hb (List.range 1024) (List.mem_range.2 oz);have h4:=h.sz;unfold unM at *;rw[List.length_append];omega
 ·intro x hx;rcases List.mem_append.1 hx with hx|hx
  ·exact h.el x hx
  ·exact h2 x hx
theorem QInv.done (h:QInv nx b0 t0 n been todo i) (hi:todo.length<=i) (x:Int):been x=true↔b0 x=true\/Cl nx b0 t0 x:=by
 have h2:=h.s;rw[List.drop_eq_nil_of_le hi]at h2;exact h2.done x
theorem QInv.cl (h:QInv nx b0 t0 n been todo i) (hi:todo[i]? = some a):Cl nx b0 t0 a:=(h.at hi).tr a si
end
/-- marks in a row -/
def mkL (n:Nat) (been:Int->Bool):List Bool:=(List.range n).map fun k:Nat=>been k
theorem mkL_len (n:Nat) (been:Int->Bool):(mkL n been).length=n:=by simp[mkL]
theorem mkL_at {n k:Nat}(been:Int->Bool) (h:k<n):(mkL n been)[k]? = some (been k):=by simp[mkL,h]
theorem mkL_none (n:Nat):mkL n (fun _=>false)=List.replicate n false:=by
 apply List.ext_getElem?;intro j;by_cases h:j<n
 ·rw[mkL_at _ h,List.getElem?_replicate,if_pos h]
 ·rw[List.getElem?_eq_none (by rw[mkL_len];omega),List.getElem?_eq_none (by rw[List.length_replicate];omega)]
theorem mkL_add {n k:Nat}(been:Int->Bool) (h:k<n):(mkL n been).set k true=mkL n (addB been k):=by
 apply List.ext_getElem?;intro j;by_cases h2:j<n
 ·rw[mkL_at _ h2];by_cases e:j=k
  ·subst e;rw[List.getElem?_set_self (by rw[mkL_len];exact h),addB_self]
  ·rw[List.getElem?_set_ne (by omega),mkL_at _ h2];have:addB been (k:Int) (j:Int)=been (j:Int):=by simp[addB];omega
   rw[this]
 ·rw[List.getElem?_eq_none (by rw[List.length_set,mkL_len];omega),List.getElem?_eq_none (by rw[mkL_len];omega)]
end
theorem rround_any (n lo fb h:Nat) (G:Nat->List Int) (S:List Value) (w:World) (hf:FromAt w lo fb n G S) (hnl:NilAt G S) (hG:∀ v x,x∈G v->∃ k:Nat,x=k/\k<n) (hGl:∀ v,(G v).length<=4096) (hh:h<n) (hn:n<=1024) :
 Calls Tryz.prog 39 #[.slice (some ⟨fb,0,none⟩) n n,.int .i64 h] w fun e w'=>∃ b,e=.returned (.bool b)/\(b=true↔Cl (fun x=>G x.toNat) (fun _=>false) (G h) h)/\Below w.heap.size w w':=by
 have hmk:=run_make_row' (P:=Tryz.prog) 89 4 (.bool false) 1 Tryz.underlying89 Tryz.infoB rfl .i64 .i64 n oz oz;rw[madeBools]at hmk;have HST:=qd (QInv.start (nx:=fun x=>G x.toNat) (b0:=fun _=>false) (t0:=G h) (n:=n) (hGl h) (hG h));have HSK:Hid (∀ been todo i a,QInv (fun x=>G x.toNat) (fun _=>false) (G h) n been todo i->todo[i]? = some a->been a=true->QInv (fun x=>G x.toNat) (fun _=>false) (G h) n been todo (i+1)):=qd (fun _ _ _ _ q=>q.skip);have HPU:Hid (∀ been todo i (a:Nat),QInv (fun x=>G x.toNat) (fun _=>false) (G h) n been todo i->todo[i]? = some (a:Int)->been a=false->QInv (fun x=>G x.toNat) (fun _=>false) (G h) n (addB been a) (todo++G a) (i+1)):=qd (fun _ _ _ a q h1 h2=>q.push hn h1 h2 (hGl _) (hG _));have HCL:Hid (∀ been todo i,QInv (fun x=>G x.toNat) (fun _=>false) (G h) n been todo i->todo[i]? = some (h:Int)->Cl (fun x=>G x.toNat) (fun _=>false) (G h) h):=qd (fun _ _ _ q=>q.cl);have HDN:Hid (∀ been todo i,QInv (fun x=>G x.toNat) (fun _=>false) (G h) n been todo i->todo.length<=i->been h=false->¬Cl (fun x=>G x.toNat) (fun _=>false) (G h) h):=qd (fun _ _ _ q h1 h2 hc=>by rw[(q.done h1 _).2 (.inr hc)]at h2;cases h2);obtain⟨C,hC⟩:∃ C,Cl (fun x=>G x.toNat) (fun _=>false) (G h) h=C:=⟨_,rfl⟩
 rw[hC]at HCL HDN ⊢;generalize hQ:QInv (fun x=>G x.toNat) (fun _=>false) (G h) n=Q at *;have HF:=qd hf;have HNL:=qd hnl;have HGl:=qd hGl;have HGG:=qd hG;have HEl:Hid (∀ been todo i,Q been todo i->(∀ x∈todo,∃ k:Nat,x=k/\k<n)/\todo.length<=4198400):=qd (by subst hQ;exact fun _ _ _ q=>⟨q.el,q.len⟩);obtain⟨s,hs⟩:=hf.at hh;have hc0:=hf.cell hs;obtain⟨sa,sc,rfl⟩:=hf.form hs;have hsr:=hf.each h _ hs;have hsn:=hnl h _ hs;have hfl:=row_ltB hf.row;have i1:(0:Int)<=(h:Int):=oz
 have i2:(h:Int)<(n:Int):=oz
 have hlg:=hGl h;have HSR:=qd hsr;have HSN:=qd hsn;clear hf hnl hG hGl hQ hC hs hsr hsn;go_enter Tryz.func39,Tryz.ntmps39;go_upto_region 2 with(fail)
 have HC:(w.alloc (.cells (Bools (List.replicate n false)).toArray 4)).ownsRow 0 4 1 (.slice (some ⟨w.heap.size,0,none⟩) n n) n (Bools (mkL n (fun _=>false))):=by rw[mkL_none];exact World.ownsRow_lit w (base:=0) (e:=4) (size:=1) (Bools (List.replicate n false)).toArray n (Nat.zero_le _) (by unfold maxLen;omega) (by simp[Bools])
 generalize hW0:World.alloc _ _=W0 at *;have hb0:Below w.heap.size w W0:=by rw[<-hW0];exact bel
 have hz0:w.heap.size+1<=W0.heap.size:=by rw[<-hW0];simp
 have hc1:=(hb0.cell (p:=⟨fb,h,none⟩) hfl).trans hc0;have HR0:=qd (row_below hb0 HSR.out);have T0:(W0.alloc (.cells #[] 3)).ownsRow 0 3 1 (.slice (some ⟨W0.heap.size,0,none⟩) 0 0) 0 []:=row_none W0 _ 1 rfl;have hbA:Below W0.heap.size W0 (W0.alloc (.cells #[] 3)):=bal;have hc2:=(hbA.cell (p:=⟨fb,h,none⟩) (show fb<W0.heap.size by omega)).trans hc1;clear hmk hW0;go_wp2_with (first|(at_builtin;refine wpList_appS rfl (.tmp 11) (.tmp 15) 50 3 1 8 (.int .i64 0) rfl Tryz.underlying50 Tryz.infoI rfl dc (.slice (some ⟨W0.heap.size,0,none⟩) 0 0) 0 [] rfl T0 (.slice sa (G h).length sc) (G h).length (Nums (G h)) rfl (row_below hbA HR0.out) HSN.out (Nums_one _) (by unfold maxLen;omega) oz ?_;intro v6 w1 hr1 hc9 hg1)|fail)
 rw[Nat.zero_add,List.nil_append]at hr1;have hcT:Chg (fun k=>k=W0.heap.size) W0 w1:=(Chg.of hbA).trans (hc9.mono fun k _ hk=>by have e:W0.heap.size=k:=ob1 hk;exact e.symm);have hb1:Below w.heap.size w w1:=hb0.trans (hcT.below _ hb0.size (fun k _ e=>by omega));have HC1:=qd (row_chg hcT HC (fun k hk e=>by have e2:w.heap.size=k:=ob1 hk;omega));have HT1:=qd hr1;have HB1:=qd hb1;have hov1:∀ j,v6.ownBlock=some j->w.heap.size<j:=fun j hj=>by
  rcases hg1 j hj with e|e
  ·have e2:W0.heap.size=j:=ob1 e
   omega
  ·have:=hbA.size;omega
 have hlof:fb<w.heap.size:=hfl;clear hr1 hc9 hg1 hcT hb1 HC T0 hbA hc2 hc1 hc0 hb0 HR0 HSR HSN hz0;go_wp2;go_loopw [6,7] (fun v6 v7 wx=>∃ (been:Int->Bool) (todo:List Int) (i:Nat),v7=.int .i64 i/\i<=todo.length/\Hid (Q been todo i)/\Hid (been h=false)/\Hid (wx.ownsRow 0 4 1 (.slice (some ⟨w.heap.size,0,none⟩) n n) n (Bools (mkL n been)))/\Hid (wx.ownsRow 0 3 1 v6 todo.length (Nums todo))/\(∀ j,v6.ownBlock=some j->w.heap.size<j)/\Hid (Below w.heap.size w wx)) (fun _ i _=>4198400-(intOf i).toNat)
 case atStart=>exact⟨_,_,0,rfl,Nat.zero_le _,HST,qd rfl,HC1,HT1,hov1,HB1⟩
 case round =>
  clear HC1 HT1 hov1 HB1 HST;obtain⟨been,todo,i,rfl,hi,HQ,HBH,HC,HT,hov,HBE⟩:=hrel;have hbw:=HBE.out.size;have hll:=(HEl.out _ _ _ HQ.out).2;have HF2:=qd (HF.out.below HBE.out);by_cases hit:i<todo.length
  ·have d1:(i:Int)<(todo.length:Int):=oz
   obtain⟨a,ha⟩:∃ a,todo[i]? = some a:=⟨_,List.getElem?_eq_getElem hit⟩
   obtain⟨k,rfl,hk⟩:=(HEl.out _ _ _ HQ.out).1 a (List.mem_of_getElem? ha);obtain⟨tb,tc,rfl,htc,htm,htl⟩:=row_pos HT.out oz;have t0:=row_cell HT.out (Nums_some ha);have hwi:IntKind.i64.wrap ((i:Int)+1)=(i:Int)+1:=IntWalk.i64_in _ oz;have i3:(0:Int)<=(k:Int):=oz
   have i4:(k:Int)<(n:Int):=oz
   have c0:=row_cell HC.out (j:=k) (u:=.bool (been k)) (by unfold Bools;rw[List.getElem?_map,mkL_at _ hk];rfl);have z0:=HC.out.frozenAt k;have hcbl:=row_ltB HC.out;have HA:=qd ha;clear ha;by_cases hkh:k=h
   ·subst hkh;have e1:((k:Int)==(k:Int))=true:=si
    have HCC:=qd (HCL.out _ _ _ HQ.out HA.out);go_wp2
    try rw[Exit.noGoto_ret]
    go_ret;exact⟨true,rfl,⟨fun _=>HCC.out,fun _=>rfl⟩,HBE.out⟩
   ·have e1:((k:Int)==(h:Int))=false:=by simp;omega
    have e2:¬(k:Int)=(h:Int):=oz
    cases hbk:been k
    ·rw[hbk]at c0;have HPQ:=qd (HPU.out _ _ _ _ HQ.out HA.out hbk);have HBH2:Hid (addB been k h=false):=qd (by
      have:=HBH.out;simp[addB,this];omega)
     have hlk:=HGl.out k;obtain⟨s,hs⟩:=HF2.out.at hk;have f0:=HF2.out.cell hs;obtain⟨sa2,sc2,rfl⟩:=HF2.out.form hs;have HS2:=qd hs;have HSR2:=qd (HF2.out.each k _ hs);have HSN2:=qd (HNL.out k _ hs);have hst:Chg (fun j=>j=w.heap.size) wr (wr.setCell ⟨w.heap.size,k,none⟩ (.bool true)):=Chg.setCell (S:=fun j=>j=w.heap.size) (Chg.refl _ _) (p:=⟨w.heap.size,k,none⟩) (.inl rfl) _;have C2:=row_set HC.out k (.bool true);rw[Bools_set,mkL_add _ hk]at C2;have T2:=qd (row_chg hst HT.out (fun j hj e=>by have:=hov j hj;omega));have t1:=row_cell T2.out (Nums_some HA.out);have HB2:=qd (HBE.out.trans (hst.below _ hbw (fun j hj e=>by omega)));have HF3:=qd (HF.out.below HB2.out);have f1:=HF3.out.cell HS2.out;have HSR3:=qd (HF3.out.each k _ HS2.out);have hsz2:wr.heap.size=(wr.setCell ⟨w.heap.size,k,none⟩ (.bool true)).heap.size:=si
     have HC2:=qd C2;have HKG:=qd hbk;clear hst C2 hs hbk HCL HDN HSK;go_wp2_with (first|(at_builtin;refine wpList_appS rfl (.tmp 43) (.tmp 50) 50 3 1 8 (.int .i64 0) rfl Tryz.underlying50 Tryz.infoI rfl dc (.slice (some ⟨tb,0,none⟩) todo.length tc) todo.length (Nums todo) rfl T2.out (.slice sa2 (G k).length sc2) (G k).length (Nums (G k)) rfl HSR3.out HSN2.out (Nums_one _) (by unfold maxLen;omega) oz ?_;intro v6 w5 hr5 hc5 hg5)|fail)
     have hbt:=T2.out;have hcA:Chg (fun j=>(Value.slice (some ⟨tb,0,none⟩) todo.length tc).ownBlock=some j) (wr.setCell ⟨w.heap.size,k,none⟩ (.bool true)) w5:=hc5;refine⟨⟨addB been k,todo++G k,i+1,si,by rw[List.length_append];omega,HPQ,HBH2,qd (row_chg hcA HC2.out (fun j hj e=>by have e1:=hov j e;have e2:w.heap.size=j:=ob1 hj;omega)),qd (by rw[List.length_append,Nums_append];exact hr5),fun j hj=>?_,qd (HB2.out.trans (hcA.below _ HB2.out.size (fun j hj e=>by have:=hov j e;omega)))⟩,?_⟩
     ·rcases hg5 j hj with e|e
      ·exact hov j e
      ·rw[<-hsz2]at e;omega
     ·go_light;exact ml
    ·rw[hbk]at c0;have HSQ:=qd (HSK.out _ _ _ _ HQ.out HA.out hbk);go_wp2;refine⟨⟨been,todo,i+1,si,oz,HSQ,HBH,HC,HT,hov,HBE⟩,?_⟩;go_light;exact ml
  ·obtain rfl:i=todo.length:=oz
   have d1:¬(todo.length:Int)<(todo.length:Int):=oz
   have HCC:=qd (HDN.out _ _ _ HQ.out lr HBH.out);obtain⟨ta,tc,rfl⟩:∃ ta tc,u6=.slice ta todo.length tc:=by
    rcases row_form HT.out with⟨rfl,h0,_⟩|⟨b,c,rfl,_⟩
    ·exact⟨none,0,by rw[h0]⟩
    ·exact⟨_,c,rfl⟩
   go_wp2
   try rw[Exit.noGoto_ret]
   go_ret
   first|exact .inl ⟨rfl,HCC.out,HBE.out⟩|exact⟨false,rfl,⟨fun e=>by cases e,fun c=>absurd c HCC.out⟩,HBE.out⟩
theorem rmembers_any (n lo fb h:Nat) (G:Nat->List Int) (S:List Value) (T:List Int) (vt:Value) (w:World) (hf:FromAt w lo fb n G S) (hnl:NilAt G S) (hG:∀ v x,x∈G v->∃ k:Nat,x=k/\k<n) (hGl:∀ v,(G v).length<=4096) (hh:h<n) (hn:n<=1024)
 (hvt:w.ownsRow 0 3 1 vt T.length (Nums T)) (hvn:T.length=0->vt=.slice none 0 0) (hT:∀ x∈T,∃ k:Nat,x=k/\k<n) (hTl:T.length<=4096) :
 Calls Tryz.prog 40 #[.int .i64 n,.slice (some ⟨fb,0,none⟩) n n,.int .i64 h,vt] w fun e w'=>∃ been:Int->Bool,e=.returned (.slice (some ⟨w.heap.size,0,none⟩) n n)/\(∀ x,been x=true↔decide (x=(h:Int))=true\/Cl (fun x=>G x.toNat) (fun x=>decide (x=(h:Int))) T x)/\Below w.heap.size w w'/\w'.ownsRow 0 4 1 (.slice (some ⟨w.heap.size,0,none⟩) n n) n (Bools (mkL n been)):=by
 have hmk:=run_make_row' (P:=Tryz.prog) 89 4 (.bool false) 1 Tryz.underlying89 Tryz.infoB rfl .i64 .i64 n oz oz;rw[madeBools]at hmk;have HST:=qd (QInv.start (nx:=fun x=>G x.toNat) (b0:=fun x=>decide (x=(h:Int))) (t0:=T) (n:=n) hTl hT);have HSK:Hid (∀ been todo i a,QInv (fun x=>G x.toNat) (fun x=>decide (x=(h:Int))) T n been todo i->todo[i]? = some a->been a=true->QInv (fun x=>G x.toNat) (fun x=>decide (x=(h:Int))) T n been todo (i+1)):=qd (fun _ _ _ _ q=>q.skip);have HPU:Hid (∀ been todo i (a:Nat),QInv (fun x=>G x.toNat) (fun x=>decide (x=(h:Int))) T n been todo i->todo[i]? = some (a:Int)->been a=false->QInv (fun x=>G x.toNat) (fun x=>decide (x=(h:Int))) T n (addB been a) (todo++G a) (i+1)):=qd (fun _ _ _ a q h1 h2=>q.push hn h1 h2 (hGl _) (hG _));have HDN:Hid (∀ been todo i,QInv (fun x=>G x.toNat) (fun x=>decide (x=(h:Int))) T n been todo i->todo.length<=i->∀ x,been x=true↔decide (x=(h:Int))=true\/Cl (fun x=>G x.toNat) (fun x=>decide (x=(h:Int))) T x):=qd (fun _ _ _ q h1=>q.done h1);have H00:mkL n (fun x=>decide (x=(h:Int)))=(List.replicate n false).set h true:=by
  rw[<-mkL_none,mkL_add _ hh];apply List.map_congr_left;intro k _;simp[addB]
 generalize (fun x=>decide (x=(h:Int)))=b0 at *;generalize hC:Cl (fun x=>G x.toNat) b0 T=C at *;generalize hQ:QInv (fun x=>G x.toNat) b0 T n=Q at *;have HF:=qd hf;have HNL:=qd hnl;have HGl:=qd hGl;have HGG:=qd hG;have HEl:Hid (∀ been todo i,Q been todo i->(∀ x∈todo,∃ k:Nat,x=k/\k<n)/\todo.length<=4198400):=qd (by subst hQ;exact fun _ _ _ q=>⟨q.el,q.len⟩);have hfl:=row_ltB hf.row;have i1:(0:Int)<=(h:Int):=oz
 have i2:(h:Int)<(n:Int):=oz
 have HSR:=qd hvt;have HSN:=qd hvn;clear hf hnl hG hGl hQ hC hvt hvn hT;go_enter Tryz.func40,Tryz.ntmps40;go_upto_region 2 with(fail)
 have HC0:(w.alloc (.cells (Bools (List.replicate n false)).toArray 4)).ownsRow 0 4 1 (.slice (some ⟨w.heap.size,0,none⟩) n n) n (Bools (List.replicate n false)):=World.ownsRow_lit w (base:=0) (e:=4) (size:=1) (Bools (List.replicate n false)).toArray n (Nat.zero_le _) (by unfold maxLen;omega) (by simp[Bools]);generalize hW9:World.alloc _ _=W9 at *;have hb9:Below w.heap.size w W9:=by rw[<-hW9];exact bel
 have hz9:w.heap.size+1<=W9.heap.size:=by rw[<-hW9];simp
 have c9:=row_cell HC0 (j:=h) (u:=.bool false) (by unfold Bools;rw[List.getElem?_map,List.getElem?_replicate,if_pos hh];rfl);have z9:=HC0.frozenAt h;clear hmk hW9;go_upto_region 3 with(fail)
 have HC:=row_set HC0 h (.bool true);rw[Bools_set,<-H00]at HC;have hst0:Chg (fun j=>j=w.heap.size) W9 (W9.setCell ⟨w.heap.size,h,none⟩ (.bool true)):=Chg.setCell (S:=fun j=>j=w.heap.size) (Chg.refl _ _) (p:=⟨w.heap.size,h,none⟩) (.inl rfl) _;have hb0:=hb9.trans (hst0.below _ hb9.size (fun j hj e=>by omega));have hs0:=hst0.size;generalize hW0:World.setCell _ _ _=W0 at *;have hz0:w.heap.size+1<=W0.heap.size:=oz
 have HR0:=qd (row_below hb0 HSR.out);have T0:(W0.alloc (.cells #[] 3)).ownsRow 0 3 1 (.slice (some ⟨W0.heap.size,0,none⟩) 0 0) 0 []:=row_none W0 _ 1 rfl;have hbA:Below W0.heap.size W0 (W0.alloc (.cells #[] 3)):=bal;clear hW0 c9 z9 HC0 hst0 hs0 hb9 hz9;go_wp2_with (first|(at_builtin;refine wpList_appS rfl (.tmp 17) (.tmp 18) 50 3 1 8 (.int .i64 0) rfl Tryz.underlying50 Tryz.infoI rfl dc (.slice (some ⟨W0.heap.size,0,none⟩) 0 0) 0 [] rfl T0 vt T.length (Nums T) rfl (row_below hbA HR0.out) HSN.out (Nums_one _) (by unfold maxLen;omega) oz ?_;intro v10 w1 hr1 hc9 hg1)|fail)
 rw[Nat.zero_add,List.nil_append]at hr1;have hcT:Chg (fun k=>k=W0.heap.size) W0 w1:=(Chg.of hbA).trans (hc9.mono fun k _ hk=>by have e:W0.heap.size=k:=ob1 hk;exact e.symm);have hb1:Below w.heap.size w w1:=hb0.trans (hcT.below _ hb0.size (fun k _ e=>by omega));have HC1:=qd (row_chg hcT HC (fun k hk e=>by have e2:w.heap.size=k:=ob1 hk;omega));have HT1:=qd hr1;have HB1:=qd hb1;have hov1:∀ j,v10.ownBlock=some j->w.heap.size<j:=fun j hj=>by
  rcases hg1 j hj with e|e
  ·have e2:W0.heap.size=j:=ob1 e
   omega
  ·have:=hbA.size;omega
 have hlof:fb<w.heap.size:=hfl;clear hr1 hc9 hg1 hcT hb1 HC T0 hbA hb0 HR0 HSR HSN hz0 H00;go_wp2;go_loopw [10,11] (fun v10 v11 wx=>∃ (been:Int->Bool) (todo:List Int) (i:Nat),v11=.int .i64 i/\i<=todo.length/\Hid (Q been todo i)/\Hid (wx.ownsRow 0 4 1 (.slice (some ⟨w.heap.size,0,none⟩) n n) n (Bools (mkL n been)))/\Hid (wx.ownsRow 0 3 1 v10 todo.length (Nums todo))/\(∀ j,v10.ownBlock=some j->w.heap.size<j)/\Hid (Below w.heap.size w wx)) (fun _ i _=>4198400-(intOf i).toNat)
 case atStart=>exact⟨_,_,0,rfl,Nat.zero_le _,HST,HC1,HT1,hov1,HB1⟩
 case round =>
  clear HC1 HT1 hov1 HB1 HST;obtain⟨been,todo,i,rfl,hi,HQ,HC,HT,hov,HBE⟩:=hrel;have hbw:=HBE.out.size;have hll:=(HEl.out _ _ _ HQ.out).2;have HF2:=qd (HF.out.below HBE.out);by_cases hit:i<todo.length
  ·have d1:(i:Int)<(todo.length:Int):=oz
   obtain⟨a,ha⟩:∃ a,todo[i]? = some a:=⟨_,List.getElem?_eq_getElem hit⟩
   obtain⟨k,rfl,hk⟩:=(HEl.out _ _ _ HQ.out).1 a (List.mem_of_getElem? ha);obtain⟨tb,tc,rfl,htc,htm,htl⟩:=row_pos HT.out oz;have t0:=row_cell HT.out (Nums_some ha);have hwi:IntKind.i64.wrap ((i:Int)+1)=(i:Int)+1:=IntWalk.i64_in _ oz;have i3:(0:Int)<=(k:Int):=oz
   have i4:(k:Int)<(n:Int):=oz
   have c0:=row_cell HC.out (j:=k) (u:=.bool (been k)) (by unfold Bools;rw[List.getElem?_map,mkL_at _ hk];rfl);have z0:=HC.out.frozenAt k;have hcbl:=row_ltB HC.out;have HA:=qd ha;clear ha;cases hbk:been k
   ·rw[hbk]at c0;have HPQ:=qd (HPU.out _ _ _ _ HQ.out HA.out hbk);have hlk:=HGl.out k;obtain⟨s,hs⟩:=HF2.out.at hk;have f0:=HF2.out.cell hs;obtain⟨sa2,sc2,rfl⟩:=HF2.out.form hs;have HS2:=qd hs;have HSR2:=qd (HF2.out.each k _ hs);have HSN2:=qd (HNL.out k _ hs);have hst:Chg (fun j=>j=w.heap.size) wr (wr.setCell ⟨w.heap.size,k,none⟩ (.bool true)):=Chg.setCell (S:=fun j=>j=w.heap.size) (Chg.refl _ _) (p:=⟨w.heap.size,k,none⟩) (.inl rfl) _;have C2:=row_set HC.out k (.bool true);rw[Bools_set,mkL_add _ hk]at C2;have T2:=qd (row_chg hst HT.out (fun j hj e=>by have:=hov j hj;omega));have t1:=row_cell T2.out (Nums_some HA.out);have HB2:=qd (HBE.out.trans (hst.below _ hbw (fun j hj e=>by omega)));have HF3:=qd (HF.out.below HB2.out);have f1:=HF3.out.cell HS2.out;have HSR3:=qd (HF3.out.each k _ HS2.out);have hsz2:wr.heap.size=(wr.setCell ⟨w.heap.size,k,none⟩ (.bool true)).heap.size:=si
    have HC2:=qd C2;have HKG:=qd hbk;clear hst C2 hs hbk HDN HSK;go_wp2_with (first|(at_builtin;refine wpList_appS rfl (.tmp 40) (.tmp 47) 50 3 1 8 (.int .i64 0) rfl Tryz.underlying50 Tryz.infoI rfl dc (.slice (some ⟨tb,0,none⟩) todo.length tc) todo.length (Nums todo) rfl T2.out (.slice sa2 (G k).length sc2) (G k).length (Nums (G k)) rfl HSR3.out HSN2.out (Nums_one _) (by unfold maxLen;omega) oz ?_;intro v10 w5 hr5 hc5 hg5)|fail)
    have hbt:=T2.out;have hcA:Chg (fun j=>(Value.slice (some ⟨tb,0,none⟩) todo.length tc).ownBlock=some j) (wr.setCell ⟨w.heap.size,k,none⟩ (.bool true)) w5:=hc5;refine⟨⟨addB been k,todo++G k,i+1,si,by rw[List.length_append];omega,HPQ,qd (row_chg hcA HC2.out (fun j hj e=>by have e1:=hov j e;have e2:w.heap.size=j:=ob1 hj;omega)),qd (by rw[List.length_append,Nums_append];exact hr5),fun j hj=>?_,qd (HB2.out.trans (hcA.below _ HB2.out.size (fun j hj e=>by have:=hov j e;omega)))⟩,?_⟩
    ·rcases hg5 j hj with e|e
     ·exact hov j e
     ·rw[<-hsz2]at e;omega
    ·go_light;exact ml
   ·rw[hbk]at c0;have HSQ:=qd (HSK.out _ _ _ _ HQ.out HA.out hbk);go_wp2;refine⟨⟨been,todo,i+1,si,oz,HSQ,HC,HT,hov,HBE⟩,?_⟩;go_light;exact ml
  ·obtain rfl:i=todo.length:=oz
   have d1:¬(todo.length:Int)<(todo.length:Int):=oz
   have HCC:=qd (HDN.out _ _ _ HQ.out lr);obtain⟨ta,tc,rfl⟩:∃ ta tc,u10=.slice ta todo.length tc:=by
    rcases row_form HT.out with⟨rfl,h0,_⟩|⟨b,c,rfl,_⟩
    ·exact⟨none,0,by rw[h0]⟩
    ·exact⟨_,c,rfl⟩
   go_wp2
   try rw[Exit.noGoto_ret]
   go_ret;exact⟨rfl,been,fun x=>by have:=HCC.out x;simpa using this,HBE.out,HC.out⟩
end Go.Proofs.YteebpnbdihcfmaaGreatDoor
