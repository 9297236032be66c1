/- Package slices; Package bounds -/
import Derived.Test.YteebpnbdihcfmaaGreatDoorJ14
import Derived.Test.YteebpnbdihcfmaaGreatDoorJ11
import Derived.Lib.AppendZerosOnto
import Derived.Lib.SliceRun
set_option linter.unusedVariables false
set_option linter.unusedSimpArgs false
set_option maxRecDepth 100000
set_option maxHeartbeats 20000000
namespace Go.Proofs.YteebpnbdihcfmaaGreatDoor
open Go.RowKit
theorem Tryz.infoSp:(Tryz.prog.info? 47).map (fun i=>(i.zero,i.size,i.bytes))=some (some (.agg #[.int .i64 0,.int .i64 0]),2,16):=kr
theorem aNf (w:World) (e:TypeId) (z:Value) (size:Nat) (hzs:z.cells.size=size) (n k old:Nat) (olds:List Value) (hl:olds.length=n*size) (h63:n+k<=maxLen) :
 (w.drew.alloc (.cells (olds.toArray++Builtin.zeroCells z.cells k++Builtin.zeroCells z.cells (grownCap w (n+k) old e-(n+k))) e)).ownsRow 0 e size (.slice (some ⟨w.heap.size,0,none⟩) (n+k) (grownCap w (n+k) old e)) (n+k) (olds++(Builtin.zeroCells z.cells k).toList):=by
 have hge:=grownCap_ge w (n+k) old e;have hcm:=grownCap_le_maxLen w (n+k) old e h63;have hlen:(olds++(Builtin.zeroCells z.cells k).toList).length=(n+k)*size:=by rw[List.length_append,hl,Array.length_toList,size_zeroCells,hzs,Nat.add_mul]
 refine⟨hlen,.inr ⟨w.heap.size,_,_,rfl,Nat.zero_le _,heap_alloc_new w.drew _,hge,hcm,?_,?_⟩⟩
 ·simp only[Array.size_append,List.size_toArray,size_zeroCells,hzs,hl,<-Nat.add_mul];congr 1;omega
 ·simp only[Array.toList_append,List.append_assoc];rw[<-List.append_assoc,<-hlen];exact List.take_left
theorem aPi (k:Nat):(Builtin.zeroCells (Value.agg #[.int .i64 0,.int .i64 0]).cells k).toList=bL (List.replicate k ⟨0,0⟩):=by
 have h1:(Builtin.zeroCells (Value.agg #[.int .i64 0,.int .i64 0]).cells k).toList=List.replicate (k*2) (.int .i64 0):=by
  rw[List.eq_replicate_iff];refine⟨by rw[Array.length_toList,size_zeroCells];rfl,fun v hv=>?_⟩;simp[Builtin.zeroCells,Value.cells]at hv;obtain⟨i,_,rfl⟩:=hv;have h2:i%2=0\/i%2=1:=oz
  rcases h2 with h|h<;>rw[h]<;>rfl
 have h2:bL (List.replicate k ⟨0,0⟩)=List.replicate (k*2) (.int .i64 0):=by
  rw[List.eq_replicate_iff];refine⟨by rw[fT,List.length_replicate],fun v hv=>?_⟩;obtain⟨p,hp,hv⟩:=List.mem_flatMap.1 hv;have:=(List.mem_replicate.1 hp).2;subst this;simp[sD]at hv;exact hv
 rw[h1,h2]
/-- append of zero spans onto a slice without room -/
theorem aDz (w:World) (ty:TypeId) (a:Option Addr) (n k:Nat) (r:List aB) (hl:r.length=n) (hs:0<n->∃ b,a=some ⟨b,0,none⟩/\∀ j u,(bL r)[j]? = some u->w.cell? ⟨b,j,none⟩=some u) (hk:0<k) (hn:n+k<=64) :
 ∃ cap,∃ w',(Builtin.append_ #[39,3] ty #[.slice a n n,.int .i64 k]).run Tryz.prog w=.ok (.slice (some ⟨w.heap.size,0,none⟩) (n+k) cap) w'/\bF w' w.heap.size (n+k) cap (r++List.replicate k ⟨0,0⟩)/\Below w.heap.size w w':=by
 obtain⟨i0,hi,hz0,hz1,hz2⟩:=info_parts Tryz.infoSp;have hfit:Builtin.nextslicecap (n+k) n*i0.bytes<=281474976710656:=growslice_fits oz (by rw[hz2];omega);have hol:(bL r).length=n*2:=by rw[fT,hl]
 have hold:(Builtin.firstCells i0.size n (.slice a n n)).run Tryz.prog w.drew=.ok (bL r).toArray w.drew:=by
  by_cases h0:n=0
  ·subst h0;have:r=[]:=List.eq_nil_of_length_eq_zero hl;subst this;cases a with
   | none=>exact run_firstCells_none w.drew i0.size 0 0 0
   | some a=>exact run_firstCells_some w.drew i0.size 0 a 0 0 [] si (fun j u h=>by simp at h)
  ·obtain⟨b,rfl,hc⟩:=hs oz;refine run_firstCells_some w.drew i0.size n ⟨b,0,none⟩ n n (bL r) (by rw[hol,hz1]) (fun j u h=>?_);have:=hc j u h;unfold Addr.add;split
   ·rename_i e;subst e;exact this
   ·simpa using this
 have hr:=Lib.run_append_grow_zeros (P:=Tryz.prog) w 39 3 ty 47 i0 _ .i64 .i64 Tryz.underlying39 kr hi hz0 a n n (bL r) hold k hk (by rw[hz1];decide) oz oz (by rw[hz2];omega) hfit;refine⟨_,_,hr,?_,(Below.refl _ _).drew.alloc lr _⟩;have h1:=aNf w 47 (.agg #[.int .i64 0,.int .i64 0]) 2 rfl n k n (bL r) hol bH;rw[aPi,<-pU]at h1;exact⟨_,h1⟩
theorem aBd {w:World}{e size k:Nat}(hk:k=w.heap.size):(w.alloc (.cells #[] e)).ownsRow 0 e size (.slice (some ⟨k,0,none⟩) 0 0) 0 []:=by
 subst hk;exact World.ownsRow_made (w:=w) #[] 0 (Nat.zero_le _) (Nat.zero_le _) si
theorem aKo (a:Option Addr) (n c:Nat) (r:List aB) (w:World) (hl:r.length=n) (hs:0<n->∃ b o,a=some ⟨b,o,none⟩/\b<w.heap.size/\∀ j u,(bL r)[j]? = some u->w.cell? ⟨b,o+j,none⟩=some u) (hn:n<=64) :
 Calls Tryz.prog 21 #[.slice a n c] w fun e w'=>∃ v,e=.returned v/\w'.ownsRow 0 47 2 v n (bL r)/\Below w.heap.size w w'/\∀ k,v.ownBlock=some k->w.heap.size<=k:=by
 have hnil:∀ (w:World) (a:Option Addr) (n c:Nat),(binOp .eql 39 (.slice a n c) (.slice none 0 0)).run Tryz.prog w=.ok (.bool a.isNone) w:=fun w a n c=>Lib.run_eql_slice_nil w _ 47 a n c 0 0 kr;obtain⟨i0,hi,hz0,hz1,hz2⟩:=info_parts Tryz.infoSp;cases a with
 | none =>
  have h0:n=0:=Classical.byContradiction fun h=>by obtain⟨b,o,h1,_⟩:=hs oz;cases h1
  subst h0;have hr:r=[]:=List.eq_nil_of_length_eq_zero hl;subst hr;go_enter Tryz.func21,Tryz.ntmps21;go_wp2;go_ret;go_light;exact⟨_,rfl,World.ownsRow_nil _ _ _ _,Below.refl _ _,by simp[Value.ownBlock]⟩
 | some ad =>
  have HS:=qd hs;have hol:(bL r).length=n*2:=by rw[fT,hl]
  clear hs;go_enter Tryz.func21,Tryz.ntmps21;go_wp2_with (at_builtin;refine gO _ rfl (.tmp 5) (.tmp 6) 39 rfl 47 i0 _ 2 16 Tryz.underlying39 hi hz0 hz1 hz2 rfl dc w.heap.size rfl ?own (some ad) n c (bL r) rfl ?c1 ?c2 ?c3 ?c4 ?c5 ?_)
  case own=>exact aBd rfl
  case c1=>exact hol
  case c2 =>
   intro h;obtain⟨b,o,h1,h3,h2⟩:=HS.out h;exact⟨b,o,h1,fun j u hu=>(((Below.refl w.heap.size w).alloc lr _).cell (p:=⟨b,o+j,none⟩) h3).trans (h2 j u hu)⟩
  case c3=>exact gL r
  case c4=>unfold maxLen;omega
  case c5=>omega
  intro g cap w1 hr1 hb1 hg1;go_wp2;go_ret;go_light;exact⟨_,rfl,hr1,((Below.refl w.heap.size w).alloc lr _).trans (hb1.mono si),fun k hk=>by
   have e:g=k:=by simpa[Value.ownBlock]using hk
   subst e;rcases hg1 with h|h
   ·omega
   ·(try simp at h);omega⟩
theorem aN1 (a:Option Addr) (n c:Nat) (w:World) (hnc:n<=c) (hc:(c:Int)<=9223372036854775807) (ha:a=none->n=0/\c=0):Calls Tryz.prog 20 #[.slice a n c] w fun e w'=>e=.returned (.slice a n n)/\w'=w:=by
 have hnc2:(n:Int)<=(c:Int):=oz
 have hn0:(0:Int)<=(n:Int):=oz
 cases a with
 | none =>
  obtain⟨rfl,rfl⟩:=ha rfl;go_enter Tryz.func20,Tryz.ntmps20;go_wp2;exact bodyPost_ret (v:=.slice none 0 0) (by simp[results,Tryz.results20,go_sem]) rfl ⟨rfl,rfl⟩
 | some ad =>
  go_enter Tryz.func20,Tryz.ntmps20;go_wp2;go_ret;exact⟨rfl,rfl⟩
theorem aPx {p:Prop}(h:p:=by
 go_wp2
 try rw[Exit.noGoto_ret]
 go_ret;refine⟨_,rfl,?_,?_⟩
 ·rw[<-HCB.out,HIN.out];simp
 ·first|rfl|trivial):p:=h
theorem aA8 (b n c:Nat) (l:List Bool) (w:World) (h:w.ownsRow 0 4 1 (.slice (some ⟨b,0,none⟩) n c) n (bQ l)) (hn:n<=1024):Calls Tryz.prog 81 #[.slice (some ⟨b,0,none⟩) n c,.bool true] w fun e w'=>e=.returned (.bool (l.contains true))/\w'=w:=by
 obtain⟨cb,hcb⟩:∃ q,l.contains true=q:=⟨_,rfl⟩
 rw[hcb];have HCB:=qd hcb;clear hcb;have hl:l.length=n:=by have:=h.1;simpa[bQ]using this
 have HI:Hid (Calls Tryz.prog 106 #[.slice (some ⟨b,0,none⟩) n c,.bool true] w fun e w'=>∃ v:Int,e=.returned (.int .i64 v)/\(decide (0<=v)=cb)/\w'=w):=qd (by
  have HC:=qd (fun j (hj:j<n)=>aH h (kW (show l[j]? = some (l.getD j false) by rw[List.getD_eq_getElem?_getD,List.getElem?_eq_getElem (by omega)];rfl)));clear h;go_enter Tryz.func106,Tryz.ntmps106;go_wp2;go_loopw [8] (fun i wr=>∃ k:Nat,k<=n/\i=.int .i64 k/\wr=w/\∀ j,j<k->l.getD j false=false) (fun i _=>n-(intOf i).toNat)
  case atStart=>exact⟨0,Nat.zero_le _,rfl,(by first|rfl|trivial),fun j hj=>by omega⟩
  case round =>
   obtain⟨k,hk,rfl,rfl,hno⟩:=hrel;by_cases hkt:k<n
   ·have d3:(k:Int)<(n:Int):=oz
    have hwk:IntKind.i64.wrap ((k:Int)+1)=(k:Int)+1:=IntWalk.i64_in _ oz;have c0:=HC.out k hkt;have HNO:=qd hno;clear hno;cases hm:l.getD k false
    ·rw[hm]at c0;have HM:=qd hm;clear hm;go_wp2
     go_roundw
     case rel=>exact⟨k+1,oz,si,(by first|rfl|trivial),fun j hj=>by
      by_cases e:j=k
      ·subst e;exact HM.out
      ·exact HNO.out j oz⟩
     case measure=>go_light;exact ml
    ·rw[hm]at c0;have hin:l.contains true=true:=by
      rw[List.contains_iff_mem];have e:l[k]? = some true:=by rw[<-hm,List.getD_eq_getElem?_getD,List.getElem?_eq_getElem (by omega)];rfl
      exact List.mem_of_getElem? e
     have HIN:=qd hin;clear hm hin;exact aPx
   ·have hkk:n=k:=oz
    subst hkk;have d3:¬(n:Int)<(n:Int):=oz
    have hin:l.contains true=false:=by
     rw[<-Bool.not_eq_true,List.contains_iff_mem];intro hm;obtain⟨j,hj,e⟩:=List.getElem_of_mem hm;have:=hno j oz;rw[List.getD_eq_getElem?_getD,List.getElem?_eq_getElem hj,e]at this;cases this
    have HIN:=qd hin;clear hin hno;go_wp2
    try rw[Exit.noGoto_ret]
    go_ret;refine⟨_,rfl,?_,?_⟩
    ·rw[<-HCB.out,HIN.out];rfl
    ·first|rfl|trivial)
 clear h;go_enter Tryz.func81,Tryz.ntmps81;go_wp2_with (first|(go_at_call 106;refine HI.out.mono ?_;rintro e w1 ⟨v,rfl,hv,rfl⟩)|fail)
 go_ret;exact⟨by first|rfl|rw[<-hv]|simp[<-hv],rfl⟩
theorem tC (a:Option Addr) (n c:Nat) (l:List Int) (x:Int) (B:Nat) (w:World) (h:cI B w a n l):Calls Tryz.prog 23 #[.slice a n c,.int .i64 x] w fun e w'=>e=.returned (.bool (l.contains x))/\w'=w:=by
 obtain⟨cb,hcb⟩:∃ q,l.contains x=q:=⟨_,rfl⟩
 rw[hcb];have HCB:=qd hcb;clear hcb;have HI:Hid (Calls Tryz.prog 58 #[.slice a n c,.int .i64 x] w fun e w'=>∃ v:Int,e=.returned (.int .i64 v)/\(decide (0<=v)=cb)/\w'=w):=qd (by
  obtain⟨hl,hnm,b,o,hb,hc⟩:=h;have hnm':n<=9223372036854775807:=hnm;have HB:=qd hb;have HC:=qd hc;clear hb hc hnm;go_enter Tryz.func58,Tryz.ntmps58;go_wp2;go_loopw [8] (fun i wr=>∃ k:Nat,k<=n/\i=.int .i64 k/\wr=w/\∀ j,j<k->l.getD j 0≠x) (fun i _=>n-(intOf i).toNat)
  case atStart=>exact⟨0,Nat.zero_le _,rfl,(by first|rfl|trivial),fun j hj=>by omega⟩
  case round =>
   obtain⟨k,hk,rfl,rfl,hno⟩:=hrel;by_cases hkt:k<n
   ·have d3:(k:Int)<(n:Int):=oz
    have hwk:IntKind.i64.wrap ((k:Int)+1)=(k:Int)+1:=IntWalk.i64_in _ oz;obtain⟨rfl,-⟩:=HB.out oz;have c0:=(HC.out k hkt).1;have HNO:=qd hno;clear hno;obtain⟨y,hy⟩:∃ y,l.getD k 0=y:=⟨_,rfl⟩
    rw[hy]at c0;have HY:=qd hy;clear hy;by_cases hm:x=y
    ·have q1:(x==y)=true:=by simpa using hm
     have HIN:=qd (xN (l:=l) (i:=k) oz (HY.out.trans hm.symm));clear hm;exact aPx
    ·have q1:(x==y)=false:=by simpa using hm
     have HM:=qd hm;clear hm;go_wp2
     go_roundw
     case rel=>exact⟨k+1,oz,si,(by first|rfl|trivial),fun j hj=>by
      by_cases e:j=k
      ·subst e;rw[HY.out];exact fun h=>HM.out h.symm
      ·exact HNO.out j oz⟩
     case measure=>go_light;exact ml
   ·have hkk:n=k:=oz
    subst hkk;have d3:¬(n:Int)<(n:Int):=oz
    have HIN:=qd (xM (l:=l) (x:=x) (fun i hi=>hno i oz));clear hno;go_wp2
    try rw[Exit.noGoto_ret]
    go_ret;refine⟨_,rfl,?_,?_⟩
    ·rw[<-HCB.out,HIN.out];rfl
    ·first|rfl|trivial)
 clear h;go_enter Tryz.func23,Tryz.ntmps23;go_wp2_with (first|(go_at_call 58;refine HI.out.mono ?_;rintro e w1 ⟨v,rfl,hv,rfl⟩)|fail)
 go_ret;exact⟨by first|rfl|rw[<-hv]|simp[<-hv],rfl⟩
theorem aV1 {p:Prop}(h:p:=by
 obtain⟨k,rfl,rfl,OK,hbd,hkl⟩:=hcut;have hzd:=hbd.size;obtain⟨k0,k1,k2,k3,k4⟩:=aD OK.out;have x5:=aX (HOX.out.below hbd);have o1:=dG (HOR.out.below hbd);have HRd:=qd (HR0.out.below hbd);obtain⟨r0,r1,r2,r3⟩:=HRd.out.cells hka;have hbl2:b<wc.heap.size:=HRd.out.lt;cases rok
 ·go_wp2;go_ret;go_light;have e:=HRES.out;simp only[Bool.false_eq_true,if_false,reduceIte]at e;rw[e];exact⟨rfl,aG.of (hb0.trans (hbd.mono oz)),fun out ho=>by cases ho⟩
 ·have hcf2:∀ (args:Array Value) (w:World),(callFunc 86 args).run Tryz.prog w=.ok (.enter 86 args) w:=fun _ _=>rfl;have HSS2:Hid (∀ w',aG (· = b) wc w'->w'.cell? ⟨w.heap.size+1+1,0,none⟩=some (.slice (some ⟨b,0,none⟩) n c)/\w'.cell? ⟨w.heap.size+1+1+1,3,none⟩=some (.int .i64 kc)):=qd (fun w' hw=>by
   obtain⟨_,s0,_⟩:=dG (hw.own (HOR.out.below hbd) (by show ¬(_=b);omega));have x5:=aX (hw.own (HOX.out.below hbd) (by show ¬(_=b);omega));exact⟨s0,x5.2.2.2.2.1⟩)
  obtain⟨-,-,-,-,-,-,c6,c7⟩:=HSS.out wc hbd;clear HD;go_upto_region 21 with(fail)
  clear x5 o1 r0 r1 r2 r3 k0 k1 k2 k3 k4;generalize hA0:(Act.mk _ _:Act)=a0;have Ee:a0.eval (.tmp 9)=.pointer (some ⟨w.heap.size+1+1,0,none⟩)/\a0.eval (.tmp 11)=.pointer (some ⟨w.heap.size+1+1+1,0,none⟩)/\a0.tmps.size=290:=by rw[<-hA0];exact⟨rfl,rfl,rfl⟩
  refine aE (fun w'=>aG (· = b) wc w') kr ((aG.refl _ wc).drew) ?_;intro K0 hK0 hHeld
  try dsimp only at hHeld
  refine eY 0 rfl ?_;refine eY 1 rfl ?_;refine eY 2 rfl ?_;refine eY 3 rfl ?_;refine eY 4 rfl ?_;refine eY 5 rfl ?_;refine eY 6 rfl ?_;generalize hA1:(Act.put _ _ _:Act)=a1;replace Ee:a1.eval (.tmp 107)=.pointer (some ⟨b,kc*2,none⟩)/\a1.eval (.tmp 101)=.slice (some ⟨b,0,none⟩) n c/\a1.eval (.tmp 103)=.int .i64 kc/\a1.tmps.size=290:=oZ;refine fD 7 rfl fun K hK=>?_;refine sX ?_;refine hK.out _ _ (chq) fun hHeld=>?_;clear hK K;generalize hA2:(Act.put _ _ _:Act)=a2;replace Ee:a2.eval (.tmp 108)=.agg #[.int .i64 clo,.int .i64 chi]/\a2.eval (.tmp 101)=.slice (some ⟨b,0,none⟩) n c/\a2.eval (.tmp 103)=.int .i64 kc/\a2.tmps.size=290:=mQ;refine fD 8 rfl fun K hK=>?_;refine aP rfl 86 [.tmp 108] #[47] rfl hcf2 [.agg #[.int .i64 clo,.int .i64 chi]] (by simp only[GE,MX,EX,Ee,reduceIte,Nat.reduceEqDiff,Nat.reduceLT,Nat.reduceBEq]) _ (HW0.out _) ?_;rintro v wM ⟨rfl,hbM⟩;have hwM:aG (· = b) wc wM:=hHeld.trans (aG.of hbM);have hzM:=hwM.size;have hrM:bF wM b n c r:=(HRd.out.below ((Below.refl _ _).drew)).below hbM;obtain⟨q0,q1,q2,q3⟩:=hrM.cells hkc;refine hK.out _ _ (hwM) fun hHeld=>?_;clear hK K;refine eY 9 rfl ?_;refine eY 10 rfl ?_;refine eY 11 rfl ?_;refine eY 12 rfl ?_;generalize hA3:(Act.put _ _ _:Act)=a3;replace Ee:a3.eval (.tmp 110)=.agg #[.int .i64 qlo,.int .i64 qhi]/\a3.eval (.tmp 112)=.pointer (some ⟨b,kc*2,none⟩)/\a3.tmps.size=290:=rV;refine fD 13 rfl fun K hK=>?_;refine pA ?_;refine hK.out _ _ (chq) fun hHeld=>?_;clear hK K;refine aO kr ?_;refine hK0.out _ _ ?_;subst hA3;subst hA2;subst hA1;subst hA0
  try clear Ee
  simp only[GE,Act.put,SU];generalize hW9:(wM.setCell ⟨b,kc*2,none⟩ (.int .i64 qlo)).setCell ⟨b,kc*2+1,none⟩ (.int .i64 qhi)=w9;have hC9:aG (· = b) wc w9:=by rw[<-hW9];exact hwM.trans (jX _ _ _ _ _ _)
  have hR9:bF w9 b n c (r.set kc ⟨qlo,qhi⟩):=by rw[<-hW9];exact hrM.set hkc ⟨qlo,qhi⟩
  clear hW9 hwM hrM hbM q0 q1 q2 q3 c6 c7;obtain⟨u0,u1,u2,u3,u4⟩:=aD (hC9.own OK.out (by show ¬(_=b);omega));have x9:=aX (hC9.own (HOX.out.below hbd) (by show ¬(_=b);omega));have o9:=dG (hC9.own (HOR.out.below hbd) (by show ¬(_=b);omega));have HR9:=qd hR9;have HC9:=qd hC9;clear hR9 hC9;obtain⟨r0,r1,r2,r3⟩:=HR9.out.cells hka;go_wp2;go_ret;go_light;have e:=HRES.out;simp only[if_true,reduceIte]at e;rw[e];exact⟨rfl,(aG.of (hb0.trans (hbd.mono oz))).trans (HC9.out.trans (jX _ _ _ _ _ _)),fun out ho=>by cases ho;exact HR9.out.set hka ⟨rlo,rhi⟩⟩):p:=h
theorem aN2 (x:dJ) (B:Nat) (m:bA) (hh:HF) (f:aC) (ta fa:Option Addr) (tl tc fl fc:Nat) (frm:Nat) (to_:Int) (b n c:Nat) (r:List aB) (w:World) (hB:B<=w.heap.size) (hf:aZ B w hh f) (hfl:frm<f.code.length) (hn1:f.code.length<=1024) (hx:f.code.getD frm default=x) (hi:cY m f x) (hr:bF w b n c r) (hrg:(n:Int)=f.regs) (hn:n<=64) (hop:x.op=6) (hrok:gU n r):Calls Tryz.prog 47 #[.agg #[.slice ta tl tc,.slice fa fl fc],aI hh f,.int .i64 frm,.int .i64 to_,.slice (some ⟨b,0,none⟩) n c] w (dX b n c w (lL x r)):=by
 obtain⟨pa,pl,pc,cb,co,cc,rfl,hcm,hcB,⟨g0,g1,g2,g3,g4⟩,hcbl,hcb1,hcb2,hcb3,hfr,hwf⟩:=dW hB hf hfl hn1 hx;clear hf;unfold aI;dsimp only;have hbl:=hr.lt;obtain⟨op,xa,xb,xc,xn⟩:=x;obtain⟨v1,v2,v3,v4,v5,v6,v7,v8,v9,v10⟩:=hi;dsimp only at *;subst hop;have hmf:=@mkF Tryz.prog;go_enter Tryz.func47,Tryz.ntmps47;go_upto_region 2 with(fail)
 generalize hW0:World.alloc _ _=W0;obtain⟨hb0,OM,OF,OR,OX,hz0⟩:=eS hW0;clear hW0 g0 g1 g2 g3 g4;have hr0:=hr.below hb0;have x5:=aX OX;have o1:=dG OR;go_cut [12] (fun v wx=>v=.bool (decide (to_=xn)&&decide (xn≠(frm:Int)+1))/\wx=W0)
 case first =>
  exact tM
 case rest =>
  obtain⟨rfl,rfl⟩:=hcut;obtain⟨wb,hwb⟩:∃ wb:World,wb=wc:=⟨_,rfl⟩
  subst hwb;generalize hfar:(decide (to_=xn)&&decide (xn≠(frm:Int)+1))=far;have HFAR:=qd hfar;clear hfar;obtain⟨ka,rfl⟩:=Int.eq_ofNat_of_zero_le v3;have hka:ka<n:=oz
  have hka2:(ka:Int)<(n:Int):=oz
  obtain⟨r0,r1,r2,r3⟩:=hr0.cells hka;obtain⟨kb,rfl⟩:=Int.eq_ofNat_of_zero_le v5;have hkb:kb<n:=oz
  have hkb2:(kb:Int)<(n:Int):=oz
  obtain⟨t0,t1,t2,t3⟩:=hr0.cells hkb;obtain⟨kc,rfl⟩:=Int.eq_ofNat_of_zero_le v7;have hkc:kc<n:=oz
  have hkc2:(kc:Int)<(n:Int):=oz
  go_upto_region 17 with(fail)
  have hL:=hrok;have hpb:dL (r.getD kb default):=hL.2 kb oz;have hpc:dL (r.getD kc default):=hL.2 kc oz;have HD:=qd (fun w=>aEy 6 (r.getD kb default) (r.getD kc default) w oz hpb hpc);have hres:lL ⟨6,ka,kb,kc,xn⟩ r=if(aS 6 (r.getD kb default) (r.getD kc default)).2 then some ((r.set kc (cB (r.getD kc default)).1).set ka (aS 6 (r.getD kb default) (r.getD kc default)).1)else none:=by
   unfold lL fI eC;simp
  have hcf:∀ (args:Array Value) (w:World),(callFunc 85 args).run Tryz.prog w=.ok (.enter 85 args) w:=fun _ _=>rfl;have HRES:=qd hres;clear hres hpb hpc hL hrok x5 o1 r0 r1 r2 r3 t0 t1 t2 t3;have HSS:Hid (∀ w',Below wb.heap.size wb w'->w'.cell? ⟨w.heap.size+1+1,0,none⟩=some (.slice (some ⟨b,0,none⟩) n c)/\w'.cell? ⟨w.heap.size+1+1+1,0,none⟩=some (.int .i64 6)/\w'.cell? ⟨w.heap.size+1+1+1,2,none⟩=some (.int .i64 kb)/\w'.cell? ⟨w.heap.size+1+1+1,3,none⟩=some (.int .i64 kc) /\
   w'.cell? ⟨b,kb*2,none⟩=some (.int .i64 (r.getD kb default).lo)/\w'.cell? ⟨b,kb*2+1,none⟩=some (.int .i64 (r.getD kb default).hi)/\w'.cell? ⟨b,kc*2,none⟩=some (.int .i64 (r.getD kc default).lo)/\w'.cell? ⟨b,kc*2+1,none⟩=some (.int .i64 (r.getD kc default).hi)):=qd (fun w' hw=>by
   obtain⟨_,s0,_⟩:=dG (OR.below hw);have x5:=aX (OX.below hw);obtain⟨b0,b1,_,_⟩:=(hr0.below hw).cells hkb;obtain⟨c0,c1,_,_⟩:=(hr0.below hw).cells hkc;exact⟨s0,x5.2.1,x5.2.2.2.1,x5.2.2.2.2.1,b0,b1,c0,c1⟩)
  have HW0:=qd (fun w=>sA (r.getD kc default) w);generalize cB (r.getD kc default)=wq at *;obtain⟨⟨qlo,qhi⟩,qok⟩:=wq;generalize aS 6 (r.getD kb default) (r.getD kc default)=res at *;obtain⟨⟨rlo,rhi⟩,rok⟩:=res;generalize r.getD kb default=pb at *;generalize r.getD kc default=pc at *;obtain⟨blo,bhi⟩:=pb;obtain⟨clo,chi⟩:=pc;dsimp only at HD HSS HRES HW0;have HOX:=qd OX;have HOR:=qd OR;have HR0:=qd hr0;clear OX OR hr0 OM OF hr hmf hx hrg hfr hwf v1 v2 v4 v6 v8 v9 v10 hcm hcB hcbl hcb1 hcb2 hcb3 hfl hn1;have hzw:w.heap.size+4<=wb.heap.size:=hz0;go_cut [14,15] (fun v14 v15 wc=>∃ k:Nat,v14=.pointer (some ⟨k,0,none⟩)/\v15=.bool rok/\Hid (aF wc k [.int .i64 rlo,.int .i64 rhi])/\Below wb.heap.size wb wc/\wb.heap.size<=k)
  case first =>
   generalize hA0:(Act.mk _ _:Act)=a0;have Ee:a0.eval (.tmp 9)=.pointer (some ⟨w.heap.size+1+1,0,none⟩)/\a0.eval (.tmp 11)=.pointer (some ⟨w.heap.size+1+1+1,0,none⟩)/\a0.tmps.size=290:=qB
   refine aE (fun w'=>Below wb.heap.size wb w') kr ((Below.refl _ wb).drew) ?_;intro K0 hK0 hHeld
   try dsimp only at hHeld
   refine aL 0 rfl ?_;refine aL 1 rfl ?_;refine aL 2 rfl ?_;refine aL 3 rfl ?_;refine aL 4 rfl ?_;refine aL 5 rfl ?_;refine aL 6 rfl ?_;refine aL 7 rfl ?_;refine aL 8 rfl ?_;refine aL 9 rfl ?_;refine aL 10 rfl ?_;refine aL 11 rfl ?_;generalize hA1:(Act.put _ _ _:Act)=a1;replace Ee:a1.eval (.tmp 76)=.int .i64 6/\a1.eval (.tmp 81)=.agg #[.int .i64 blo,.int .i64 bhi]/\a1.eval (.tmp 86)=.agg #[.int .i64 clo,.int .i64 chi]/\a1.tmps.size=290:=oZ;refine wpAnyH_ready (rs:=[12,16]) kr si ?_;refine iB rfl (fun K hK=>?_) (iB rfl (fun K hK=>?_) AllReadyH.nil)
   ·refine aP rfl 85 [.tmp 76,.tmp 81,.tmp 86] #[3,47,47] rfl hcf [.int .i64 6,.agg #[.int .i64 blo,.int .i64 bhi],.agg #[.int .i64 clo,.int .i64 chi]] iD _ (HD.out _) ?_;exact aJc
   ·refine sX ?_;refine hK.out _ _ (bel) fun hHeld=>?_;clear hK K;generalize hA2:(Act.put _ _ _:Act)=a2;replace Ee:a2.eval (.tmp 76)=.int .i64 6/\a2.eval (.tmp 81)=.agg #[.int .i64 blo,.int .i64 bhi]/\a2.eval (.tmp 86)=.agg #[.int .i64 clo,.int .i64 chi]/\a2.eval (.tmp 14)=.pointer (some ⟨wb.heap.size,0,none⟩)/\a2.tmps.size=290:=mQ;refine fD 12 rfl fun K hK=>?_;refine aP rfl 85 [.tmp 76,.tmp 81,.tmp 86] #[3,47,47] rfl hcf [.int .i64 6,.agg #[.int .i64 blo,.int .i64 bhi],.agg #[.int .i64 clo,.int .i64 chi]] iD _ (HD.out _) ?_;rintro v wM ⟨rfl,hbM⟩;have hwM:Below wb.heap.size wb wM:=hHeld.trans (hbM.mono hHeld.size);have hzM:=hwM.size;have pM:=aF.below (aF.drew (aF.new' wb [.int .i64 0,.int .i64 0] 47 wb.heap.size rfl)) hbM;have oM:=aD pM;refine hK.out _ _ (hwM) fun hHeld=>?_;clear hK K;refine aL 13 rfl ?_;refine aL 14 rfl ?_;refine aL 15 rfl ?_;generalize hA3:(Act.put _ _ _:Act)=a3;replace Ee:a3.eval (.tmp 88)=.agg #[.int .i64 rlo,.int .i64 rhi]/\a3.eval (.tmp 89)=.bool rok/\a3.eval (.tmp 14)=.pointer (some ⟨wb.heap.size,0,none⟩)/\a3.tmps.size=290:=rV;refine fD 17 rfl fun K hK=>?_;refine pA ?_;refine hK.out _ _ (bel) fun hHeld=>?_;clear hK K;generalize hA4:(Act.put _ _ _:Act)=a4;replace Ee:a4.eval (.tmp 89)=.bool rok/\a4.tmps.size=290:=xE;refine aL 18 rfl ?_;refine aO kr ?_;refine hK0.out _ _ ?_;subst hA4;subst hA3;subst hA2;subst hA1;subst hA0
    exact aJi
  case rest =>
   exact aV1
theorem aN6 (x:dJ) (B:Nat) (m:bA) (hh:HF) (f:aC) (ta fa:Option Addr) (tl tc fl fc:Nat) (frm:Nat) (to_:Int) (b n c:Nat) (r:List aB) (w:World) (hB:B<=w.heap.size) (hf:aZ B w hh f) (hfl:frm<f.code.length) (hn1:f.code.length<=1024) (hx:f.code.getD frm default=x) (hi:cY m f x) (hr:bF w b n c r) (hrg:(n:Int)=f.regs) (hn:n<=64) (hop:x.op=7) (hrok:gU n r):Calls Tryz.prog 47 #[.agg #[.slice ta tl tc,.slice fa fl fc],aI hh f,.int .i64 frm,.int .i64 to_,.slice (some ⟨b,0,none⟩) n c] w (dX b n c w (lL x r)):=by
 obtain⟨pa,pl,pc,cb,co,cc,rfl,hcm,hcB,⟨g0,g1,g2,g3,g4⟩,hcbl,hcb1,hcb2,hcb3,hfr,hwf⟩:=dW hB hf hfl hn1 hx;clear hf;unfold aI;dsimp only;have hbl:=hr.lt;obtain⟨op,xa,xb,xc,xn⟩:=x;obtain⟨v1,v2,v3,v4,v5,v6,v7,v8,v9,v10⟩:=hi;dsimp only at *;subst hop;have hmf:=@mkF Tryz.prog;go_enter Tryz.func47,Tryz.ntmps47;go_upto_region 2 with(fail)
 generalize hW0:World.alloc _ _=W0;obtain⟨hb0,OM,OF,OR,OX,hz0⟩:=eS hW0;clear hW0 g0 g1 g2 g3 g4;have hr0:=hr.below hb0;have x5:=aX OX;have o1:=dG OR;go_cut [12] (fun v wx=>v=.bool (decide (to_=xn)&&decide (xn≠(frm:Int)+1))/\wx=W0)
 case first =>
  exact tM
 case rest =>
  obtain⟨rfl,rfl⟩:=hcut;obtain⟨wb,hwb⟩:∃ wb:World,wb=wc:=⟨_,rfl⟩
  subst hwb;generalize hfar:(decide (to_=xn)&&decide (xn≠(frm:Int)+1))=far;have HFAR:=qd hfar;clear hfar;obtain⟨ka,rfl⟩:=Int.eq_ofNat_of_zero_le v3;have hka:ka<n:=oz
  have hka2:(ka:Int)<(n:Int):=oz
  obtain⟨r0,r1,r2,r3⟩:=hr0.cells hka;obtain⟨kb,rfl⟩:=Int.eq_ofNat_of_zero_le v5;have hkb:kb<n:=oz
  have hkb2:(kb:Int)<(n:Int):=oz
  obtain⟨t0,t1,t2,t3⟩:=hr0.cells hkb;obtain⟨kc,rfl⟩:=Int.eq_ofNat_of_zero_le v7;have hkc:kc<n:=oz
  have hkc2:(kc:Int)<(n:Int):=oz
  go_upto_region 17 with(fail)
  have hL:=hrok;have hpb:dL (r.getD kb default):=hL.2 kb oz;have hpc:dL (r.getD kc default):=hL.2 kc oz;have HD:=qd (fun w=>aEy 7 (r.getD kb default) (r.getD kc default) w oz hpb hpc);have hres:lL ⟨7,ka,kb,kc,xn⟩ r=if(aS 7 (r.getD kb default) (r.getD kc default)).2 then some ((r.set kc (cB (r.getD kc default)).1).set ka (aS 7 (r.getD kb default) (r.getD kc default)).1)else none:=by
   unfold lL fI eC;simp
  have hcf:∀ (args:Array Value) (w:World),(callFunc 85 args).run Tryz.prog w=.ok (.enter 85 args) w:=fun _ _=>rfl;have HRES:=qd hres;clear hres hpb hpc hL hrok x5 o1 r0 r1 r2 r3 t0 t1 t2 t3;have HSS:Hid (∀ w',Below wb.heap.size wb w'->w'.cell? ⟨w.heap.size+1+1,0,none⟩=some (.slice (some ⟨b,0,none⟩) n c)/\w'.cell? ⟨w.heap.size+1+1+1,0,none⟩=some (.int .i64 7)/\w'.cell? ⟨w.heap.size+1+1+1,2,none⟩=some (.int .i64 kb)/\w'.cell? ⟨w.heap.size+1+1+1,3,none⟩=some (.int .i64 kc) /\
   w'.cell? ⟨b,kb*2,none⟩=some (.int .i64 (r.getD kb default).lo)/\w'.cell? ⟨b,kb*2+1,none⟩=some (.int .i64 (r.getD kb default).hi)/\w'.cell? ⟨b,kc*2,none⟩=some (.int .i64 (r.getD kc default).lo)/\w'.cell? ⟨b,kc*2+1,none⟩=some (.int .i64 (r.getD kc default).hi)):=qd (fun w' hw=>by
   obtain⟨_,s0,_⟩:=dG (OR.below hw);have x5:=aX (OX.below hw);obtain⟨b0,b1,_,_⟩:=(hr0.below hw).cells hkb;obtain⟨c0,c1,_,_⟩:=(hr0.below hw).cells hkc;exact⟨s0,x5.2.1,x5.2.2.2.1,x5.2.2.2.2.1,b0,b1,c0,c1⟩)
  have HW0:=qd (fun w=>sA (r.getD kc default) w);generalize cB (r.getD kc default)=wq at *;obtain⟨⟨qlo,qhi⟩,qok⟩:=wq;generalize aS 7 (r.getD kb default) (r.getD kc default)=res at *;obtain⟨⟨rlo,rhi⟩,rok⟩:=res;generalize r.getD kb default=pb at *;generalize r.getD kc default=pc at *;obtain⟨blo,bhi⟩:=pb;obtain⟨clo,chi⟩:=pc;dsimp only at HD HSS HRES HW0;have HOX:=qd OX;have HOR:=qd OR;have HR0:=qd hr0;clear OX OR hr0 OM OF hr hmf hx hrg hfr hwf v1 v2 v4 v6 v8 v9 v10 hcm hcB hcbl hcb1 hcb2 hcb3 hfl hn1;have hzw:w.heap.size+4<=wb.heap.size:=hz0;go_cut [14,15] (fun v14 v15 wc=>∃ k:Nat,v14=.pointer (some ⟨k,0,none⟩)/\v15=.bool rok/\Hid (aF wc k [.int .i64 rlo,.int .i64 rhi])/\Below wb.heap.size wb wc/\wb.heap.size<=k)
  case first =>
   generalize hA0:(Act.mk _ _:Act)=a0;have Ee:a0.eval (.tmp 9)=.pointer (some ⟨w.heap.size+1+1,0,none⟩)/\a0.eval (.tmp 11)=.pointer (some ⟨w.heap.size+1+1+1,0,none⟩)/\a0.tmps.size=290:=qB
   refine aE (fun w'=>Below wb.heap.size wb w') kr ((Below.refl _ wb).drew) ?_;intro K0 hK0 hHeld
   try dsimp only at hHeld
   refine aL 0 rfl ?_;refine aL 1 rfl ?_;refine aL 2 rfl ?_;refine aL 3 rfl ?_;refine aL 4 rfl ?_;refine aL 5 rfl ?_;refine aL 6 rfl ?_;refine aL 7 rfl ?_;refine aL 8 rfl ?_;refine aL 9 rfl ?_;refine aL 10 rfl ?_;refine aL 11 rfl ?_;generalize hA1:(Act.put _ _ _:Act)=a1;replace Ee:a1.eval (.tmp 76)=.int .i64 7/\a1.eval (.tmp 81)=.agg #[.int .i64 blo,.int .i64 bhi]/\a1.eval (.tmp 86)=.agg #[.int .i64 clo,.int .i64 chi]/\a1.tmps.size=290:=oZ;refine wpAnyH_ready (rs:=[12,16]) kr si ?_;refine iB rfl (fun K hK=>?_) (iB rfl (fun K hK=>?_) AllReadyH.nil)
   ·refine aP rfl 85 [.tmp 76,.tmp 81,.tmp 86] #[3,47,47] rfl hcf [.int .i64 7,.agg #[.int .i64 blo,.int .i64 bhi],.agg #[.int .i64 clo,.int .i64 chi]] iD _ (HD.out _) ?_;exact aJc
   ·refine sX ?_;refine hK.out _ _ (bel) fun hHeld=>?_;clear hK K;generalize hA2:(Act.put _ _ _:Act)=a2;replace Ee:a2.eval (.tmp 76)=.int .i64 7/\a2.eval (.tmp 81)=.agg #[.int .i64 blo,.int .i64 bhi]/\a2.eval (.tmp 86)=.agg #[.int .i64 clo,.int .i64 chi]/\a2.eval (.tmp 14)=.pointer (some ⟨wb.heap.size,0,none⟩)/\a2.tmps.size=290:=mQ;refine fD 12 rfl fun K hK=>?_;refine aP rfl 85 [.tmp 76,.tmp 81,.tmp 86] #[3,47,47] rfl hcf [.int .i64 7,.agg #[.int .i64 blo,.int .i64 bhi],.agg #[.int .i64 clo,.int .i64 chi]] iD _ (HD.out _) ?_;rintro v wM ⟨rfl,hbM⟩;have hwM:Below wb.heap.size wb wM:=hHeld.trans (hbM.mono hHeld.size);have hzM:=hwM.size;have pM:=aF.below (aF.drew (aF.new' wb [.int .i64 0,.int .i64 0] 47 wb.heap.size rfl)) hbM;have oM:=aD pM;refine hK.out _ _ (hwM) fun hHeld=>?_;clear hK K;refine aL 13 rfl ?_;refine aL 14 rfl ?_;refine aL 15 rfl ?_;generalize hA3:(Act.put _ _ _:Act)=a3;replace Ee:a3.eval (.tmp 88)=.agg #[.int .i64 rlo,.int .i64 rhi]/\a3.eval (.tmp 89)=.bool rok/\a3.eval (.tmp 14)=.pointer (some ⟨wb.heap.size,0,none⟩)/\a3.tmps.size=290:=rV;refine fD 17 rfl fun K hK=>?_;refine pA ?_;refine hK.out _ _ (bel) fun hHeld=>?_;clear hK K;generalize hA4:(Act.put _ _ _:Act)=a4;replace Ee:a4.eval (.tmp 89)=.bool rok/\a4.tmps.size=290:=xE;refine aL 18 rfl ?_;refine aO kr ?_;refine hK0.out _ _ ?_;subst hA4;subst hA3;subst hA2;subst hA1;subst hA0
    exact aJi
  case rest =>
   exact aV1
end Go.Proofs.YteebpnbdihcfmaaGreatDoor
