/- Package bounds; Plain law; Plain law; Plain law; Which instructions can be reached; Package bounds; Package bounds; Plain law; Maps keyed by int, as functions; The plain law of dom; The plain law of dom -/
import Derived.Test.YteebpnbdihcfmaaGreatDoorJ04
import Derived.IntWalk
import Derived.Test.YteebpnbdihcfmaaGreatDoorJ02
import Derived.Maps.OwnSet
import Derived.Maps.RangeWalk
import Derived.Test.YteebpnbdihcfmaaGreatDoorJ01
set_option linter.unusedVariables false
set_option linter.unusedSimpArgs false
set_option maxRecDepth 100000
set_option maxHeartbeats 20000000
namespace Go.Proofs.YteebpnbdihcfmaaGreatDoor
open Go.RowKit
section
theorem i64_In (x:Int):In64 (IntKind.i64.wrap x):=by
 unfold In64 IntKind.wrap IntKind.signed IntKind.bits;simp;omega
theorem spok_all:SpOk allP:=by unfold SpOk In64 allP;simp
theorem spok_pt {n:Int}(h:In64 n):SpOk ⟨n,n⟩:=⟨h,h,Int.le_refl _⟩
theorem spok_hullF:∀ (l:List Int) (acc:PSpan),SpOk acc->(∀ x∈l,In64 x)->SpOk (l.foldl hullF acc)
 | [],acc,h,_=>h
 | x::l,acc,h,hl=>spok_hullF l _ (by unfold hullF;exact(spok_join h (spok_pt (hl x si))).1) (fun y hy=>hl y (by simp[hy]))
theorem spok_hull {l:List Int}(all:Bool) (h:∀ x∈l,In64 x) (hl:l≠[]):SpOk (hullP l all):=by
 unfold hullP;split
 ·refine spok_hullF l _ (spok_pt ?_) h;cases l with
  | nil=>exact absurd rfl hl
  | cons x l=>exact h x si
 ·exact spok_all
theorem spok_truth (y n:Bool):SpOk (truthP y n):=by cases y<;>cases n<;>(unfold SpOk In64 truthP;simp)
theorem divL_In (a b:PSpan):∀ x∈divL a b,In64 x:=by
 intro x hx;unfold divL at hx;obtain⟨d,_,hx⟩:=List.mem_flatMap.1 hx;unfold divF at hx;split at hx
 ·rcases List.mem_cons.1 hx with rfl|hx
  ·exact i64_In _
  ·have:x=IntKind.i64.wrap (a.hi.tdiv d):=by simpa using hx
   rw[this];exact i64_In _
 ·simp at hx
theorem spok_left {a b:PSpan}(ha:SpOk a) (hb:SpOk b) (h0:eqP b zeroP=false):SpOk (leftP a b):=by
 obtain⟨a1,a2,a3⟩:=ha;obtain⟨b1,b2,b3⟩:=hb;have hz:¬(b.lo=0/\b.hi=0):=fun⟨e1,e2⟩=>by unfold eqP zeroP at h0;rw[e1,e2]at h0;simp at h0
 unfold In64 at *;have hm:0<=leftM b/\leftM b<=9223372036854775807:=by
  unfold leftM;rw[u64_wrap];unfold wrap64;omega
 have hn:wrap64 (-leftM b) = -leftM b:=by unfold wrap64;omega
 unfold leftP SpOk In64;dsimp only;rw[hn];split<;>split<;>omega
theorem spok_do {op:Int}{a b:PSpan}(ha:SpOk a) (hb:SpOk b) (h:(spanDo op a b).2=true):SpOk (spanDo op a b).1:=by
 unfold spanDo at *;split
 ·unfold doAdd;split
  ·exact spok_pt (wrap64_In _)
  ·refine spok_hull _ (fun x hx=>?_) si;simp at hx;rcases hx with rfl|rfl<;>exact wrap64_In _
 split
 ·unfold doSub;split
  ·exact spok_pt (wrap64_In _)
  ·refine spok_hull _ (fun x hx=>?_) si;simp at hx;rcases hx with rfl|rfl<;>exact wrap64_In _
 split
 ·unfold doMul;split
  ·exact spok_pt (wrap64_In _)
  ·refine spok_hull _ (fun x hx=>?_) (by simp[pairs4]);obtain⟨p,_,rfl⟩:=List.mem_map.1 hx;exact wrap64_In _
 split
 ·split
  ·rename_i h3 h4 h5 h6 h7;simp[h3,h4,h5,h6,h7]at h
  ·rename_i h3 h4 h5 h6 h7;dsimp only;unfold dividedP;split
   ·exact spok_all
   ·refine spok_hull _ (divL_In a b) (fun e=>?_);have:=divL_pos a b hb.2.2 (fun⟨e1,e2⟩=>h7 (by unfold eqP zeroP;rw[e1,e2];simp));rw[e]at this;simp at this
 split
 ·split
  ·rename_i h3 h4 h5 h6 h7 h8;simp[h3,h4,h5,h6,h7,h8]at h
  ·rename_i h3 h4 h5 h6 h7 h8;exact spok_left ha hb (by simpa using h8)
 split
 ·exact spok_truth _ _
 split
 ·exact spok_truth _ _
 split
 ·exact spok_truth _ _
 ·rename_i h3 h4 h5 h6 h7 h8 h9 h10;simp[h3,h4,h5,h6,h7,h8,h9,h10]at h
theorem spok_meet {a b:PSpan}(ha:SpOk a) (hb:In64 b.lo/\In64 b.hi) (h:(meetQ a b).2=true):SpOk (meetQ a b).1:=by
 obtain⟨a1,a2,a3⟩:=ha;unfold meetQ meetP at *;dsimp only at *;split at h
 ·cases h
 ·rename_i h1;rw[if_neg h1];unfold SpOk In64 at *;dsimp only;omega
theorem spok_without {a:PSpan}(ha:SpOk a) (h:(without0P a).2=true):SpOk (without0P a).1:=by
 obtain⟨a1,a2,a3⟩:=ha;unfold without0P at *;have h:=of_decide_eq_true h;unfold SpOk In64 at *;dsimp only;refine⟨?_,?_,h⟩<;>split<;>omega
theorem words_In (n many:Int):In64 (wordsP n many).1.lo/\In64 (wordsP n many).1.hi:=by
 unfold wordsP;split
 ·unfold In64;simp
 ·refine⟨wrap64_In _,?_⟩;dsimp only;unfold wordsHi;split
  ·unfold In64;omega
  ·exact wrap64_In _
section
variable {regs : Nat} {r : List PSpan}
theorem LOk.at (h:LOk regs r) {i:Int}(h0:0<=i) (h1:i<regs):SpOk (spAt r i):=h.2 i.toNat oz
theorem LOk.set (h:LOk regs r) {i:Nat}{a:PSpan}(ha:SpOk a):LOk regs (r.set i a):=by
 refine⟨by rw[List.length_set];exact h.1,fun j hj=>?_⟩;by_cases hi:i<r.length
 ·rw[getD_set _ _ _ _ _ hi];split
  ·exact ha
  ·exact h.2 j hj
 ·rw[List.set_eq_of_length_le (by omega)];exact h.2 j hj
theorem LOk.meet (h:LOk regs r) {i:Nat}{a:PSpan}(hi:i<regs) (ha:In64 a.lo/\In64 a.hi) (h2:(meetR r i a).2=true):LOk regs (meetR r i a).1:=h.set (spok_meet (h.2 i hi) ha h2)
theorem LOk.meets (h:LOk regs r) {b:Nat}{ps:List PSpan}(hb:b+ps.length<=regs) (hp:∀ i,i<ps.length->In64 (ps.getD i default).lo/\In64 (ps.getD i default).hi):∀ k,k<=ps.length->∀ q,meetsTo r b ps k=some q->LOk regs q
 | 0,_,q,hq=>by cases hq;exact h
 | k+1,hk,q,hq=>by
  unfold meetsTo at hq;obtain⟨q0,h0,hq⟩:=Option.bind_eq_some_iff.1 hq;have ih:=LOk.meets h hb hp k oz q0 h0;split at hq
  ·rename_i h2;cases hq;exact ih.meet oz (hp k oz) h2
  ·cases hq
theorem way_ok {m:PMod}{f:PFunc}{x:PIns}(hm:FnFine m f) (hx:InsFine m f x) (h64:In64 x.n) (hp:∀ i,i<(paramsAt m x.n).length->In64 ((paramsAt m x.n).getD i default).lo/\In64 ((paramsAt m x.n).getD i default).hi)
 {far one:Bool}{words:Int} (h:LOk f.regs.toNat r) {out:List PSpan} (ho:insWay m words x far one r=some out):LOk f.regs.toNat out:=by
 have r1:=hm.r1;have ha:SpOk (spAt r x.a):=h.at hx.a0 (by have:=hx.a1;omega);have hb:SpOk (spAt r x.b):=h.at hx.b0 (by have:=hx.b1;omega);have hc:SpOk (spAt r x.c):=h.at hx.c0 (by have:=hx.c1;omega);have la:=hx.a0;have la1:=hx.a1;have lb:=hx.b0;have lb1:=hx.b1;unfold insWay at ho;split at ho
 ·cases ho;exact h.set (spok_pt h64)
 split at ho
 ·cases ho;exact h.set hb
 split at ho
 ·unfold opWay at ho;split at ho
  ·rename_i h1 h2 h3 h4;cases ho;refine LOk.set ?_ (spok_do hb hc h4);split
   ·refine h.set (spok_without hc ?_);rename_i h5;have hz:eqP (spAt r x.c) zeroP=false:=by
     rcases h5 with h5|h5<;>(rw[h5]at h4;unfold spanDo at h4;simp at h4;cases e:eqP (spAt r x.c) zeroP;rfl;rw[e]at h4;simp at h4)
    obtain⟨c1,c2,c3⟩:=hc;unfold eqP zeroP at hz;simp only[Bool.and_eq_false_iff,decide_eq_false_iff_not]at hz;unfold without0P;rw[decide_eq_true_iff];split<;>split<;>omega
   ·exact h
  ·cases ho
 split at ho
 ·cases ho;exact h.set (spok_do ha (spok_pt (by unfold In64;omega)) (by unfold spanDo;simp))
 split at ho
 ·unfold memWay at ho;split at ho
  ·cases ho
  ·split at ho
   ·rename_i h5;cases ho;have:=h.meet (i:=x.b.toNat) oz (words_In x.n words) h5;split
    ·exact this.set spok_all
    ·exact this
   ·cases ho
 split at ho
 ·unfold optB at ho;split at ho
  ·rename_i h5;cases ho;exact h.meet oz ⟨by unfold In64;simp,wrap64_In _⟩ h5
  ·cases ho
 split at ho
 ·rename_i h5;obtain⟨q,hq,e⟩:=Option.map_eq_some_iff.1 ho;subst e;have hcl:=hx.call h5;refine LOk.set ?_ spok_all;refine LOk.meets h ?_ hp _ lr q hq;have:(paramsAt m x.n).length=(fnAt m x.n.toNat).params.length:=rfl;omega
 split at ho
 ·unfold ifWay at ho;split at ho
  ·cases ho;exact h
  ·split at ho
   ·unfold optB at ho;split at ho
    ·rename_i h5;cases ho;exact h.meet oz (by unfold In64;simp) h5
    ·cases ho
   ·split at ho
    ·rename_i h5;cases ho;exact h.set (spok_without ha h5)
    ·cases ho
 split at ho
 ·unfold countWay at ho;split at ho
  ·cases ho;exact h
  ·split at ho
   ·split at ho
    ·cases ho;exact h
    ·cases ho
   ·split at ho
    ·split at ho
     ·rename_i h5;cases ho;refine h.set ?_;obtain⟨a1,a2,a3⟩:=ha;obtain⟨b1,b2,b3⟩:=hb;unfold SpOk In64 at *;dsimp only;omega
     ·cases ho
    ·split at ho
     ·rename_i h5;cases ho;refine h.set ?_;obtain⟨a1,a2,a3⟩:=ha;obtain⟨b1,b2,b3⟩:=hb;unfold belowP at *;split at h5
      ·cases h5
      ·rename_i h6;rw[if_neg h6];unfold SpOk In64 at *;dsimp only;omega
     ·cases ho
 ·cases ho;exact h
end
end
def InS (p:PSpan) (n:Int):Prop:=p.lo<=n/\n<=p.hi
theorem InS.join1 {a b:PSpan}{n:Int}(h:InS a n):InS (joinP a b) n:=by
 unfold InS joinP at *;split
 ·omega
 ·split
  ·exact h
  ·dsimp only;omega
theorem InS.join2 {a b:PSpan}{n:Int}(h:InS b n):InS (joinP a b) n:=by
 unfold InS joinP at *;split
 ·exact h
 ·split
  ·omega
  ·dsimp only;omega
theorem inS_all {n:Int}(h:In64 n):InS allP n:=h
theorem InS.meet {a b:PSpan}{n:Int}(h:InS a n) (k:InS b n):(meetQ a b).2=true/\InS (meetQ a b).1 n:=by
 unfold InS at *;unfold meetQ meetP;dsimp only;rw[if_neg (by omega)];exact⟨rfl,by dsimp only;omega,by dsimp only;omega⟩
theorem w64 {n:Int}(h:In64 n):wrap64 n=n:=by unfold In64 at h;unfold wrap64;omega
theorem exact_ok {a b:Int}(ha:In64 a) (hb:In64 b) (h:(exactP a b).2=true):(exactP a b).1=a+b/\In64 (a+b):=by
 unfold In64 at *;unfold exactP wrap64 at *;dsimp only at *;rw[beq_iff_eq,decide_eq_decide]at h;omega
theorem less_ok {a b:Int}(ha:In64 a) (hb:In64 b) (h:(lessP a b).2=true):(lessP a b).1=a-b/\In64 (a-b):=by
 unfold In64 at *;unfold lessP wrap64 at *;dsimp only at *;rw[beq_iff_eq,decide_eq_decide]at h;omega
theorem times_ok {a b:Int}(h:(timesP a b).2=true):(timesP a b).1=a*b/\In64 (a*b):=by
 unfold timesP at *;dsimp only at *;simp only[Bool.and_eq_true,decide_eq_true_eq]at h;exact⟨w64 h,h⟩
theorem hull_of {l:List Int}{n x y:Int}(hx:x∈l) (hy:y∈l) (h1:x<=n) (h2:n<=y):InS (hullL l) n:=by
 have key:∀ (m:List Int) (p:PSpan),p.lo<=p.hi->((m.foldl hullF p).lo<=(m.foldl hullF p).hi/\(m.foldl hullF p).lo<=p.lo/\p.hi<=(m.foldl hullF p).hi/\∀ z∈m,(m.foldl hullF p).lo<=z/\z<=(m.foldl hullF p).hi):=fun m=>by
  induction m with
  | nil=>intro p hp;exact⟨hp,Int.le_refl _,Int.le_refl _,fun z hz=>by simp at hz⟩
  | cons q m ih =>
   intro p hp;have e:hullF p q=⟨min p.lo q,max p.hi q⟩:=by
    unfold hullF joinP;rw[if_neg (by omega),if_neg (by simp)]
   rw[List.foldl_cons,e];obtain⟨i1,i2,i3,i4⟩:=ih ⟨min p.lo q,max p.hi q⟩ (by dsimp only;omega);dsimp only at i2 i3;refine⟨i1,oz,oz,fun z hz=>?_⟩;rcases List.mem_cons.1 hz with rfl|hz
   ·omega
   ·exact i4 z hz
 obtain⟨_,_,_,h4⟩:=key l ⟨l.getD 0 0,l.getD 0 0⟩ (Int.le_refl _);unfold InS hullL;have:=h4 x hx;have:=h4 y hy;omega
theorem hullP_of {l:List Int}{all:Bool}{n:Int}(h64:In64 n) (h:all=true->∃ x∈l,∃ y∈l,x<=n/\n<=y):InS (hullP l all) n:=by
 unfold hullP;split
 ·rename_i ha;obtain⟨x,hx,y,hy,h1,h2⟩:=h ha;exact hull_of hx hy h1 h2
 ·exact inS_all h64
theorem point_eq {a b:PSpan}{x y:Int}(hp:pointB a b=true) (hx:InS a x) (hy:InS b y):x=a.lo/\y=b.lo:=by
 unfold pointB at hp;simp only[Bool.and_eq_true,decide_eq_true_eq]at hp;unfold InS at *;omega
theorem add_in {a b:PSpan}{x y:Int}(ha:SpOk a) (hb:SpOk b) (hx:InS a x) (hy:InS b y):InS (doAdd a b) (wrap64 (x+y)):=by
 unfold doAdd;split
 ·rename_i hp;obtain⟨rfl,rfl⟩:=point_eq hp hx hy;exact⟨Int.le_refl _,Int.le_refl _⟩
 ·refine hullP_of (wrap64_In _) (fun h=>?_);rw[Bool.and_eq_true]at h;obtain⟨e1,i1⟩:=exact_ok ha.1 hb.1 h.1;obtain⟨e2,i2⟩:=exact_ok ha.2.1 hb.2.1 h.2;rw[e1,e2];unfold InS at hx hy;have hw:wrap64 (x+y)=x+y:=w64 (by unfold In64 at *;omega);rw[hw];exact⟨_,List.mem_cons_self ..,_,List.mem_cons_of_mem _ (List.mem_cons_self ..),oz,oz⟩
theorem sub_in {a b:PSpan}{x y:Int}(ha:SpOk a) (hb:SpOk b) (hx:InS a x) (hy:InS b y):InS (doSub a b) (wrap64 (x-y)):=by
 unfold doSub;split
 ·rename_i hp;obtain⟨rfl,rfl⟩:=point_eq hp hx hy;exact⟨Int.le_refl _,Int.le_refl _⟩
 ·refine hullP_of (wrap64_In _) (fun h=>?_);rw[Bool.and_eq_true]at h;obtain⟨e1,i1⟩:=less_ok ha.1 hb.2.1 h.1;obtain⟨e2,i2⟩:=less_ok ha.2.1 hb.1 h.2;rw[e1,e2];unfold InS at hx hy;have hw:wrap64 (x-y)=x-y:=w64 (by unfold In64 at *;omega);rw[hw];exact⟨_,List.mem_cons_self ..,_,List.mem_cons_of_mem _ (List.mem_cons_self ..),oz,oz⟩
theorem mul_mono {a b x y:Int}(h1:a<=x) (h2:x<=b):(a*y<=x*y/\x*y<=b*y)\/(b*y<=x*y/\x*y<=a*y):=by
 by_cases h:0<=y
 ·exact .inl ⟨Int.mul_le_mul_of_nonneg_right h1 h,Int.mul_le_mul_of_nonneg_right h2 h⟩
 ·exact .inr ⟨Int.mul_le_mul_of_nonpos_right h2 oz,Int.mul_le_mul_of_nonpos_right h1 oz⟩
theorem mul_in {a b:PSpan}{x y:Int}(hx:InS a x) (hy:InS b y):InS (doMul a b) (wrap64 (x*y)):=by
 unfold doMul;split
 ·rename_i hp;obtain⟨rfl,rfl⟩:=point_eq hp hx hy;exact⟨Int.le_refl _,Int.le_refl _⟩
 ·refine hullP_of (wrap64_In _) (fun h=>?_);unfold pairs4 at *;simp only[List.all_cons,List.all_nil,Bool.and_true,Bool.and_eq_true,List.map_cons,List.map_nil]at h ⊢;obtain⟨h1,h2,h3,h4⟩:=h;obtain⟨e1,i1⟩:=times_ok h1;obtain⟨e2,i2⟩:=times_ok h2;obtain⟨e3,i3⟩:=times_ok h3;obtain⟨e4,i4⟩:=times_ok h4;rw[e1,e2,e3,e4];have m0:=mul_mono (y:=y) hx.1 hx.2;have m1:=mul_mono (y:=a.lo) hy.1 hy.2;have m2:=mul_mono (y:=a.hi) hy.1 hy.2;rw[Int.mul_comm b.lo,Int.mul_comm b.hi,Int.mul_comm y]at m1 m2;have lo:∃ p∈[a.lo*b.lo,a.lo*b.hi,a.hi*b.lo,a.hi*b.hi],p<=x*y:=by
   rcases m0 with⟨q1,q2⟩|⟨q1,q2⟩
   ·rcases m1 with⟨r1,r2⟩|⟨r1,r2⟩
    ·exact⟨a.lo*b.lo,si,oz⟩
    ·exact⟨a.lo*b.hi,si,oz⟩
   ·rcases m2 with⟨r1,r2⟩|⟨r1,r2⟩
    ·exact⟨a.hi*b.lo,si,oz⟩
    ·exact⟨a.hi*b.hi,si,oz⟩
  have hi:∃ p∈[a.lo*b.lo,a.lo*b.hi,a.hi*b.lo,a.hi*b.hi],x*y<=p:=by
   rcases m0 with⟨q1,q2⟩|⟨q1,q2⟩
   ·rcases m2 with⟨r1,r2⟩|⟨r1,r2⟩
    ·exact⟨a.hi*b.hi,si,oz⟩
    ·exact⟨a.hi*b.lo,si,oz⟩
   ·rcases m1 with⟨r1,r2⟩|⟨r1,r2⟩
    ·exact⟨a.lo*b.hi,si,oz⟩
    ·exact⟨a.lo*b.lo,si,oz⟩
  obtain⟨p,hp,hp2⟩:=lo;obtain⟨q,hq,hq2⟩:=hi;have i64:∀ z∈[a.lo*b.lo,a.lo*b.hi,a.hi*b.lo,a.hi*b.hi],In64 z:=fun z hz=>by
   simp only[List.mem_cons,List.not_mem_nil,or_false]at hz;rcases hz with rfl|rfl|rfl|rfl<;>assumption
  have hw:wrap64 (x*y)=x*y:=w64 (by have:=i64 p hp;have:=i64 q hq;unfold In64 at *;omega);rw[hw];exact⟨p,hp,q,hq,hp2,hq2⟩
theorem tdiv_den {a p y q:Int}(ha:0<=a) (hp:0<p) (h1:p<=y) (h2:y<=q):a.tdiv q<=a.tdiv y/\a.tdiv y<=a.tdiv p:=by
 rw[Int.tdiv_eq_ediv_of_nonneg ha,Int.tdiv_eq_ediv_of_nonneg ha,Int.tdiv_eq_ediv_of_nonneg ha];have key:∀ {u v:Int},0<u->u<=v->a / v<=a / u:=fun {u v} hu huv=>by
  rw[Int.le_ediv_iff_mul_le hu];have h0:0<=a / v:=Int.ediv_nonneg ha oz;have h3:a / v*u<=a / v*v:=Int.mul_le_mul_of_nonneg_left huv h0;have h4:a / v*v<=a:=Int.ediv_mul_le a oz;omega
 exact⟨key oz h2,key hp h1⟩
/-- between the quotients by the ends -/
theorem tdiv_between {lo hi x p y q:Int}(h1:lo<=x) (h2:x<=hi) (hp:0<p) (h3:p<=y) (h4:y<=q):(lo.tdiv p<=x.tdiv y\/lo.tdiv q<=x.tdiv y)/\(x.tdiv y<=hi.tdiv p\/x.tdiv y<=hi.tdiv q):=by
 have m1:lo.tdiv y<=x.tdiv y:=Int.tdiv_le_tdiv oz h1;have m2:x.tdiv y<=hi.tdiv y:=Int.tdiv_le_tdiv oz h2;have key:∀ z:Int,(z.tdiv p<=z.tdiv y/\z.tdiv y<=z.tdiv q)\/(z.tdiv q<=z.tdiv y/\z.tdiv y<=z.tdiv p):=fun z=>by
  by_cases hz:0<=z
  ·exact .inr (tdiv_den hz hp h3 h4)
  ·have h:=tdiv_den (a := -z) oz hp h3 h4;rw[Int.neg_tdiv,Int.neg_tdiv,Int.neg_tdiv]at h;exact .inl oz
 have kl:=key lo;have kh:=key hi;omega
theorem tdiv_64 {a d:Int}(ha:In64 a) (hd:d≠0) (h:¬(a = -9223372036854775808/\d = -1)):In64 (a.tdiv d):=by
 unfold In64 at *;have h1:=Int.natAbs_tdiv a d;by_cases e:d=1
 ·subst e;rw[Int.tdiv_one];exact ha
 by_cases e2:d = -1
 ·subst e2;rw[Int.tdiv_neg,Int.tdiv_one];omega
 ·have h2:a.natAbs.div d.natAbs<=a.natAbs / 2:=Nat.div_le_div_left oz oz;omega
theorem divL_mem {a b:PSpan}{d z:Int}(hd:d∈[b.lo,b.hi,-1,1]) (h0:d≠0) (hb:InS b d) (hz:z=a.lo\/z=a.hi):IntKind.i64.wrap (z.tdiv d)∈divL a b:=by
 unfold divL;rw[List.mem_flatMap];refine⟨d,hd,?_⟩;unfold divF;rw[if_pos ⟨h0,by unfold hasP;unfold InS at hb;simp;omega⟩];rcases hz with rfl|rfl<;>simp
theorem divided_in {a b:PSpan}{x y:Int}(ha:SpOk a) (hb:SpOk b) (hx:InS a x) (hy:InS b y) (h0:y≠0):InS (dividedP a b) (wrap64 (x.tdiv y)):=by
 unfold dividedP;split
 ·exact inS_all (wrap64_In _)
 ·rename_i hc;have hm1:InS b (-1)->a.lo ≠ -9223372036854775808:=fun h e=>hc ⟨e,by unfold hasP;unfold InS at h;simp;omega⟩;have hw:∀ d z:Int,d≠0->InS b d->In64 z->(z = -9223372036854775808->a.lo = -9223372036854775808)->IntKind.i64.wrap (z.tdiv d)=z.tdiv d/\In64 (z.tdiv d):=fun d z hd hbd hz hl=>by
   have:=tdiv_64 hz hd (by rintro⟨e1,rfl⟩;exact hm1 hbd (hl e1));exact⟨IntWalk.i64_in _ this,this⟩
  have hlo:=fun d hd hbd=>hw d a.lo hd hbd ha.1 (fun e=>e);have hhi:=fun d hd hbd=>hw d a.hi hd hbd ha.2.1 (fun e=>by have:=ha.1;have:=ha.2.2;unfold In64 at *;omega);have hxw:wrap64 (x.tdiv y)=x.tdiv y:=w64 (tdiv_64 (by have h1:=ha.1;have h2:=ha.2.1;unfold In64 at *;unfold InS at hx;omega) h0 (by rintro⟨e1,rfl⟩;exact hm1 hy (by have h1:=ha.1;unfold In64 at h1;unfold InS at hx;omega)));rw[hxw];have fin:∀ d1 d2:Int,d1∈[b.lo,b.hi,-1,1]->d2∈[b.lo,b.hi,-1,1]->d1≠0->d2≠0->InS b d1->InS b d2 ->
   ((a.lo.tdiv d1<=x.tdiv y\/a.lo.tdiv d2<=x.tdiv y)/\(x.tdiv y<=a.hi.tdiv d1\/x.tdiv y<=a.hi.tdiv d2)\/(a.hi.tdiv d1<=x.tdiv y\/a.hi.tdiv d2<=x.tdiv y)/\(x.tdiv y<=a.lo.tdiv d1\/x.tdiv y<=a.lo.tdiv d2))->InS (hullL (divL a b)) (x.tdiv y):=fun d1 d2 m1 m2 z1 z2 i1 i2 h=>by
   have l1:=divL_mem (a:=a) m1 z1 i1 (.inl rfl);have l2:=divL_mem (a:=a) m2 z2 i2 (.inl rfl);have u1:=divL_mem (a:=a) m1 z1 i1 (.inr rfl);have u2:=divL_mem (a:=a) m2 z2 i2 (.inr rfl);rw[(hlo d1 z1 i1).1]at l1;rw[(hlo d2 z2 i2).1]at l2;rw[(hhi d1 z1 i1).1]at u1;rw[(hhi d2 z2 i2).1]at u2;rcases h with⟨h1,h2⟩|⟨h1,h2⟩
   ·rcases h1 with h1|h1<;>rcases h2 with h2|h2
    ·exact hull_of l1 u1 h1 h2
    ·exact hull_of l1 u2 h1 h2
    ·exact hull_of l2 u1 h1 h2
    ·exact hull_of l2 u2 h1 h2
   ·rcases h1 with h1|h1<;>rcases h2 with h2|h2
    ·exact hull_of u1 l1 h1 h2
    ·exact hull_of u1 l2 h1 h2
    ·exact hull_of u2 l1 h1 h2
    ·exact hull_of u2 l2 h1 h2
  unfold hullP;rw[if_pos rfl];have hy2:=hy;unfold InS at hx hy2;by_cases hpos:0<y
  ·obtain⟨p,hp,hpm,hpb,hpy⟩:∃ p,0<p/\p∈[b.lo,b.hi,-1,1]/\InS b p/\p<=y:=by
    by_cases e:1<=b.lo
    ·exact⟨b.lo,oz,si,⟨Int.le_refl _,hb.2.2⟩,hy2.1⟩
    ·exact⟨1,oz,si,⟨oz,oz⟩,oz⟩
   have h:=tdiv_between hx.1 hx.2 hp hpy hy2.2;exact fin p b.hi hpm si oz oz hpb ⟨hb.2.2,Int.le_refl _⟩ (.inl h)
  ·obtain⟨p,hp,hpm,hpb,hpy⟩:∃ p,p<0/\p∈[b.lo,b.hi,-1,1]/\InS b p/\y<=p:=by
    by_cases e:b.hi <= -1
    ·exact⟨b.hi,oz,si,⟨hb.2.2,Int.le_refl _⟩,hy2.2⟩
    ·exact⟨-1,oz,si,⟨oz,oz⟩,oz⟩
   have h:=tdiv_between (p := -p) (y := -y) (q := -b.lo) hx.1 hx.2 oz oz oz;simp only[Int.tdiv_neg]at h;exact fin p b.lo hpm si oz oz hpb ⟨Int.le_refl _,hb.2.2⟩ (.inr oz)
theorem left_in {a b:PSpan}{x y:Int}(hb:SpOk b) (hx:InS a x) (hy:InS b y) (h0:y≠0):InS (leftP a b) (x.tmod y):=by
 have h1:=hb.1;have h2:=hb.2.1;unfold In64 at h1 h2;unfold InS at hx hy;have hm:leftM b=max (b.lo.natAbs:Int) (b.hi.natAbs:Int)-1:=by
  unfold leftM;rw[IntWalk.u64_in _ (by omega)];unfold wrap64;omega
 have hw:wrap64 (-leftM b) = -leftM b:=by rw[hm];unfold wrap64;omega
 have hn:=Int.natAbs_tmod x y;have hl:x.natAbs%y.natAbs<y.natAbs:=Nat.mod_lt _ oz;have hl2:x.natAbs%y.natAbs<=x.natAbs:=Nat.mod_le _ _;have hs1:0<=x->0<=x.tmod y:=fun h=>Int.tmod_nonneg y h;have hs2:x<=0->x.tmod y<=0:=fun h=>by
  have:=Int.tmod_nonneg (a := -x) y oz;rw[Int.neg_tmod]at this;omega
 unfold InS leftP;dsimp only;rw[hw,hm];constructor
 ·split<;>omega
 ·split<;>omega
theorem truth_in {yes no v:Bool}(h1:yes=true->v=true) (h2:no=true->v=false):InS (truthP yes no) (if v then 1 else 0):=by
 unfold truthP InS;cases yes
 ·cases no
  ·cases v<;>simp
  ·rw[h2 rfl];simp
 ·rw[h1 rfl];simp
/-- what the machine makes of two numbers; none: a trap -/
def opR (op a b:Int):Option Int:=if op=10 then some (if a=0 then 1 else 0)else if(op=6\/op=7)/\b=0 then none else some (numV op a b)
theorem do_in {op:Int}{a b:PSpan}{x y v:Int}(h3:3<=op) (h10:op<=10) (ha:SpOk a) (hb:SpOk b) (hx:InS a x) (hy:InS b y) (hv:opR op x y=some v):(spanDo op a b).2=true/\InS (spanDo op a b).1 v:=by
 have hz:eqP b zeroP=true->y=0:=fun h=>by
  unfold eqP zeroP at h;unfold InS at hy;simp only[Bool.and_eq_true,decide_eq_true_eq]at h;omega
 rcases(show op=3\/op=4\/op=5\/op=6\/op=7\/op=8\/op=9\/op=10 by omega)with rfl|rfl|rfl|rfl|rfl|rfl|rfl|rfl
 ·obtain rfl:wrap64 (x+y)=v:=by simpa[opR,numV]using hv
  exact⟨rfl,add_in ha hb hx hy⟩
 ·obtain rfl:wrap64 (x-y)=v:=by simpa[opR,numV]using hv
  exact⟨rfl,sub_in ha hb hx hy⟩
 ·obtain rfl:wrap64 (x*y)=v:=by simpa[opR,numV]using hv
  exact⟨rfl,mul_in hx hy⟩
 ·by_cases h0:y=0
  ·simp[opR,h0]at hv
  ·obtain rfl:wrap64 (x.tdiv y)=v:=by simpa[opR,numV,h0]using hv
   have e:spanDo 6 a b=(dividedP a b,true):=by
    unfold spanDo;simp[show eqP b zeroP=false from by cases h:eqP b zeroP;rfl;exact absurd (hz h) h0]
   rw[e];exact⟨rfl,divided_in ha hb hx hy h0⟩
 ·by_cases h0:y=0
  ·simp[opR,h0]at hv
  ·obtain rfl:x.tmod y=v:=by simpa[opR,numV,h0]using hv
   have e:spanDo 7 a b=(leftP a b,true):=by
    unfold spanDo;simp[show eqP b zeroP=false from by cases h:eqP b zeroP;rfl;exact absurd (hz h) h0]
   rw[e];exact⟨rfl,left_in hb hx hy h0⟩
 ·obtain rfl:(if x<y then 1 else 0)=v:=by simpa[opR,numV]using hv
  refine⟨rfl,?_⟩;have:=truth_in (yes:=decide (a.hi<b.lo)) (no:=decide (b.hi<=a.lo)) (v:=decide (x<y)) (fun h=>by simp at h ⊢;unfold InS at *;omega) (fun h=>by simp at h ⊢;unfold InS at *;omega);simp only[decide_eq_true_eq]at this;exact this
 ·obtain rfl:(if x=y then 1 else 0)=v:=by simpa[opR,numV]using hv
  refine⟨rfl,?_⟩;have:=truth_in (yes:=eqP a b&&decide (a.lo=a.hi)) (no := !(meetQ a b).2) (v:=decide (x=y)) (fun h=>by
   unfold eqP at h;simp only[Bool.and_eq_true,decide_eq_true_eq]at h ⊢;unfold InS at *;omega) (fun h=>by
   simp only[decide_eq_false_iff_not];rintro rfl;rw[(InS.meet hx hy).1]at h;cases h)
  simp only[decide_eq_true_eq]at this;exact this
 ·obtain rfl:(if x=0 then 1 else 0)=v:=by simpa[opR]using hv
  refine⟨rfl,?_⟩;have:=truth_in (yes:=eqP a zeroP) (no := !hasP a 0) (v:=decide (x=0)) (fun h=>by
   unfold eqP zeroP at h;simp only[Bool.and_eq_true,decide_eq_true_eq]at h ⊢;unfold InS at *;omega) (fun h=>by
   unfold hasP at h;unfold InS at *;simp at h ⊢;omega)
  simp only[decide_eq_true_eq]at this;exact this
section
def InL (r:List PSpan) (v:List Int):Prop:=v.length=r.length/\∀ i,i<r.length->InS (r.getD i default) (v.getD i 0)
theorem getD_setL {α:Type}(l:List α) (i j:Nat) (a d:α):(l.set i a).getD j d=if i=j/\i<l.length then a else l.getD j d:=by
 simp only[List.getD_eq_getElem?_getD];by_cases e:i=j
 ·subst e;by_cases h:i<l.length
  ·rw[if_pos ⟨rfl,h⟩,List.getElem?_set_self h];rfl
  ·rw[if_neg (fun q=>h q.2),List.set_eq_of_length_le (by omega)]
 ·rw[if_neg (fun q=>e q.1),List.getElem?_set_ne e]
section
variable {r : List PSpan} {v : List Int}
theorem InL.set (h:InL r v) (i:Nat) {a:PSpan}{n:Int}(ha:InS a n):InL (r.set i a) (v.set i n):=by
 refine⟨by simp[h.1],fun j hj=>?_⟩;rw[List.length_set]at hj;rw[getD_setL,getD_setL,h.1];split
 ·exact ha
 ·exact h.2 j hj
theorem InL.setS (h:InL r v) (i:Nat) {a:PSpan}(ha:InS a (v.getD i 0)):InL (r.set i a) v:=by
 refine⟨by simp[h.1],fun j hj=>?_⟩;rw[List.length_set]at hj;rw[getD_setL];split
 ·rename_i e;rw[<-e.1];exact ha
 ·exact h.2 j hj
end
def rgAt (v:List Int) (i:Int):Int:=v.getD i.toNat 0
def hitsP (x n words:Int):Bool:=decide (0<=x+n)&&decide (x+n<words)
def fitsR (v:List Int) (b:Nat) (ps:List PSpan):Bool:=(List.range ps.length).all fun i=>decide ((ps.getD i default).lo<=v.getD (b+i) 0)&&decide (v.getD (b+i) 0<=(ps.getD i default).hi)
/-- where it goes on, and with which numbers; none: the call ends, or there is a trap -/
def insR (m:PMod) (words:Int) (x:PIns) (nxt:Int) (v:List Int) (ans:Int):Option (Int×List Int) :=
 if x.op=0 then none
 else if x.op=1 then some (nxt,v.set x.a.toNat x.n)
 else if x.op=2 then some (nxt,v.set x.a.toNat (rgAt v x.b))
 else if 3<=x.op/\x.op<=10 then(opR x.op (rgAt v x.b) (rgAt v x.c)).map fun n=>(nxt,v.set x.a.toNat n)
 else if x.op=18 then some (x.n,v.set x.a.toNat (wrap64 (rgAt v x.a+1)))
 else if x.op=11\/x.op=12 then if hitsP (rgAt v x.b) x.n words then some (nxt,if x.op=11 then v.set x.a.toNat ans else v)else none
 else if x.op=13 then if rgAt v x.a<0\/x.n<=rgAt v x.a then none else some (nxt,v)
 else if x.op=19 then if fitsR v x.b.toNat (paramsAt m x.n)then some (nxt,v.set x.a.toNat ans)else none
 else if x.op=15\/x.op=16 then some (if decide (rgAt v x.a=0)=decide (x.op=16)then x.n else nxt,v)
 else if x.op=17 then some (if rgAt v x.b<=rgAt v x.a then x.n else nxt,v)
 else some (x.n,v)
def stepR (m:PMod) (f:PFunc) (at_:Nat) (v:List Int) (ans:Int):Option (Int×List Int):=insR m f.words (f.code.getD at_ default) ((at_:Int)+1) v ans
theorem meets_in {r:List PSpan}{v:List Int}(h:InL r v) (b:Nat) (ps:List PSpan) (hf:fitsR v b ps=true) (hb:b+ps.length<=r.length):∀ k,k<=ps.length->∃ q,meetsTo r b ps k=some q/\InL q v/\q.length=r.length:=by
 intro k
 induction k with
 | zero=>exact fun _=>⟨r,rfl,h,rfl⟩
 | succ k ih =>
  intro hk;obtain⟨q,h1,h2,h3⟩:=ih oz;have hp:InS (ps.getD k default) (v.getD (b+k) 0):=by
   unfold fitsR at hf;rw[List.all_eq_true]at hf;have:=hf k (List.mem_range.2 oz);simpa[InS]using this
  have hm:=InS.meet (h2.2 (b+k) oz) hp;refine⟨(meetR q (b+k) (ps.getD k default)).1,?_,?_,?_⟩
  ·unfold meetsTo;rw[h1,Option.bind_some];unfold meetR;dsimp only;rw[if_pos hm.1]
  ·exact h2.setS _ hm.2
  ·unfold meetR;simp[h3]
theorem words_in {x n words:Int}(hx:In64 x) (hn:In64 n) (hw:words<=4096) (h:hitsP x n words=true):(wordsP n words).2=true/\InS (wordsP n words).1 x:=by
 unfold hitsP at h;simp only[Bool.and_eq_true,decide_eq_true_eq]at h;unfold In64 at *;unfold wordsP wordsHi wrap64;rw[if_neg (by omega)];dsimp only;unfold InS;dsimp only;simp only[decide_eq_true_eq];split<;>omega
theorem without_in {a:PSpan}{x:Int}(h:InS a x) (h0:x≠0):(without0P a).2=true/\InS (without0P a).1 x:=by
 unfold without0P InS at *;dsimp only;simp only[decide_eq_true_eq];split<;>split<;>omega
theorem way_in {m:PMod}{f:PFunc}{x:PIns}{words nxt nx ans:Int}{r:List PSpan}{v v':List Int}(hx:InsFine m f x) (h64:In64 x.n) (hw:words<=4096) (hl:LOk f.regs.toNat r) (hv:InL r v) (hans:In64 ans)
 (hs:insR m words x nxt v ans=some (nx,v')):∃ out,insWay m words x (decide (nx=x.n)&&decide (x.n≠nxt)) (decide (x.n=nxt)) r=some out/\InL out v':=by
 have r0:=hx.a0;have r1:=hx.a1;have r2:=hx.b0;have r3:=hx.b1;have r4:=hx.c0;have r5:=hx.c1;have hlen:=hl.1;have at_:∀ i:Int,0<=i->i<f.regs->SpOk (spAt r i)/\InS (spAt r i) (rgAt v i)/\In64 (rgAt v i):=fun i h0 h1=>by
  have hk:i.toNat<f.regs.toNat:=oz
  have a1:=hl.2 i.toNat hk;have a2:=hv.2 i.toNat oz;refine⟨a1,a2,?_⟩;have b1:=a1.1;have b2:=a1.2.1;unfold rgAt;unfold In64 InS at *;omega
 obtain⟨oa,ia,xa⟩:=at_ x.a r0 r1;obtain⟨ob,ib,xb⟩:=at_ x.b r2 r3;obtain⟨oc,ic,xc⟩:=at_ x.c r4 r5;have hcall:=hx.call;obtain⟨op,a,b,c,n⟩:=x;dsimp only at *;unfold insR at hs;dsimp only at hs;unfold insWay;dsimp only;by_cases h0:op=0
 ·rw[if_pos h0]at hs;cases hs
 rw[if_neg h0]at hs;by_cases h1:op=1
 ·rw[if_pos h1]at hs ⊢;cases hs;exact⟨_,rfl,hv.set _ ⟨Int.le_refl _,Int.le_refl _⟩⟩
 rw[if_neg h1]at hs ⊢;by_cases h2:op=2
 ·rw[if_pos h2]at hs ⊢;cases hs;exact⟨_,rfl,hv.set _ ib⟩
 rw[if_neg h2]at hs ⊢;by_cases h3:3<=op/\op<=10
 ·rw[if_pos h3]at hs ⊢;rw[Option.map_eq_some_iff]at hs;obtain⟨y,hy,he⟩:=hs;cases he;obtain⟨d1,d2⟩:=do_in h3.1 h3.2 ob oc ib ic hy;unfold opWay;dsimp only;rw[if_pos d1];refine⟨_,rfl,InL.set ?_ _ d2⟩;by_cases h67:op=6\/op=7
  ·rw[if_pos h67];have hz:rgAt v c≠0:=fun e=>by
    unfold opR at hy;rw[if_neg (by omega),if_pos ⟨h67,e⟩]at hy;cases hy
   exact hv.setS _ (without_in ic hz).2
  ·rw[if_neg h67];exact hv
 rw[if_neg h3]at hs ⊢;by_cases h18:op=18
 ·rw[if_pos h18]at hs ⊢;cases hs;exact⟨_,rfl,hv.set _ (add_in oa ⟨⟨dc,dc⟩,⟨dc,dc⟩,dc⟩ ia ⟨dc,dc⟩)⟩
 rw[if_neg h18]at hs ⊢;by_cases h11:op=11\/op=12
 ·rw[if_pos h11]at hs ⊢;by_cases hh:hitsP (rgAt v b) n words=true
  ·rw[if_pos hh]at hs;cases hs;obtain⟨w1,w2⟩:=words_in xb h64 hw hh;obtain⟨m1,m2⟩:=InS.meet ib w2;unfold memWay;dsimp only;rw[if_neg (by rw[w1];simp),if_pos (show(meetR r b.toNat (wordsP n words).1).2=true from m1)];refine⟨_,rfl,?_⟩;have h9:InL (meetR r b.toNat (wordsP n words).1).1 v:=hv.setS _ m2;by_cases e:op=11
   ·rw[if_pos e,if_pos e];exact h9.set _ (inS_all hans)
   ·rw[if_neg e,if_neg e];exact h9
  ·rw[if_neg hh]at hs;cases hs
 rw[if_neg h11]at hs ⊢;by_cases h13:op=13
 ·rw[if_pos h13]at hs ⊢;by_cases hh:rgAt v a<0\/n<=rgAt v a
  ·rw[if_pos hh]at hs;cases hs
  ·rw[if_neg hh]at hs;cases hs;have hwr:wrap64 (n-1)=n-1:=w64 (by unfold In64 at *;omega);obtain⟨m1,m2⟩:=InS.meet ia (show InS ⟨0,wrap64 (n-1)⟩ (rgAt v a)from⟨by dsimp only;omega,by dsimp only;omega⟩);unfold optB;rw[if_pos (show(meetR r a.toNat ⟨0,wrap64 (n-1)⟩).2=true from m1)];exact⟨_,rfl,hv.setS _ m2⟩
 rw[if_neg h13]at hs ⊢;by_cases h19:op=19
 ·rw[if_pos h19]at hs ⊢;by_cases hh:fitsR v b.toNat (paramsAt m n)=true
  ·rw[if_pos hh]at hs;cases hs;obtain⟨c1,c2,c3⟩:=hcall h19;obtain⟨q,q1,q2,q3⟩:=meets_in hv b.toNat (paramsAt m n) hh (by
    unfold paramsAt;have e:m.funcs.getD n.toNat default=fnAt m n.toNat:=rfl;rw[e];omega) _ lr
   rw[q1];exact⟨_,rfl,q2.set _ (inS_all hans)⟩
  ·rw[if_neg hh]at hs;cases hs
 rw[if_neg h19]at hs ⊢;by_cases h15:op=15\/op=16
 ·rw[if_pos h15]at hs ⊢;have hs2:=Option.some.inj hs;obtain⟨rfl,rfl⟩:(if decide (rgAt v a=0)=decide (op=16)then n else nxt)=nx/\v=v':=⟨congrArg Prod.fst hs2,congrArg Prod.snd hs2⟩
  unfold ifWay;dsimp only;by_cases ho:n=nxt
  ·rw[if_pos (by simpa using ho)];exact⟨_,rfl,hv⟩
  ·rw[if_neg (by simpa using ho)];by_cases hz:rgAt v a=0
   ·have:(decide ((if decide (rgAt v a=0)=decide (op=16)then n else nxt)=n)&&decide (n≠nxt))=decide (op=16):=by
     rcases h15 with rfl|rfl
     ·simp[hz,Ne.symm ho]
     ·simp[hz,ho]
    rw[if_pos this];obtain⟨m1,m2⟩:=InS.meet ia (show InS ⟨0,0⟩ (rgAt v a)from⟨by dsimp only;omega,by dsimp only;omega⟩);unfold optB;rw[if_pos (show(meetR r a.toNat ⟨0,0⟩).2=true from m1)];exact⟨_,rfl,hv.setS _ m2⟩
   ·have:¬(decide ((if decide (rgAt v a=0)=decide (op=16)then n else nxt)=n)&&decide (n≠nxt))=decide (op=16):=by
     rcases h15 with rfl|rfl
     ·simp[hz,ho]
     ·simp[hz,Ne.symm ho]
    rw[if_neg this];obtain⟨m1,m2⟩:=without_in ia hz;rw[if_pos m1];exact⟨_,rfl,hv.setS _ m2⟩
 rw[if_neg h15]at hs ⊢;by_cases h17:op=17
 ·rw[if_pos h17]at hs ⊢;have hs2:=Option.some.inj hs;obtain⟨rfl,rfl⟩:(if rgAt v b<=rgAt v a then n else nxt)=nx/\v=v':=⟨congrArg Prod.fst hs2,congrArg Prod.snd hs2⟩
  unfold countWay;dsimp only;by_cases ho:n=nxt
  ·rw[if_pos (by simpa using ho)];exact⟨_,rfl,hv⟩
  ·rw[if_neg (by simpa using ho)];by_cases hle:rgAt v b<=rgAt v a
   ·have hfar:(decide ((if rgAt v b<=rgAt v a then n else nxt)=n)&&decide (n≠nxt))=true:=by simp[hle,ho]
    rw[hfar];by_cases hab:a=b
    ·rw[if_pos hab,if_pos rfl];exact⟨_,rfl,hv⟩
    ·unfold InS at ia ib;rw[if_neg hab,if_pos rfl,if_pos (by omega)];exact⟨_,rfl,hv.setS _ ⟨by show max _ _<=_;have:v.getD a.toNat 0=rgAt v a:=rfl;omega,ia.2⟩⟩
   ·have hfar:(decide ((if rgAt v b<=rgAt v a then n else nxt)=n)&&decide (n≠nxt))=false:=by simp[hle,Ne.symm ho]
    rw[hfar];by_cases hab:a=b
    ·subst hab;omega
    ·unfold InS at ia ib;rw[if_neg hab,if_neg (by simp)];have hbl:belowP (spAt r a) (spAt r b)=(⟨(spAt r a).lo,min (spAt r a).hi ((spAt r b).hi-1)⟩,⟨max (spAt r b).lo ((spAt r a).lo+1),(spAt r b).hi⟩,true):=by unfold belowP;rw[if_neg (by omega)]
     rw[hbl];dsimp only;rw[if_pos rfl];exact⟨_,rfl,hv.setS _ ⟨ia.1,by show _<=min _ _;have:v.getD a.toNat 0=rgAt v a:=rfl;omega⟩⟩
 rw[if_neg h17]at hs ⊢;cases hs;exact⟨_,rfl,hv⟩
end
theorem nextTo_in (len:Int) (l:List Int) (k:Nat):∀ x∈nextTo len l k,0<=x/\x<len:=by
 intro x hx;unfold nextTo at hx;obtain⟨i,hi,rfl⟩:=List.mem_map.1 hx;have:=(List.mem_filter.1 hi).2;unfold keepN at this;simp only[Bool.and_eq_true,decide_eq_true_eq]at this;exact this.1
theorem nextP_in (f:PFunc) (u:Nat):∀ x∈nextP f u,0<=x/\x<f.code.length:=nextTo_in _ _ _
theorem nextP_len (f:PFunc) (u:Nat):(nextP f u).length<=2:=by
 unfold nextP nextTo;rw[List.length_map];exact Nat.le_trans (List.length_filter_le _ _) (by simpa using rawN_len _ _)
/-- what can be reached from the first instruction -/
inductive Rch (f:PFunc):Nat->Prop
 | zero:Rch f 0
 | step (u v:Nat):Rch f u->(v:Int)∈nextP f u->Rch f v
open Classical in
noncomputable def reachP (f:PFunc):List Bool:=(List.range f.code.length).map fun v=>decide (Rch f v)
theorem reachP_len (f:PFunc):(reachP f).length=f.code.length:=by simp[reachP]
theorem reachP_at (f:PFunc) (v:Nat) (hv:v<f.code.length):(reachP f)[v]? = some true↔Rch f v:=by
 simp[reachP,hv]
theorem Rch.lt {f:PFunc}(h0:0<f.code.length) {v:Nat}(h:Rch f v):v<f.code.length:=by
 cases h with
 | zero=>exact h0
 | step u v _ h2=>have:=nextP_in f u _ h2;omega
/-- what stands between the rounds of the search -/
structure RInv (f:PFunc) (can:List Bool) (todo:List Int):Prop where
 len:can.length=f.code.length
 tr:∀ x∈todo,∃ v:Nat,x=v/\v<f.code.length/\Rch f v
 cr:∀ v,can[v]? = some true->Rch f v
 cl:∀ v,can[v]? = some true->∀ s:Nat,(s:Int)∈nextP f v->can[s]? = some true\/(s:Int)∈todo
 z:can[0]? = some true\/(0:Int)∈todo
theorem RInv.start (f:PFunc) (h:0<f.code.length):RInv f (List.replicate f.code.length false) [0] :=
 ⟨si,fun x hx=>by simp at hx;exact⟨0,by simpa using hx,h,.zero⟩,fun v hv=>by simp[List.getElem?_replicate]at hv,fun v hv=>by simp[List.getElem?_replicate]at hv,.inr si⟩
theorem RInv.drop {f:PFunc}{can:List Bool}{t:List Int}{a:Nat}(h:RInv f can (t++[(a:Int)])) (ha:can[a]? = some true):RInv f can t:=by
 refine⟨h.len,fun x hx=>h.tr x (by simp[hx]),h.cr,fun v hv s hs=>?_,?_⟩
 ·rcases h.cl v hv s hs with k|k
  ·exact .inl k
  ·rcases List.mem_append.1 k with k|k
   ·exact .inr k
   ·have:s=a:=by simp at k;omega
    subst this;exact .inl ha
 ·rcases h.z with k|k
  ·exact .inl k
  ·rcases List.mem_append.1 k with k|k
   ·exact .inr k
   ·have:0=a:=by simp at k;omega
    subst this;exact .inl ha
theorem RInv.mark {f:PFunc}{can:List Bool}{t:List Int}{a:Nat}(h:RInv f can (t++[(a:Int)])) (ha:a<f.code.length):RInv f (can.set a true) (t++nextP f a):=by
 have hra:Rch f a:=by
  obtain⟨v,hv,_,hr⟩:=h.tr a si;have:a=v:=oz
  subst this;exact hr
 have hset:∀ v:Nat,(can.set a true)[v]? = some true->v=a\/can[v]? = some true:=by
  intro v hv;by_cases e:v=a
  ·exact .inl e
  ·rw[List.getElem?_set_ne (by omega)]at hv;exact .inr hv
 have hself:(can.set a true)[a]? = some true:=by rw[List.getElem?_set_self (by rw[h.len];exact ha)]
 have hkeep:∀ v:Nat,can[v]? = some true->(can.set a true)[v]? = some true:=by
  intro v hv;by_cases e:v=a
  ·subst e;exact hself
  ·rw[List.getElem?_set_ne (by omega)];exact hv
 refine⟨by rw[List.length_set];exact h.len,fun x hx=>?_,fun v hv=>?_,fun v hv s hs=>?_,?_⟩
 ·rcases List.mem_append.1 hx with k|k
  ·exact h.tr x (by simp[k])
  ·have:=nextP_in f a x k;refine⟨x.toNat,oz,oz,.step a _ hra ?_⟩;rw[show((x.toNat:Nat):Int)=x by omega];exact k
 ·rcases hset v hv with rfl|k
  ·exact hra
  ·exact h.cr v k
 ·rcases hset v hv with rfl|k
  ·exact .inr (by simp[hs])
  ·rcases h.cl v k s hs with k|k
   ·exact .inl (hkeep s k)
   ·rcases List.mem_append.1 k with k|k
    ·exact .inr (by simp[k])
    ·have:s=a:=by simp at k;omega
     subst this;exact .inl hself
 ·rcases h.z with k|k
  ·exact .inl (hkeep 0 k)
  ·rcases List.mem_append.1 k with k|k
   ·exact .inr (by simp[k])
   ·have:0=a:=by simp at k;omega
    subst this;exact .inl hself
theorem RInv.done {f:PFunc}{can:List Bool}(h:RInv f can []):can=reachP f:=by
 have hz:can[0]? = some true:=by rcases h.z with k|k;exact k;simp at k
 have hall:∀ v,Rch f v->can[v]? = some true:=by
  intro v hv
  induction hv with
  | zero=>exact hz
  | step u v _ h2 ih =>
   rcases h.cl u ih v h2 with k|k
   ·exact k
   ·simp at k
 apply List.ext_getElem?;intro v;by_cases hv:v<f.code.length
 ·have hvc:v<can.length:=by rw[h.len];exact hv
  have e1:can[v]? = some can[v]:=List.getElem?_eq_getElem (by rw[h.len];exact hv);have e2:(reachP f)[v]? = some ((reachP f)[v]'(by rw[reachP_len];exact hv)):=List.getElem?_eq_getElem (by rw[reachP_len];exact hv);rw[e1,e2];congr 1;rw[Bool.eq_iff_iff];constructor
  ·intro k;have:=(reachP_at f v hv).2 (h.cr v (by rw[e1,k]));rw[e2]at this;injection this
  ·intro k;have:=hall v ((reachP_at f v hv).1 (by rw[e2,k]));rw[e1]at this;injection this
 ·rw[List.getElem?_eq_none (by rw[h.len];omega),List.getElem?_eq_none (by rw[reachP_len];omega)]
/-- rounds still to come -/
def rLeft (can:List Bool) (todo:List Int):Nat:=3*can.count false+todo.length
theorem count_set {can:List Bool}{a:Nat}(h:can[a]? = some false):(can.set a true).count false+1=can.count false:=by
 induction can generalizing a with
 | nil=>simp at h
 | cons x l ih =>
  cases a with
  | zero=>simp at h;subst h;simp
  | succ a =>
   simp at h;have:=ih h;rw[List.set_cons_succ,List.count_cons,List.count_cons];omega
theorem rLeft_mark {f:PFunc}{can:List Bool}{t:List Int}{a:Nat}(h:can[a]? = some false):rLeft (can.set a true) (t++nextP f a)<rLeft can (t++[(a:Int)]):=by
 have h1:=count_set h;have h2:=nextP_len f a;unfold rLeft;simp only[List.length_append,List.length_cons,List.length_nil];omega
theorem rLeft_drop {can:List Bool}{t:List Int}{a:Int}:rLeft can t<rLeft can (t++[a]):=by unfold rLeft;simp
theorem rLeft_len (can:List Bool) (todo:List Int):todo.length<=rLeft can todo:=by unfold rLeft;omega
section
section
variable {m : PMod} {f : PFunc} {n regs : Nat}
theorem ways_keep (hn:n=f.code.length) (hr:0<regs) (H:∀ (a:Nat) (inn:List PSpan) (t:Int) (out:List PSpan),a<n->LOk regs inn->t∈nextP f a->wayP m f a t inn=some out->LOk regs out)
 {a:Nat} (ha:a<n) {inn:List PSpan} (hi:LOk regs inn):∀ (l:List Int) (s:PBS),(∀ t∈l,t∈nextP f a)->SOk n regs s->SOk n regs (l.foldl (wayS m f a inn) s)/\potT n regs (l.foldl (wayS m f a inn) s)<=potT n regs s
 | [],s,_,hs=>⟨hs,Nat.le_refl _⟩
 | t::l,s,hl,hs=>by
  have ht:=hl t si;have hb:=nextP_in f a t ht;have h1:SOk n regs (wayS m f a inn s t)/\potT n regs (wayS m f a inn s t)<=potT n regs s:=by
   unfold wayS;cases hw:wayP m f a t inn with
   | none=>exact⟨hs,Nat.le_refl _⟩
   | some out =>
    have ho:=H a inn t out ha hi ht hw;exact⟨mergeP_ok hs oz ho,mergeP_pot hr hs oz ho⟩
  have h2:=ways_keep hn hr H ha hi l _ (fun t ht=>hl t (by simp[ht])) h1.1;exact⟨h2.1,Nat.le_trans h2.2 h1.2⟩
theorem step_keep (hn:n=f.code.length) (hr:0<regs) (H:∀ (a:Nat) (inn:List PSpan) (t:Int) (out:List PSpan),a<n->LOk regs inn->t∈nextP f a->wayP m f a t inn=some out->LOk regs out)
 {a:Nat} (ha:a<n) {s:PBS} (hs:SOk n regs s) (hne:s.mrk.getD a false=true->s.inn.getD a []≠[]):SOk n regs (stepS m f s a)/\potT n regs (stepS m f s a)<=potT n regs s/\(s.mrk.getD a false=true->potT n regs (stepS m f s a)<potT n regs s):=by
 unfold stepS;by_cases hm:s.mrk.getD a false=true
 ·rw[if_pos hm];have hi:LOk regs (s.inn.getD a []):=(hs.inn a ha).resolve_left (hne hm);have h0:SOk n regs { s with mrk:=s.mrk.set a false }:=⟨hs.li,hs.lc,by simp[hs.lm],hs.lj,hs.inn,hs.chg⟩
  have hp:potT n regs { s with mrk:=s.mrk.set a false }<potT n regs s:=by
   unfold potT;dsimp only;have h2:=sumN_upd (f:=fun v=>if(s.mrk.set a false).getD v false then 1 else 0) (g:=fun v=>if s.mrk.getD v false then 1 else 0) n ha (fun k hk=>by rw[getD_set _ _ _ _ _ (by rw[hs.lm];exact ha),if_neg hk]);rw[getD_set _ _ _ _ _ (by rw[hs.lm];exact ha),if_pos rfl,hm]at h2;simp only[if_true]at h2;have e:(if false=true then 1 else 0:Nat)=0:=rfl;rw[e]at h2;omega
  have h3:=ways_keep hn hr H ha hi (nextP f a) _ (fun t ht=>ht) h0;exact⟨h3.1,oz,fun _=>by omega⟩
 ·rw[if_neg hm];exact⟨hs,Nat.le_refl _,fun h=>absurd h hm⟩
end
end
section
theorem least_nat (p:Nat->Prop) (h:∃ k,p k):∃ k,p k/\∀ j,p j->k<=j:=by
 obtain⟨k,hk⟩:=h
 induction k using Nat.strongRecOn with
 | ind k ih =>
  by_cases h2:∃ j,j<k/\p j
  ·obtain⟨j,hj,hp⟩:=h2;exact ih j hj hp
  ·exact⟨k,hk,fun j hj=>Classical.byContradiction fun h3=>h2 ⟨j,oz,hj⟩⟩
open Classical in
noncomputable def infN (p:Nat->Prop):Nat:=if h:∃ k,p k then Classical.choose (least_nat p h)else 0
theorem infN_le {p:Nat->Prop}{k:Nat}(h:p k):infN p<=k:=by
 unfold infN;rw[dif_pos ⟨k,h⟩];exact(Classical.choose_spec (least_nat p ⟨k,h⟩)).2 k h
theorem infN_is {p:Nat->Prop}(h:∃ k,p k):p (infN p):=by
 unfold infN;rw[dif_pos h];exact(Classical.choose_spec (least_nat p h)).1
def MOk (n:Nat) (s:PBS):Prop:=∀ v,v<n->s.mrk.getD v false=true->s.inn.getD v []≠[]
section
variable {m : PMod} {f : PFunc} {n regs : Nat}
theorem getD_ext {α:Type}(l:List α) (i j:Nat) (a d:α):(l.set i a).getD j d=if j=i/\i<l.length then a else l.getD j d:=by
 simp only[List.getD_eq_getElem?_getD];by_cases e:j=i
 ·subst e;by_cases h:j<l.length
  ·rw[if_pos ⟨rfl,h⟩,List.getElem?_set_self h];rfl
  ·rw[if_neg (fun q=>h q.2),List.set_eq_of_length_le (by omega)]
 ·rw[if_neg (fun q=>e q.1),List.getElem?_set_ne (by omega)]
theorem mergeP_mrk {thr:List Int}{s:PBS}{tt:Nat}{next:List PSpan}{v:Nat}(h:s.mrk.getD v false=true):(mergeP thr s tt next).mrk.getD v false=true:=by
 have key:(s.mrk.set tt true).getD v false=true:=by
  rw[getD_ext];split
  ·rfl
  ·exact h
 unfold mergeP;split
 ·exact key
 ·split
  ·exact key
  ·exact h
theorem mergeP_mok {thr:List Int}{s:PBS}{tt:Nat}{next:List PSpan}(hs:SOk n regs s) (hm:MOk n s) (hr:0<regs) (hn:next.length=regs):MOk n (mergeP thr s tt next):=by
 intro v hv h;have hli:=hs.li;have hlm:=hs.lm;have nne:next≠[]:=fun e=>by rw[e]at hn;simp at hn;omega
 unfold mergeP at h ⊢;by_cases h0:s.inn.getD tt []=[]
 ·rw[if_pos h0]at h ⊢;dsimp only at h ⊢;rw[getD_ext]at h ⊢;by_cases e:v=tt/\tt<s.inn.length
  ·rw[if_pos e];exact nne
  ·rw[if_neg e];rw[if_neg (by rw[hlm,<-hli];exact e)]at h;exact hm v hv h
 ·rw[if_neg h0]at h ⊢;by_cases hg:someB (s.inn.getD tt []) next=true
  ·rw[if_pos hg]at h ⊢;dsimp only at h ⊢;rw[getD_ext]at h ⊢;by_cases e:v=tt/\tt<s.inn.length
   ·rw[if_pos e];intro e2;have:(innNext thr (jnNext s tt) (s.inn.getD tt []) next).length=0:=by rw[e2];rfl
    unfold innNext at this;rw[List.length_map,List.length_range]at this;exact h0 (List.eq_nil_of_length_eq_zero this)
   ·rw[if_neg e];rw[if_neg (by rw[hlm,<-hli];exact e)]at h;exact hm v hv h
  ·rw[if_neg hg]at h ⊢;exact hm v hv h
theorem ways_mok (hn:n=f.code.length) (hr:0<regs) (H:∀ (a:Nat) (inn:List PSpan) (t:Int) (out:List PSpan),a<n->LOk regs inn->t∈nextP f a->wayP m f a t inn=some out->LOk regs out)
 {a:Nat} (ha:a<n) {inn:List PSpan} (hi:LOk regs inn):∀ (l:List Int) (s:PBS),(∀ t∈l,t∈nextP f a)->SOk n regs s->MOk n s->MOk n (l.foldl (wayS m f a inn) s)/\∀ v,s.mrk.getD v false=true->(l.foldl (wayS m f a inn) s).mrk.getD v false=true
 | [],s,_,_,hm=>⟨hm,fun _ h=>h⟩
 | t::l,s,hl,hs,hm=>by
  have ht:=hl t si;have hb:=nextP_in f a t ht;have h1:SOk n regs (wayS m f a inn s t)/\MOk n (wayS m f a inn s t)/\∀ v,s.mrk.getD v false=true->(wayS m f a inn s t).mrk.getD v false=true:=by
   unfold wayS;cases hw:wayP m f a t inn with
   | none=>exact⟨hs,hm,fun _ h=>h⟩
   | some out =>
    have ho:=H a inn t out ha hi ht hw;exact⟨mergeP_ok hs oz ho,mergeP_mok hs hm hr ho.1,fun _ h=>mergeP_mrk h⟩
  have h2:=ways_mok hn hr H ha hi l _ (fun t ht=>hl t (by simp[ht])) h1.1 h1.2.1;exact⟨h2.1,fun v hv=>h2.2 v (h1.2.2 v hv)⟩
theorem step_mok (hn:n=f.code.length) (hr:0<regs) (H:∀ (a:Nat) (inn:List PSpan) (t:Int) (out:List PSpan),a<n->LOk regs inn->t∈nextP f a->wayP m f a t inn=some out->LOk regs out)
 {a:Nat} (ha:a<n) {s:PBS} (hs:SOk n regs s) (hm:MOk n s):MOk n (stepS m f s a)/\∀ v,v≠a->s.mrk.getD v false=true->(stepS m f s a).mrk.getD v false=true:=by
 unfold stepS;by_cases h:s.mrk.getD a false=true
 ·rw[if_pos h];have hi:LOk regs (s.inn.getD a []):=(hs.inn a ha).resolve_left (hm a ha h);have h0:SOk n regs { s with mrk:=s.mrk.set a false }:=⟨hs.li,hs.lc,by simp[hs.lm],hs.lj,hs.inn,hs.chg⟩
  have hm0:MOk n { s with mrk:=s.mrk.set a false }:=fun v hv hq=>by
   dsimp only at hq ⊢;rw[getD_ext]at hq;split at hq
   ·cases hq
   ·exact hm v hv hq
  have h3:=ways_mok hn hr H ha hi (nextP f a) _ (fun t ht=>ht) h0 hm0;refine⟨h3.1,fun v hv hq=>h3.2 v ?_⟩;dsimp only;rw[getD_ext,if_neg (fun e=>hv e.1)];exact hq
 ·rw[if_neg h];exact⟨hm,fun _ _ hq=>hq⟩
/-- a part of a pass -/
theorem part_keep (hn:n=f.code.length) (hr:0<regs) (H:∀ (a:Nat) (inn:List PSpan) (t:Int) (out:List PSpan),a<n->LOk regs inn->t∈nextP f a->wayP m f a t inn=some out->LOk regs out) :
 ∀ (l:List Nat) (s:PBS),(∀ a∈l,a<n)->SOk n regs s->MOk n s->SOk n regs (l.foldl (stepS m f) s)/\MOk n (l.foldl (stepS m f) s)/\potT n regs (l.foldl (stepS m f) s)<=potT n regs s/\∀ a∈l,s.mrk.getD a false=true->potT n regs (l.foldl (stepS m f) s)<potT n regs s
 | [],s,_,hs,hm=>⟨hs,hm,Nat.le_refl _,fun a ha=>by simp at ha⟩
 | a::l,s,hl,hs,hm=>by
  have ha:=hl a si;obtain⟨k1,k2,k3⟩:=step_keep (m:=m) (f:=f) hn hr H ha hs (hm a ha);obtain⟨m1,m2⟩:=step_mok (m:=m) (f:=f) hn hr H ha hs hm;obtain⟨p1,p2,p3,p4⟩:=part_keep hn hr H l _ (fun b hb=>hl b (by simp[hb])) k1 m1;rw[List.foldl_cons];refine⟨p1,p2,Nat.le_trans p3 k2,fun b hb hq=>?_⟩;by_cases e:b=a
  ·subst e;exact Nat.lt_of_le_of_lt p3 (k3 hq)
  ·have hb2:b∈l:=by simpa[e]using hb
   exact Nat.lt_of_lt_of_le (p4 b hb2 (m2 b e hq)) k2
theorem pass_pot (hn:n=f.code.length) (hr:0<regs) (H:∀ (a:Nat) (inn:List PSpan) (t:Int) (out:List PSpan),a<n->LOk regs inn->t∈nextP f a->wayP m f a t inn=some out->LOk regs out)
 {s:PBS} (hs:SOk n regs s) (hm:MOk n s) (hc:s.mrk.contains true=true):SOk n regs (passS m f s)/\MOk n (passS m f s)/\potT n regs (passS m f s)<potT n regs s:=by
 obtain⟨p1,p2,p3,p4⟩:=part_keep hn hr H (List.range n) s (fun a ha=>List.mem_range.1 ha) hs hm;unfold passS;rw[<-hn];refine⟨p1,p2,?_⟩;rw[List.contains_iff_mem]at hc;obtain⟨a,ha⟩:=List.getElem?_of_mem hc;have hlt:a<s.mrk.length:=(List.getElem?_eq_some_iff.1 ha).1;have:=hs.lm;exact p4 a (List.mem_range.2 oz) (by rw[List.getD_eq_getElem?_getD,ha];rfl)
end
end
section
/-- spans that have come, and hold these numbers -/
def InH (r:List PSpan) (v:List Int):Prop:=r≠[]/\InL r v
theorem widen_lo (old next:PSpan) (thr:List Int) (h : -9223372036854775808<=(joinP old next).lo) (h2:(joinP old next).hi<=9223372036854775807):(widenP old next thr).lo<=(joinP old next).lo\/(widenP old next thr).lo=old.lo/\old.lo<=(joinP old next).lo:=by
 have key:∀ (l:List Int) (acc:Int),acc<=(joinP old next).lo->l.foldl (upTo (joinP old next).lo) acc<=(joinP old next).lo:=fun l=>by
  induction l with
  | nil=>intro acc h;exact h
  | cons t l ih=>intro acc h;rw[List.foldl_cons];refine ih _ ?_;unfold upTo;split<;>omega
 unfold widenP;dsimp only;split
 ·exact .inl (key _ _ h)
 ·exact .inr ⟨rfl,oz⟩
theorem widen_hi (old next:PSpan) (thr:List Int) (h2:(joinP old next).hi<=9223372036854775807):(joinP old next).hi<=(widenP old next thr).hi\/(widenP old next thr).hi=old.hi/\(joinP old next).hi<=old.hi:=by
 have key:∀ (l:List Int) (acc:Int),(joinP old next).hi<=acc->(joinP old next).hi<=l.foldl (onFrom (joinP old next).hi) acc:=fun l=>by
  induction l with
  | nil=>intro acc h;exact h
  | cons t l ih=>intro acc h;rw[List.foldl_cons];refine ih _ ?_;unfold onFrom;split<;>omega
 unfold widenP;dsimp only;split
 ·exact .inl (key _ _ h2)
 ·exact .inr ⟨rfl,oz⟩
theorem InS.widen {old next:PSpan}{n:Int}(thr:List Int) (ho:SpOk old) (hn:SpOk next) (h:InS (joinP old next) n):InS (widenP old next thr) n:=by
 have h1:=ho.1;have h2:=ho.2.1;have h3:=hn.1;have h4:=hn.2.1;have h5:=ho.2.2;have h6:=hn.2.2;unfold In64 at *;have e:joinP old next=⟨min old.lo next.lo,max old.hi next.hi⟩:=by unfold joinP;rw[if_neg (by omega),if_neg (by omega)]
 have a:=widen_lo old next thr (by rw[e];dsimp only;omega) (by rw[e];dsimp only;omega)
 have b:=widen_hi old next thr (by rw[e];dsimp only;omega)
 rw[e]at a b h;unfold InS at *;dsimp only at *;omega
theorem mergeOne_in {old next:PSpan}{n:Int}(thr:List Int) (j:Int) (ho:SpOk old) (hn:SpOk next) (h:InS (joinP old next) n):InS (mergeOne thr j old next) n:=by
 unfold mergeOne;split
 ·exact h.widen thr ho hn
 ·exact h
theorem rangeD {α:Type}(n:Nat) (F:Nat->α) (d:α) {i:Nat}(hi:i<n):((List.range n).map F).getD i d=F i:=by
 rw[List.getD_eq_getElem?_getD,List.getElem?_map,List.getElem?_range hi];rfl
section
variable {n regs : Nat} {s : PBS} {tt : Nat} {next : List PSpan} {thr : List Int}
theorem innNext_in {j:Int}{old:List PSpan}{v:List Int}(ho:LOk regs old) (hn:LOk regs next) (h:InL old v\/InL next v):InL (innNext thr j old next) v:=by
 have hl:v.length=regs:=by rcases h with h|h;exact h.1.trans ho.1;exact h.1.trans hn.1
 refine⟨by simp[innNext,ho.1,hl],fun i hi=>?_⟩;have hi':i<old.length:=by simpa[innNext]using hi
 unfold innNext;rw[rangeD _ _ _ hi'];have hr:i<regs:=by rw[<-ho.1];exact hi'
 refine mergeOne_in thr j (ho.2 i hr) (hn.2 i hr) ?_;rcases h with h|h
 ·exact(h.2 i hi').join1
 ·exact(h.2 i (by rw[hn.1];exact hr)).join2
/-- nothing that stood is lost -/
theorem merge_mono (h:SOk n regs s) (htt:tt<n) (hx:LOk regs next) {k:Nat}{v:List Int}(hv:InH (s.inn.getD k []) v):InH ((mergeP thr s tt next).inn.getD k []) v:=by
 by_cases e:k=tt
 ·subst e;have ho:LOk regs (s.inn.getD k []):=(h.inn k htt).resolve_left hv.1;unfold mergeP;rw[if_neg hv.1];split
  ·dsimp only;rw[getD_set _ _ _ _ _ (by rw[h.li];exact htt),if_pos rfl];refine⟨fun e=>hv.1 ?_,innNext_in ho hx (.inl hv.2)⟩;have:(innNext thr (jnNext s k) (s.inn.getD k []) next).length=0:=by rw[e];rfl
   unfold innNext at this;simp at this;exact this
  ·exact hv
 ·rw[(show(mergeP thr s tt next).inn.getD k []=s.inn.getD k []from by
   unfold mergeP;split
   ·dsimp only;rw[getD_set _ _ _ _ _ (by rw[h.li];exact htt),if_neg e]
   ·split
    ·dsimp only;rw[getD_set _ _ _ _ _ (by rw[h.li];exact htt),if_neg e]
    ·rfl)]
  exact hv
/-- what comes stands -/
theorem merge_cover (h:SOk n regs s) (htt:tt<n) (hr:0<regs) (hx:LOk regs next) {v:List Int}(hv:InL next v):InH ((mergeP thr s tt next).inn.getD tt []) v:=by
 have hne:∀ l:List PSpan,l.length=regs->l≠[]:=fun l hl e=>by rw[e]at hl;simp at hl;omega
 unfold mergeP;split
 ·dsimp only;rw[getD_set _ _ _ _ _ (by rw[h.li];exact htt),if_pos rfl];exact⟨hne _ hx.1,hv⟩
 ·rename_i h0;have ho:LOk regs (s.inn.getD tt []):=(h.inn tt htt).resolve_left h0;split
  ·dsimp only;rw[getD_set _ _ _ _ _ (by rw[h.li];exact htt),if_pos rfl];exact⟨hne _ (by unfold innNext;rw[List.length_map,List.length_range];exact ho.1),innNext_in ho hx (.inr hv)⟩
  ·rename_i hs;refine⟨h0,hv.1.trans (hx.1.trans ho.1.symm),fun i hi=>?_⟩;have hg:growB ((s.inn.getD tt []).getD i default) (next.getD i default)=false:=by
    cases hg:growB ((s.inn.getD tt []).getD i default) (next.getD i default)with
    | false=>rfl
    | true=>exact absurd (List.any_eq_true.2 ⟨i,List.mem_range.2 hi,hg⟩) hs
   have hj:InS (joinP ((s.inn.getD tt []).getD i default) (next.getD i default)) (v.getD i 0):=(hv.2 i (by rw[hx.1,<-ho.1];exact hi)).join2;unfold growB eqP at hg;simp only[Bool.not_eq_false',Bool.and_eq_true,decide_eq_true_eq]at hg;unfold InS at *;omega
theorem merge_mrk (h:SOk n regs s) (htt:tt<n) {k:Nat}(hk:(mergeP thr s tt next).mrk.getD k false=false):s.mrk.getD k false=false/\(mergeP thr s tt next).inn.getD k []=s.inn.getD k []:=by
 unfold mergeP at *;split at hk
 ·dsimp only at hk ⊢;rw[getD_set _ _ _ _ _ (by rw[h.lm];exact htt)]at hk;rw[if_pos ‹_›];dsimp only;rw[getD_set _ _ _ _ _ (by rw[h.li];exact htt)];split at hk
  ·cases hk
  ·rename_i e;rw[if_neg e];exact⟨hk,rfl⟩
 ·rw[if_neg ‹_›];split at hk
  ·dsimp only at hk;rw[getD_set _ _ _ _ _ (by rw[h.lm];exact htt)]at hk;rw[if_pos ‹_›];dsimp only;rw[getD_set _ _ _ _ _ (by rw[h.li];exact htt)];split at hk
   ·cases hk
   ·rename_i e;rw[if_neg e];exact⟨hk,rfl⟩
  ·rw[if_neg ‹_›];exact⟨hk,rfl⟩
end
/-- all that goes out from an instruction stands where it leads -/
def CovA (m:PMod) (f:PFunc) (s:PBS) (k:Nat) (ts:List Int):Prop:=s.inn.getD k []≠[]->∀ t∈ts,∀ out,wayP m f k t (s.inn.getD k [])=some out->∀ v,InL out v->InH (s.inn.getD t.toNat []) v
section
variable {m : PMod} {f : PFunc} {n regs : Nat}
theorem way_fold (hr:0<regs) (hn:n=f.code.length) (H:∀ (a:Nat) (inn:List PSpan) (t:Int) (out:List PSpan),a<n->LOk regs inn->t∈nextP f a->wayP m f a t inn=some out->LOk regs out) {a:Nat}(ha:a<n) {inn:List PSpan}(hi:LOk regs inn) :
 ∀ (ts ds:List Int) (s:PBS),(∀ t∈ts,t∈nextP f a)->SOk n regs s->(∀ k,k<n->k≠a->s.mrk.getD k false=false->CovA m f s k (nextP f k)) ->
  (s.mrk.getD a false=false->s.inn.getD a []=inn/\CovA m f s a ds) ->
  SOk n regs (ts.foldl (wayS m f a inn) s)/\(∀ k v,InH (s.inn.getD k []) v->InH ((ts.foldl (wayS m f a inn) s).inn.getD k []) v) /\
   (∀ k,k<n->k≠a->(ts.foldl (wayS m f a inn) s).mrk.getD k false=false->CovA m f (ts.foldl (wayS m f a inn) s) k (nextP f k)) /\
   ((ts.foldl (wayS m f a inn) s).mrk.getD a false=false->(ts.foldl (wayS m f a inn) s).inn.getD a []=inn/\CovA m f (ts.foldl (wayS m f a inn) s) a (ds++ts)):=by
 intro ts
 induction ts with
 | nil=>intro ds s _ hs h1 h2;exact⟨hs,fun k v h=>h,h1,fun h=>by rw[List.append_nil];exact h2 h⟩
 | cons t ts ih =>
  intro ds s ht hs h1 h2;rw[List.foldl_cons];have htm:=ht t si;have htn:=nextP_in f a t htm;have htt:t.toNat<n:=oz
  have step:SOk n regs (wayS m f a inn s t)/\(∀ k v,InH (s.inn.getD k []) v->InH ((wayS m f a inn s t).inn.getD k []) v) /\
   (∀ k,k<n->k≠a->(wayS m f a inn s t).mrk.getD k false=false->CovA m f (wayS m f a inn s t) k (nextP f k)) /\
   ((wayS m f a inn s t).mrk.getD a false=false->(wayS m f a inn s t).inn.getD a []=inn/\CovA m f (wayS m f a inn s t) a (ds++[t])):=by
   unfold wayS;cases hw:wayP m f a t inn with
   | none =>
    dsimp only;refine⟨hs,fun k v h=>h,h1,fun h=>⟨(h2 h).1,fun hne t' ht' out ho v hv=>?_⟩⟩;rcases List.mem_append.1 ht' with h3|h3
    ·exact(h2 h).2 hne t' h3 out ho v hv
    ·rw[List.mem_singleton]at h3;subst h3;rw[(h2 h).1,hw]at ho;cases ho
   | some out =>
    dsimp only;have hok:=H a inn t out ha hi htm hw;refine⟨mergeP_ok hs htt hok,fun k v h=>merge_mono hs htt hok h,fun k hk hka hm=>?_,fun hm=>?_⟩
    ·obtain⟨m1,m2⟩:=merge_mrk hs htt hm;intro hne t' ht' o ho v hv;rw[m2]at hne ho;exact merge_mono hs htt hok (h1 k hk hka m1 hne t' ht' o ho v hv)
    ·obtain⟨m1,m2⟩:=merge_mrk hs htt hm;refine⟨m2.trans (h2 m1).1,?_⟩;intro hne t' ht' o ho v hv;rw[m2]at hne ho;rcases List.mem_append.1 ht' with h3|h3
     ·exact merge_mono hs htt hok ((h2 m1).2 hne t' h3 o ho v hv)
     ·rw[List.mem_singleton]at h3;subst h3;rw[(h2 m1).1,hw]at ho;cases ho;exact merge_cover hs htt hr hok hv
  obtain⟨s1,s2,s3,s4⟩:=step;obtain⟨i1,i2,i3,i4⟩:=ih (ds++[t]) _ (fun t' h=>ht t' (List.mem_cons_of_mem _ h)) s1 s3 s4;refine⟨i1,fun k v h=>i2 k v (s2 k v h),i3,fun h=>?_⟩;have:=i4 h;rw[List.append_assoc]at this;exact this
def ClosD (m:PMod) (f:PFunc) (n:Nat) (s:PBS):Prop:=∀ k,k<n->s.mrk.getD k false=false->CovA m f s k (nextP f k)
theorem step_clos (hr:0<regs) (hn:n=f.code.length) (H:∀ (a:Nat) (inn:List PSpan) (t:Int) (out:List PSpan),a<n->LOk regs inn->t∈nextP f a->wayP m f a t inn=some out->LOk regs out) {a:Nat}(ha:a<n) {s:PBS}(hs:SOk n regs s) (hm:MOk n s) (hc:ClosD m f n s) :
 SOk n regs (stepS m f s a)/\MOk n (stepS m f s a)/\(∀ k v,InH (s.inn.getD k []) v->InH ((stepS m f s a).inn.getD k []) v)/\ClosD m f n (stepS m f s a):=by
 have hmk:=(step_mok hn hr H ha hs hm).1;refine⟨?_,hmk,?_⟩
 all_goals unfold stepS
 all_goals split
 all_goals first
  | exact hs
  | exact⟨fun k v h=>h,hc⟩
  | skip
 all_goals
  rename_i hma;have h0:LOk regs (s.inn.getD a []):=(hs.inn a ha).resolve_left (hm a ha hma);have hs1:SOk n regs { s with mrk:=s.mrk.set a false }:=⟨hs.li,hs.lc,by simp[hs.lm],hs.lj,hs.inn,hs.chg⟩
  have h1:∀ k,k<n->k≠a->({ s with mrk:=s.mrk.set a false }:PBS).mrk.getD k false=false->CovA m f { s with mrk:=s.mrk.set a false } k (nextP f k):=fun k hk hka hm=>by
   dsimp only at hm;rw[getD_set _ _ _ _ _ (by rw[hs.lm];exact ha),if_neg hka]at hm;exact hc k hk hm
  have h2:=way_fold hr hn H ha h0 (nextP f a) [] _ (fun t h=>h) hs1 h1 (fun _=>⟨rfl,fun _ t ht=>by simp at ht⟩)
 ·exact h2.1
 ·refine⟨h2.2.1,fun k hk hm=>?_⟩;by_cases e:k=a
  ·subst e;have:=(h2.2.2.2 hm).2;rw[List.nil_append]at this;exact this
  ·exact h2.2.2.1 k hk e hm
theorem runs_clos (hr:0<regs) (hn:n=f.code.length) (H:∀ (a:Nat) (inn:List PSpan) (t:Int) (out:List PSpan),a<n->LOk regs inn->t∈nextP f a->wayP m f a t inn=some out->LOk regs out) {s t:PBS}(hrs:RunsS m f s t) (hs:SOk n regs s) (hm:MOk n s) (hc:ClosD m f n s) :
 (∀ k v,InH (s.inn.getD k []) v->InH (t.inn.getD k []) v)/\SOk n regs t/\∀ k,k<n->CovA m f t k (nextP f k):=by
 induction hrs with
 | stop s hst =>
  refine⟨fun k v h=>h,hs,fun k hk=>hc k hk ?_⟩;cases e:s.mrk.getD k false with
  | false=>rfl
  | true =>
   rw[List.getD_eq_getElem?_getD,List.getElem?_eq_getElem (by rw[hs.lm];exact hk)]at e;have h9:s.mrk[k]'(by rw[hs.lm];exact hk)=true:=e;rw[List.contains_iff_mem.2 (h9▸List.getElem_mem (by rw[hs.lm];exact hk))]at hst;cases hst
 | pass s t _ _ ih =>
  have key:∀ (l:List Nat) (q:PBS),(∀ a∈l,a<n)->SOk n regs q->MOk n q->ClosD m f n q->SOk n regs (l.foldl (stepS m f) q)/\MOk n (l.foldl (stepS m f) q)/\(∀ k v,InH (q.inn.getD k []) v->InH ((l.foldl (stepS m f) q).inn.getD k []) v)/\ClosD m f n (l.foldl (stepS m f) q):=fun l=>by
   induction l with
   | nil=>intro q _ h1 h2 h3;exact⟨h1,h2,fun k v h=>h,h3⟩
   | cons a l ihl =>
    intro q ha h1 h2 h3;obtain⟨a1,a2,a3,a4⟩:=step_clos hr hn H (ha a si) h1 h2 h3;obtain⟨b1,b2,b3,b4⟩:=ihl _ (fun b hb=>ha b (List.mem_cons_of_mem _ hb)) a1 a2 a4;exact⟨b1,b2,fun k v h=>b3 k v (a3 k v h),b4⟩
  obtain⟨p1,p2,p3,p4⟩:=key (List.range f.code.length) s (fun a ha=>by rw[hn];exact List.mem_range.1 ha) hs hm hc;obtain⟨q1,q2,q3⟩:=ih p1 p2 p4;exact⟨fun k v h=>q1 k v (p3 k v h),q2,q3⟩
end
end
end Go.Proofs.YteebpnbdihcfmaaGreatDoor
namespace Go.Proofs.YteebpnbdihcfmaaGreatDoor
open Go.RowKit
open Go.Maps (Keyed)
def rawR (v:Value):Option (DataW Value×List MemPlace):=some (.held v,[])
theorem rawR_inv {v u:Value}{ps:List MemPlace}(h:rawR v=some (.held u,ps)):v=u:=DataW.held.inj (Prod.mk.inj (Option.some.inj h)).1
def keyI (i:Int):Lit:=.int .i64 i
def inI (i:Int):Prop := -9223372036854775808<=i/\i<=9223372036854775807
theorem keyed_int:Keyed Tryz.prog 3:=Maps.int_keyed Tryz.underlying3
theorem key_int {i:Int}(h:inI i):keyOf Tryz.prog 3 (.int .i64 i)=some (keyI i):=Maps.keyOf_int_mk Tryz.underlying3 (WalkArith.wf_i64 h)
theorem keyI_ne {i j:Int}(h:i≠j):keyI i≠keyI j:=fun e=>h (by unfold keyI at e;injection e)
theorem keyI_lit (i:Int):WideAt.IsKeyLit (keyI i):=trivial
theorem keyI_same (i j:Int):(keyI i).sameKey (keyI j)=decide (i=j):=by
 by_cases h:i=j
 ·subst h;rw[WideAt.sameKey_self (keyI_lit i)];simp
 ·rw[Maps.sameKey_ne (keyI_ne h)];simp[h]
/-- what a datum says of a map -/
def Reads (D:DataW Value) (M:Int->Option Value):Prop:=∀ i,inI i->(∀ z,D.atKey (keyI i) (.held z)=.held ((M i).getD z))/\Maps.has D (keyI i)=(M i).isSome
/-- block b is a map of at most n entries that holds M -/
def MapAt (W:World) (b n:Nat) (M:Int->Option Value):Prop:=∃ D:DataW Value,W.ownsMap Tryz.prog 3 rawR b n D/\Reads D M
def updM (M:Int->Option Value) (i:Int) (v:Value):Int->Option Value:=fun k=>if k=i then some v else M k
theorem Reads.put {D:DataW Value}{M:Int->Option Value}(h:Reads D M) (hD:Maps.IsMap D) (i:Int) (v:Value):Reads (D.put (keyI i) (.held v)) (updM M i v):=by
 intro k hk;by_cases e:k=i
 ·subst e;refine⟨fun z=>?_,?_⟩
  ·rw[Maps.atKey_put_same hD (keyI_lit k)];simp[updM]
  ·rw[Maps.has_put_same hD (keyI_lit k)];simp[updM]
 ·refine⟨fun z=>?_,?_⟩
  ·rw[Maps.atKey_put_other (keyI_ne e),(h k hk).1 z];simp[updM,e]
  ·rw[Maps.has_put_other (keyI_ne e),(h k hk).2];simp[updM,e]
section
variable {W W' : World} {b n : Nat} {M : Int -> Option Value} {t e : TypeId} {z : Value}
theorem MapAt.lt (h:MapAt W b n M):b<W.heap.size:=by obtain⟨D,h1,_⟩:=h;exact h1.lt
theorem MapAt.made (W:World):MapAt (W.alloc (.map #[] 0)) W.heap.size 0 (fun _=>none) :=
 ⟨.map [],World.ownsMap_made _ _ _ _,fun i _=>⟨fun z=>rfl,rfl⟩⟩
theorem MapAt.mono (h:MapAt W b n M) {m:Nat}(hm:n<=m):MapAt W b m M:=by obtain⟨D,h1,h2⟩:=h;exact⟨D,h1.mono hm,h2⟩
theorem MapAt.keep (h:MapAt W b n M) (hb:W'.heap[b]? = W.heap[b]?):MapAt W' b n M:=by
 obtain⟨D,⟨es,clock,h1,F,hs,hD⟩,h2⟩:=h;exact⟨D,⟨es,clock,hb.trans h1,F,hs,hD⟩,h2⟩
theorem MapAt.below (h:MapAt W b n M) (hb:Below W.heap.size W W'):MapAt W' b n M:=h.keep (hb.block b h.lt)
theorem MapAt.chg {S:Nat->Prop}(h:MapAt W b n M) (hc:Chg S W W') (hs:¬S b):MapAt W' b n M:=h.keep (hc.block b h.lt hs)
theorem MapAt.get (h:MapAt W b n M) (ht:Tryz.prog.underlying t=some (.map 3 e)) (hz:∀ w,(zeroValue e).run Tryz.prog w=.ok z w) {i:Int}(hi:inI i) :
 (Instr.lookup t (.map (some b)) (.int .i64 i) false).run Tryz.prog W=.ok ((M i).getD z) W:=by
 obtain⟨D,h1,h2⟩:=h;obtain⟨v,ps,hr,hv⟩:=h1.lookup keyed_int ht (hz W) (R:=rawR) (z:=z) (zd:=.held z) (zp:=[]) rfl (key_int hi);rw[(h2 i hi).1 z]at hv;rw[hr,rawR_inv hv]
theorem MapAt.getOk (h:MapAt W b n M) (ht:Tryz.prog.underlying t=some (.map 3 e)) (hz:∀ w,(zeroValue e).run Tryz.prog w=.ok z w) {i:Int}(hi:inI i) :
 (Instr.lookup t (.map (some b)) (.int .i64 i) true).run Tryz.prog W=.ok (.tuple #[(M i).getD z,.bool (M i).isSome]) W:=by
 obtain⟨D,h1,h2⟩:=h;obtain⟨v,ps,hr,hv⟩:=h1.look_ok keyed_int ht (hz W) (R:=rawR) (z:=z) (zd:=.held z) (zp:=[]) rfl (key_int hi);rw[(h2 i hi).1 z]at hv;rw[hr,rawR_inv hv,(h2 i hi).2]
theorem MapAt.set (h:MapAt W b n M) (ht:Tryz.prog.underlying t=some (.map 3 e)) (hn:n<maxLen) {i:Int}(hi:inI i) (v:Value) :
 ∃ W',(Instr.mapUpdate t (.map (some b)) (.int .i64 i) v).run Tryz.prog W=.ok () W'/\MapAt W' b (n+1) (updM M i v)/\Chg (· = b) W W':=by
 obtain⟨D,h1,h2⟩:=h;obtain⟨W',hr,h3,hg⟩:=h1.update (R:=rawR) keyed_int ht hn (key_int hi) (val:=v) (d:=.held v) (ps:=[]) rfl;exact⟨W',hr,⟨_,h3,h2.put h1.isMap i v⟩,(chg_grown hg).mono (fun k _ e=>(Option.some.inj e).symm)⟩
theorem MapAt.uniq {n':Nat}{M':Int->Option Value}(h:MapAt W b n M) (h':MapAt W b n' M') {i:Int}(hi:inI i):M i=M' i:=by
 obtain⟨D,⟨es,clock,h1,F,hs,hD⟩,h2⟩:=h;obtain⟨D',⟨es',clock',h1',F',hs',hD'⟩,h2'⟩:=h';rw[h1]at h1';injection h1' with h1';injection h1' with e1 e2;subst e1;rw[<-hD]at hD';subst hD';have k1:=(h2 i hi).2;have k2:=(h2' i hi).2;have k3:=(h2 i hi).1 .nilFunc;rw[(h2' i hi).1 .nilFunc]at k3;injection k3 with k3;cases hm:M i with
 | none=>cases hm':M' i with
  | none=>rfl
  | some v=>rw[hm]at k1;rw[hm']at k2;rw[k1]at k2;cases k2
 | some v=>cases hm':M' i with
  | none=>rw[hm]at k1;rw[hm']at k2;rw[k1]at k2;cases k2
  | some v'=>rw[hm,hm']at k3;exact congrArg some k3.symm
/-- a range over a map under way: those of whom left says so are still to come -/
def MapRange (W:World) (b r n:Nat) (M:Int->Option Value) (left:Int->Bool) (cnt:Nat):Prop :=
 ∃ (D:DataW Value) (L:Lit->Bool),W.ranges Tryz.prog 3 rawR b r n D L cnt/\Reads D M/\(∀ i,inI i->L (keyI i)=left i)/\(∀ i,¬inI i->left i=false)
theorem MapRange.owns {r cnt:Nat}{left:Int->Bool}(h:MapRange W b r n M left cnt):MapAt W b n M:=by obtain⟨D,L,h1,h2,_⟩:=h;exact⟨D,h1.owns,h2⟩
theorem MapRange.lt {r cnt:Nat}{left:Int->Bool}(h:MapRange W b r n M left cnt):r<W.heap.size/\r≠b:=by obtain⟨D,L,h1,h2,_⟩:=h;exact⟨h1.lt,h1.ne⟩
theorem MapRange.keep {r cnt:Nat}{left:Int->Bool}(h:MapRange W b r n M left cnt) (hb:W'.heap[b]? = W.heap[b]?) (hr:W'.heap[r]? = W.heap[r]?):MapRange W' b r n M left cnt:=by
 obtain⟨D,L,⟨es,clock,since,seen,c0,h1,F,hs,hD,h2,rest⟩,h3⟩:=h;exact⟨D,L,⟨es,clock,since,seen,c0,hb.trans h1,F,hs,hD,hr.trans h2,rest⟩,h3⟩
theorem MapAt.range (h:MapAt W b n M) (ht:Tryz.prog.underlying t=some (.map 3 e)) (hM:∀ i,¬inI i->M i=none) :
 ∃ W' cnt,(Instr.range t (.map (some b))).run Tryz.prog W=.ok (.pointer (some ⟨W.heap.size,0,none⟩)) W'/\MapRange W' b W.heap.size n M (fun i=>(M i).isSome) cnt/\Below W.heap.size W W'/\W'.heap.size=W.heap.size+1/\cnt<=n:=by
 obtain⟨D,h1,h2⟩:=h;obtain⟨W',hr,h3,hg,hs⟩:=h1.range keyed_int ht;exact⟨W',_,hr,⟨D,_,h3,h2,fun i hi=>(h2 i hi).2,fun i hi=>by simp[hM i hi]⟩,⟨hg.os,hg.tape,hg.output,hg.size,fun k hk=>hg.block k hk si⟩,hs,h1.size_le⟩
theorem MapRange.next {r cnt:Nat}{left:Int->Bool}(h:MapRange W b r n M left cnt) (ty:TypeId) :
 ((∀ i,left i=false)/\(Instr.next (.pointer (some ⟨r,0,none⟩)) false ty).run Tryz.prog W=.ok (.tuple #[.bool false]) W) \/
 ∃ i v W' cnt',inI i/\left i=true/\M i=some v/\(Instr.next (.pointer (some ⟨r,0,none⟩)) false ty).run Tryz.prog W=.ok (.tuple #[.bool true,.int .i64 i,v]) W'/\MapRange W' b r n M (fun k=>left k&&decide (k≠i)) cnt'/\cnt'<cnt /\
  Chg (· = r) W W'/\W'.heap.size=W.heap.size/\(Instr.entry (.pointer (some ⟨r,0,none⟩))).run Tryz.prog W'=.ok (.tuple #[.int .i64 i,v]) W':=by
 obtain⟨D,L,h1,h2,h3,h4⟩:=h;rcases h1.next keyed_int ty with⟨_,hl,hr⟩|⟨key,v,kl,y,W',cnt',hk,hL,hy,hat,hr,hrg,hlt,hg,hsz,hen⟩
 ·refine .inl ⟨fun i=>?_,hr⟩;by_cases hi:inI i
  ·rw[<-h3 i hi];exact hl _
  ·exact h4 i hi
 ·obtain⟨i,rfl,rfl,hw⟩:=Maps.keyOf_int_inv Tryz.underlying3 hk;have hi:inI i:=by
   have:=hw;simp[Lit.wf,IntKind.min,IntKind.max,IntKind.signed,IntKind.bits]at this;unfold inI;omega
  unfold rawR at hy;injection hy with hy;subst hy;dsimp only at hat;have hM:M i=some v:=by
   have k1:=(h2 i hi).1;have k2:=(h2 i hi).2;have e1:∀ z,(M i).getD z=v:=fun z=>by
    have:=(k1 z).symm.trans (hat (.held z));injection this
   cases hm:M i with
   | none =>
    have q1:=e1 (.bool true);have q2:=e1 (.bool false);rw[hm]at q1 q2;have q3:Value.bool true=Value.bool false:=q1.trans q2.symm;cases q3
   | some u=>have:=e1 v;rw[hm]at this;simpa using this
  have hne:∀ k,inI k->(fun x=>L x && !x.sameKey (keyI i)) (keyI k)=(left k&&decide (k≠i)):=fun k hk=>by
   dsimp only;rw[h3 k hk,keyI_same];simp
  refine .inr ⟨i,v,W',cnt',hi,by rw[<-h3 i hi];exact hL,hM,hr,⟨D,_,hrg,h2,hne,fun k hk=>by simp[h4 k hk]⟩,hlt,(chg_grown hg).mono (fun k _ e=>(Option.some.inj e).symm),hsz,hen⟩
end
end Go.Proofs.YteebpnbdihcfmaaGreatDoor
namespace Go.Proofs.YteebpnbdihcfmaaGreatDoor
open Go.RowKit
def toI (l:List Nat):List Int:=l.map Int.ofNat
/-- an order of all that can be reached -/
structure OrderOk (f:PFunc) (l:List Nat):Prop where
 nodup:l.Nodup
 mem:∀ v:Nat,v∈l↔Rch f v
 head:l.head? = some 0
 pred:∀ (p:List Nat) (v:Nat) (q:List Nat),l=p++v::q->v≠0->∃ u,(v:Int)∈nextP f u/\u∈p
structure DInv (f:PFunc) (been:List Bool) (out:List Nat) (st:List (Nat×Nat)):Prop where
 len:been.length=f.code.length
 nodup:(st.map Prod.fst++out).Nodup
 bn:∀ v:Nat,been[v]? = some true↔v∈st.map Prod.fst++out
 rch:∀ v:Nat,v∈st.map Prod.fst++out->Rch f v
 way:∀ p∈st,p.2<=(nextP f p.1).length/\∀ (i:Nat) (x:Int),i<p.2->(nextP f p.1)[i]? = some x->x.toNat∈st.map Prod.fst++out
 full:∀ v∈out,∀ x∈nextP f v,x.toNat∈st.map Prod.fst++out
 adj:∀ (p:List (Nat×Nat)) (x y:Nat×Nat) (q:List (Nat×Nat)),st=p++x::y::q->(y.1:Int)∈nextP f x.1
 ot:∀ (p:List Nat) (v:Nat) (q:List Nat),out=p++v::q->v≠0->∃ u,(v:Int)∈nextP f u/\(u∈q\/u∈st.map Prod.fst)
 bot:st=[]/\out.getLast? = some 0\/∃ w q,st=(0,w)::q
theorem DInv.lt {f:PFunc}{been:List Bool}{out:List Nat}{st:List (Nat×Nat)}(h:DInv f been out st) {v:Nat}(hv:v∈st.map Prod.fst++out):v<f.code.length:=by
 have:=(h.bn v).2 hv;rw[<-h.len];exact(List.getElem?_eq_some_iff.1 this).1
theorem DInv.start (f:PFunc) (h0:0<f.code.length):DInv f ((List.replicate f.code.length false).set 0 true) [] [(0,0)]:=by
 refine⟨si,si,fun v=>?_,fun v hv=>?_,fun p hp=>?_,si,?_,si,.inr ⟨0,[],rfl⟩⟩
 ·by_cases e:v=0
  ·subst e;simp[h0]
  ·rw[List.getElem?_set_ne (by omega)];constructor
   ·intro k;simp[List.getElem?_replicate]at k
   ·intro k;simp at k;omega
 ·simp at hv;subst hv;exact .zero
 ·simp at hp;subst hp;simp
 ·intro p x y q e;have:=congrArg List.length e;simp at this;omega
/-- the top is done -/
theorem DInv.finish {f:PFunc}{been:List Bool}{out:List Nat}{st:List (Nat×Nat)}{a w:Nat}(h:DInv f been out (st++[(a,w)])) (hw:w=(nextP f a).length):DInv f been (out++[a]) st:=by
 have hm:∀ v,v∈(st++[(a,w)]).map Prod.fst++out↔v∈st.map Prod.fst++(out++[a]):=by
  intro v;simp only[List.map_append,List.map_cons,List.map_nil,List.mem_append,List.mem_cons,List.not_mem_nil,or_false];grind
 refine⟨h.len,?_,fun v=>(h.bn v).trans (hm v),fun v hv=>h.rch v ((hm v).2 hv),fun p hp=>?_,fun v hv x hx=>?_,?_,?_,?_⟩
 ·have:=h.nodup;simp only[List.map_append,List.map_cons,List.map_nil]at this;refine(List.Perm.nodup_iff ?_).1 this;rw[List.append_assoc];exact List.Perm.append_left _ List.perm_append_comm
 ·have:=h.way p (by simp[hp]);exact⟨this.1,fun i x hi hx=>(hm _).1 (this.2 i x hi hx)⟩
 ·rcases List.mem_append.1 hv with k|k
  ·exact(hm _).1 (h.full v k x hx)
  ·simp at k;subst k;have:=h.way (v,w) si;obtain⟨i,hi,he⟩:=List.getElem_of_mem hx;exact(hm _).1 (this.2 i x (by dsimp only;omega) (by rw[<-he,List.getElem?_eq_getElem hi]))
 ·intro p x y q e;exact h.adj p x y (q++[(a,w)]) (by rw[e];simp)
 ·intro p v q e hv;rcases List.eq_nil_or_concat q with rfl|⟨q',z,rfl⟩
  ·obtain⟨rfl,e2⟩:=List.append_inj' e rfl;simp at e2;subst e2;rcases List.eq_nil_or_concat st with rfl|⟨s',b,rfl⟩
   ·rcases h.bot with⟨k,_⟩|⟨w',q',k⟩
    ·simp at k
    ·simp at k;exact absurd k.1.1 hv
   ·refine⟨b.1,h.adj s' b (a,w) [] si,.inr si⟩
  ·rw[List.concat_eq_append]at e;have e':out++[a]=(p++v::q')++[z]:=by rw[e];simp
   obtain⟨e1,e2⟩:=List.append_inj' e' rfl;simp at e2;subst e2;obtain⟨u,h1,h2⟩:=h.ot p v q' e1 hv;refine⟨u,h1,?_⟩;rw[List.concat_eq_append];simp only[List.map_append,List.map_cons,List.map_nil,List.mem_append,List.mem_cons,List.not_mem_nil,or_false]at h2 ⊢
   grind
 ·rcases st with _|⟨s,st⟩
  ·left;refine⟨rfl,?_⟩;rcases h.bot with⟨k,_⟩|⟨w',q',k⟩
   ·simp at k
   ·simp at k;simp[k.1.1]
  ·right;rcases h.bot with⟨k,_⟩|⟨w',q',k⟩
   ·simp at k
   ·simp at k;exact⟨w',st,by rw[k.1]⟩
/-- the top looks at its next way, which leads to one that has been met -/
theorem DInv.look {f:PFunc}{been:List Bool}{out:List Nat}{st:List (Nat×Nat)}{a w:Nat}(h:DInv f been out (st++[(a,w)])) {x:Int}(hx:(nextP f a)[w]? = some x) (hb:been[x.toNat]? = some true):DInv f been out (st++[(a,w+1)]):=by
 have hm:∀ v,v∈(st++[(a,w)]).map Prod.fst++out↔v∈(st++[(a,w+1)]).map Prod.fst++out:=by intro v;simp
 have hwl:w<(nextP f a).length:=(List.getElem?_eq_some_iff.1 hx).1;refine⟨h.len,by simpa using h.nodup,fun v=>(h.bn v).trans (hm v),fun v hv=>h.rch v ((hm v).2 hv),fun p hp=>?_,fun v hv y hy=>(hm _).1 (h.full v hv y hy),?_,?_,?_⟩
 ·rcases List.mem_append.1 hp with k|k
  ·have:=h.way p (by simp[k]);exact⟨this.1,fun i y hi hy=>(hm _).1 (this.2 i y hi hy)⟩
  ·simp at k;subst k;refine⟨hwl,fun i y hi hy=>?_⟩;by_cases e:i=w
   ·subst e;rw[hx]at hy;injection hy with hy;subst hy;exact(hm _).1 ((h.bn _).1 hb)
   ·exact(hm _).1 ((h.way (a,w) si).2 i y (by dsimp only at hi ⊢;omega) hy)
 ·intro p y z q e;rcases List.eq_nil_or_concat q with rfl|⟨q',t,rfl⟩
  ·have e':st++[(a,w+1)]=(p++[y])++[z]:=by rw[e];simp
   obtain⟨e1,e2⟩:=List.append_inj' e' rfl;simp at e2;subst e2;exact h.adj p y (a,w) [] (by rw[e1];simp)
  ·rw[List.concat_eq_append]at e;have e':st++[(a,w+1)]=(p++y::z::q')++[t]:=by rw[e];simp
   obtain⟨e1,_⟩:=List.append_inj' e' rfl;exact h.adj p y z (q'++[(a,w)]) (by rw[e1];simp)
 ·intro p v q e hv;obtain⟨u,h1,h2⟩:=h.ot p v q e hv;exact⟨u,h1,by simpa using h2⟩
 ·right;rcases h.bot with⟨k,_⟩|⟨w',q',k⟩
  ·simp at k
  ·rcases st with _|⟨s,st⟩
   ·simp at k;exact⟨w+1,[],by simp[k.1.1]⟩
   ·simp at k;exact⟨w',st++[(a,w+1)],by rw[k.1];rfl⟩
/-- a new one is met -/
theorem DInv.meet {f:PFunc}{been:List Bool}{out:List Nat}{st:List (Nat×Nat)}{a w:Nat}(h:DInv f been out (st++[(a,w)])) {x:Int}(hx:(nextP f a)[w]? = some x) (hb:been[x.toNat]? = some false):DInv f (been.set x.toNat true) out (st++[(a,w+1),(x.toNat,0)]):=by
 have hxm:x∈nextP f a:=List.mem_of_getElem? hx;have hxr:=nextP_in f a x hxm;have hxn:((x.toNat:Nat):Int)=x:=oz
 have hwl:w<(nextP f a).length:=(List.getElem?_eq_some_iff.1 hx).1;have hnew:x.toNat∉(st++[(a,w)]).map Prod.fst++out:=fun k=>by rw[(h.bn _).2 k]at hb;cases hb
 have hm:∀ v,v∈(st++[(a,w+1),(x.toNat,0)]).map Prod.fst++out↔v∈(st++[(a,w)]).map Prod.fst++out\/v=x.toNat:=by
  intro v;simp only[List.map_append,List.map_cons,List.map_nil,List.mem_append,List.mem_cons,List.not_mem_nil,or_false];grind
 have hl:x.toNat<been.length:=by rw[h.len];omega
 refine⟨by rw[List.length_set];exact h.len,?_,fun v=>?_,fun v hv=>?_,fun p hp=>?_,fun v hv y hy=>(hm _).2 (.inl (h.full v hv y hy)),?_,?_,?_⟩
 ·have h1:((st++[(a,w)]).map Prod.fst++out).Nodup:=h.nodup;have h2:(x.toNat::((st++[(a,w)]).map Prod.fst++out)).Nodup:=List.nodup_cons.2 ⟨hnew,h1⟩;refine(List.Perm.nodup_iff ?_).1 h2;simp only[List.map_append,List.map_cons,List.map_nil,List.append_assoc];have:(x.toNat::(st.map Prod.fst++([a]++out))).Perm (st.map Prod.fst++(x.toNat::([a]++out))):=List.perm_middle.symm;refine this.trans (List.Perm.append_left _ ?_);exact(List.Perm.swap a x.toNat out)
 ·rw[hm];by_cases e:v=x.toNat
  ·subst e;rw[List.getElem?_set_self hl];simp
  ·rw[List.getElem?_set_ne (by omega),h.bn];simp[e]
 ·rcases(hm v).1 hv with k|k
  ·exact h.rch v k
  ·subst k;exact .step a _ (h.rch a si) (by rw[hxn];exact hxm)
 ·rcases List.mem_append.1 hp with k|k
  ·have:=h.way p (by simp[k]);exact⟨this.1,fun i y hi hy=>(hm _).2 (.inl (this.2 i y hi hy))⟩
  ·simp at k;rcases k with rfl|rfl
   ·refine⟨hwl,fun i y hi hy=>?_⟩;by_cases e:i=w
    ·subst e;rw[hx]at hy;injection hy with hy;subst hy;exact(hm _).2 (.inr rfl)
    ·exact(hm _).2 (.inl ((h.way (a,w) si).2 i y (by dsimp only at hi ⊢;omega) hy))
   ·exact⟨Nat.zero_le _,fun i y hi _=>by simp at hi⟩
 ·intro p y z q e;rcases List.eq_nil_or_concat q with rfl|⟨q',t,rfl⟩
  ·have e':(st++[(a,w+1)])++[(x.toNat,0)]=(p++[y])++[z]:=by simpa using e
   obtain⟨e1,e2⟩:=List.append_inj' e' rfl;obtain⟨e3,e4⟩:=List.append_inj' e1 rfl;simp at e2 e4;subst e2 e4;show((x.toNat:Nat):Int)∈nextP f a;rw[hxn];exact hxm
  ·rw[List.concat_eq_append]at e;have e':(st++[(a,w+1)])++[(x.toNat,0)]=(p++y::z::q')++[t]:=by simpa using e
   obtain⟨e1,_⟩:=List.append_inj' e' rfl;rcases List.eq_nil_or_concat q' with rfl|⟨q2,t2,rfl⟩
   ·have e2:st++[(a,w+1)]=(p++[y])++[z]:=by rw[e1];simp
    obtain⟨e3,e4⟩:=List.append_inj' e2 rfl;simp at e4;subst e4;exact h.adj p y (a,w) [] (by rw[e3];simp)
   ·rw[List.concat_eq_append]at e1;have e2:st++[(a,w+1)]=(p++y::z::q2)++[t2]:=by rw[e1];simp
    obtain⟨e3,_⟩:=List.append_inj' e2 rfl;exact h.adj p y z (q2++[(a,w)]) (by rw[e3];simp)
 ·intro p v q e hv;obtain⟨u,h1,h2⟩:=h.ot p v q e hv;refine⟨u,h1,?_⟩;simp only[List.map_append,List.map_cons,List.map_nil,List.mem_append,List.mem_cons,List.not_mem_nil,or_false]at h2 ⊢
  grind
 ·right;rcases h.bot with⟨k,_⟩|⟨w',q',k⟩
  ·simp at k
  ·rcases st with _|⟨s,st⟩
   ·simp at k;exact⟨w+1,[(x.toNat,0)],by simp[k.1.1]⟩
   ·simp at k;exact⟨w',st++[(a,w+1),(x.toNat,0)],by rw[k.1];rfl⟩
theorem DInv.done {f:PFunc}{been:List Bool}{out:List Nat}(h:DInv f been out []):OrderOk f out.reverse:=by
 have hl:out.getLast? = some 0:=by rcases h.bot with⟨_,k⟩|⟨w,q,k⟩;exact k;simp at k
 have h0:0∈out:=List.mem_of_getLast? hl;refine⟨(List.Perm.nodup_iff (List.reverse_perm out)).2 (by simpa using h.nodup),fun v=>?_,by simpa using hl,?_⟩
 ·rw[List.mem_reverse];constructor
  ·intro k;exact h.rch v (by simpa using k)
  ·intro k
   induction k with
   | zero=>exact h0
   | step u v _ h2 ih=>have:=h.full u ih v h2;simpa using this
 ·intro p v q e hv;have e2:out=q.reverse++v::p.reverse:=by
   have:=congrArg List.reverse e;simpa using this
  obtain⟨u,h1,h2⟩:=h.ot _ v _ e2 hv;exact⟨u,h1,by simpa using h2⟩
/-- rounds still to come -/
def dLeft (been:List Bool) (st:List (Nat×Nat)):Nat:=4*been.count false+(st.map fun p=>3-p.2).sum
theorem dLeft_finish {been:List Bool}{st:List (Nat×Nat)}{a w:Nat}(hw:w<=2):dLeft been st<dLeft been (st++[(a,w)]):=by
 unfold dLeft;simp;omega
theorem dLeft_look {been:List Bool}{st:List (Nat×Nat)}{a w:Nat}(hw:w<2):dLeft been (st++[(a,w+1)])<dLeft been (st++[(a,w)]):=by
 unfold dLeft;simp;omega
theorem dLeft_meet {been:List Bool}{st:List (Nat×Nat)}{a w v:Nat}(hw:w<2) (hv:been[v]? = some false):dLeft (been.set v true) (st++[(a,w+1),(v,0)])<dLeft been (st++[(a,w)]):=by
 have:=count_set hv;unfold dLeft;simp;omega
section
/-- a graph whose vertices are ranked -/
structure Grf (E:Nat->Nat->Prop) (R:Nat->Prop) (rk:Nat->Nat):Prop where
 r0:R 0
 z:rk 0=0
 e:∀ u v,E u v->R u/\R v
 inj:∀ u v,R u->R v->rk u=rk v->u=v
 pred:∀ v,R v->v≠0->∃ u,E u v/\rk u<rk v
/-- what stands above a vertex -/
inductive Ch (nr:Nat->Int):Nat->Nat->Prop
 | self (v:Nat):Ch nr v v
 | up (v u x:Nat):v≠0->nr v=(u:Int)->Ch nr u x->Ch nr v x
/-- a way on which x is not met behind the beginning -/
inductive Wx (E:Nat->Nat->Prop) (x:Nat) (a:Nat):Nat->Prop
 | refl:Wx E x a a
 | step (u w:Nat):Wx E x a u->E u w->w≠x->Wx E x a w
theorem Wx.trans {E:Nat->Nat->Prop}{x a b c:Nat}(h1:Wx E x a b) (h2:Wx E x b c):Wx E x a c:=by
 induction h2 with
 | refl=>exact h1
 | step u w _ he hx ih=>exact .step u w ih he hx
structure NInv (E:Nat->Nat->Prop) (R:Nat->Prop) (rk:Nat->Nat) (nr:Nat->Int) (pos:Nat):Prop where
 z:nr 0=0
 tr:∀ v u:Nat,v≠0->nr v=(u:Int)->R v/\R u/\0<=nr u/\rk u<rk v
 dr:∀ v u,0<=nr v->R u->rk u<rk v->0<=nr u
 dn:∀ v,R v->rk v<pos->0<=nr v
 i1:∀ v x,0<=nr v->¬Ch nr v x->x≠0/\Wx E x 0 v
 i2:∀ w a x,0<=nr w->Ch nr w a->Ch nr a x->x≠a->Wx E x a w
 i4:∀ v y x:Nat,v≠0->nr v=(y:Int)->(∀ u,E u v->0<=nr u->Ch nr u x)->Ch nr y x
 i5:∀ v y u x:Nat,v≠0->nr v=(y:Int)->E u v->rk u<rk v->Ch nr y x->(rk v<pos\/pos<=rk x)->Ch nr u x
theorem Ch.trans {nr:Nat->Int}{a b c:Nat}(h1:Ch nr a b) (h2:Ch nr b c):Ch nr a c:=by
 induction h1 with
 | self=>exact h2
 | up v u x h0 he _ ih=>exact .up v u c h0 he (ih h2)
theorem Ch.inv {nr:Nat->Int}{v x:Nat}(h:Ch nr v x):v=x\/∃ u:Nat,v≠0/\nr v=(u:Int)/\Ch nr u x:=by
 cases h with
 | self=>exact .inl rfl
 | up _ u _ h0 he h2=>exact .inr ⟨u,h0,he,h2⟩
section
variable {E : Nat -> Nat -> Prop} {R : Nat -> Prop} {rk : Nat -> Nat} {nr : Nat -> Int} {pos : Nat}
theorem NInv.chrk (h:NInv E R rk nr pos) {v x:Nat}(hc:Ch nr v x):x=v\/rk x<rk v:=by
 induction hc with
 | self=>exact .inl rfl
 | up v u x h0 he _ ih =>
  have:=(h.tr v u h0 he).2.2.2;rcases ih with rfl|k
  ·exact .inr this
  ·exact .inr oz
theorem NInv.chD (h:NInv E R rk nr pos) {v x:Nat}(hc:Ch nr v x) (hv:0<=nr v):0<=nr x:=by
 induction hc with
 | self=>exact hv
 | up v u x h0 he _ ih=>exact ih (h.tr v u h0 he).2.2.1
theorem NInv.dR (h:NInv E R rk nr pos) (g:Grf E R rk) {v:Nat}(hv:0<=nr v):R v:=by
 by_cases h0:v=0
 ·subst h0;exact g.r0
 ·exact(h.tr v (nr v).toNat h0 oz).1
def upd (nr:Nat->Int) (b:Nat) (d:Int):Nat->Int:=fun v=>if v=b then d else nr v
theorem upd_self (b:Nat) (d:Int):upd nr b d b=d:=by simp[upd]
theorem upd_ne {b v:Nat}(d:Int) (h:v≠b):upd nr b d v=nr v:=by simp[upd,h]
/-- a chain without b stays -/
theorem Ch.keep {b:Nat}{d:Int}{v x:Nat}(hb:¬Ch nr v b):Ch (upd nr b d) v x↔Ch nr v x:=by
 constructor
 ·intro h
  induction h with
  | self=>exact .self _
  | up v u x h0 he _ ih =>
   have hvb:v≠b:=fun e=>hb (e▸.self _);rw[upd_ne d hvb]at he;exact .up v u x h0 he (ih fun k=>hb (.up v u b h0 he k))
 ·intro h
  induction h with
  | self=>exact .self _
  | up v u x h0 he _ ih =>
   have hvb:v≠b:=fun e=>hb (e▸.self _);exact .up v u x h0 (by rw[upd_ne d hvb];exact he) (ih fun k=>hb (.up v u b h0 he k))
/-- whether b stands above does not change -/
theorem Ch.at (b:Nat) (d:Int) (v:Nat):Ch (upd nr b d) v b↔Ch nr v b:=by
 constructor
 ·intro h;obtain⟨nr',hn⟩:∃ n,n=upd nr b d:=⟨_,rfl⟩
  rw[<-hn]at h
  induction h with
  | self=>exact .self _
  | up v u x h0 he _ ih =>
   by_cases hvb:v=x
   ·subst hvb;exact .self _
   ·rw[hn,upd_ne d hvb]at he;exact .up v u x h0 he (ih hn)
 ·intro h
  induction h with
  | self=>exact .self _
  | up v u x h0 he _ ih =>
   by_cases hvb:v=x
   ·subst hvb;exact .self _
   ·exact .up v u x h0 (by rw[upd_ne d hvb];exact he) ih
theorem Ch.tot {v a x:Nat}(h1:Ch nr v a) (h2:Ch nr v x):Ch nr a x\/Ch nr x a:=by
 induction h1 with
 | self=>exact .inl h2
 | up v u a h0 he h3 ih =>
  rcases h2.inv with rfl|⟨u',_,he',h4⟩
  ·exact .inr (.up v u a h0 he h3)
  ·have:u=u':=oz
   subst this;exact ih h4
theorem NInv.anti (h:NInv E R rk nr pos) {a b:Nat}(h1:Ch nr a b) (h2:Ch nr b a):a=b:=by
 have:=h.chrk h1;have:=h.chrk h2;omega
theorem NInv.root0 (h:NInv E R rk nr pos) {x:Nat}(h1:Ch nr 0 x):x=0:=by
 rcases h1.inv with e|⟨_,k,_⟩
 ·exact e.symm
 ·exact absurd rfl k
/-- what a step at b rests on -/
structure Stp (E:Nat->Nat->Prop) (R:Nat->Prop) (rk:Nat->Nat) (nr:Nat->Int) (pos b d:Nat):Prop where
 inv:NInv E R rk nr pos
 g:Grf E R rk
 rb:R b
 pb:rk b=pos
 b0:b≠0
 dd:0<=nr d
 m:∀ x,Ch nr d x↔∀ u,E u b->0<=nr u->Ch nr u x
variable {b d : Nat}
theorem Stp.pre (s:Stp E R rk nr pos b d):∃ u,E u b/\rk u<rk b/\0<=nr u/\Ch nr u d:=by
 obtain⟨u,he,hr⟩:=s.g.pred b s.rb s.b0;have hd:=s.inv.dn u (s.g.e u b he).1 (by have:=s.pb;omega);exact⟨u,he,hr,hd,(s.m d).1 (.self d) u he hd⟩
theorem Stp.rkd (s:Stp E R rk nr pos b d):rk d<rk b:=by
 obtain⟨u,_,hr,_,hc⟩:=s.pre;rcases s.inv.chrk hc with rfl|k
 ·exact hr
 ·omega
theorem Stp.below (s:Stp E R rk nr pos b d) {v:Nat}(hv:rk v<rk b):¬Ch nr v b:=by
 intro k;rcases s.inv.chrk k with rfl|k<;>omega
theorem Stp.nd (s:Stp E R rk nr pos b d) {x:Nat}:Ch (upd nr b d) d x↔Ch nr d x:=Ch.keep (s.below s.rkd)
theorem Stp.mv (s:Stp E R rk nr pos b d) {y:Nat}(hy:nr b=(y:Int)) {x:Nat}(hx:Ch nr d x):Ch nr y x :=
 s.inv.i4 b y x s.b0 hy ((s.m x).1 hx)
theorem Stp.split (s:Stp E R rk nr pos b d) {v x:Nat}(hv:Ch nr v b):Ch (upd nr b d) v x↔(Ch nr v x/\Ch nr x b)\/Ch nr d x:=by
 constructor
 ·intro h;obtain⟨nr',hn⟩:∃ n,n=upd nr b d:=⟨_,rfl⟩
  rw[<-hn]at h
  induction h with
  | self=>exact .inl ⟨.self _,hv⟩
  | up v u x h0 he h3 ih =>
   by_cases e:v=b
   ·subst e;rw[hn,upd_self]at he;have:u=d:=oz
    subst this;rw[hn]at h3;exact .inr (s.nd.1 h3)
   ·rw[hn,upd_ne _ e]at he;rcases hv.inv with k|⟨u',_,he',h4⟩
    ·exact absurd k e
    ·have:u=u':=oz
     subst this;rcases ih h4 with k|k
     ·exact .inl ⟨.up v u x h0 he k.1,k.2⟩
     ·exact .inr k
 ·intro h;obtain⟨b',hb⟩:∃ n,n=b:=⟨_,rfl⟩
  rw[<-hb]at hv
  induction hv with
  | self v =>
   subst hb;rcases h with⟨h1,h2⟩|h
   ·rw[s.inv.anti h1 h2];exact .self _
   ·exact .up v d x s.b0 (by rw[upd_self]) (s.nd.2 h)
  | up v u b' h0 he h3 ih =>
   subst hb;by_cases e:v=b'
   ·subst e;rcases h with⟨h1,h2⟩|h
    ·rw[s.inv.anti h1 h2];exact .self _
    ·exact .up v d x s.b0 (by rw[upd_self]) (s.nd.2 h)
   ·rcases h with⟨h1,h2⟩|h
    ·rcases h1.inv with rfl|⟨u',_,he',h4⟩
     ·exact .self _
     ·have:u=u':=oz
      subst this;exact .up v u x h0 (by rw[upd_ne _ e];exact he) (ih (.inl ⟨h4,h2⟩) rfl)
    ·exact .up v u x h0 (by rw[upd_ne _ e];exact he) (ih (.inr h) rfl)
theorem Stp.sub (s:Stp E R rk nr pos b d) (hb:0<=nr b) {v x:Nat}(h:Ch (upd nr b d) v x):Ch nr v x:=by
 by_cases hv:Ch nr v b
 ·rcases(s.split hv).1 h with k|k
  ·exact k.1
  ·exact hv.trans (.up b (nr b).toNat x s.b0 oz (s.mv oz k))
 ·exact(Ch.keep hv).1 h
theorem Stp.fresh (s:Stp E R rk nr pos b d) (hb:¬0<=nr b) {v:Nat}(hv:v≠b):¬Ch nr v b:=by
 intro k;rcases k.inv with k|⟨u,h0,he,h2⟩
 ·exact hv k
 ·exact hb (s.inv.chD h2 (s.inv.tr v u h0 he).2.2.1)
theorem Stp.oldD (s:Stp E R rk nr pos b d) {v:Nat}(h:0<=upd nr b d v):v=b\/0<=nr v:=by
 by_cases e:v=b
 ·exact .inl e
 ·rw[upd_ne _ e]at h;exact .inr h
theorem Stp.newD (s:Stp E R rk nr pos b d) {v:Nat}(h:0<=nr v):0<=upd nr b d v:=by
 by_cases e:v=b
 ·subst e;rw[upd_self];omega
 ·rw[upd_ne _ e];exact h
theorem Stp.away (s:Stp E R rk nr pos b d) {x:Nat}(h1:¬Ch nr d x) (h2:x≠b):x≠0/\Wx E x 0 b:=by
 rw[s.m x]at h1;obtain⟨u,h1⟩:=Classical.not_forall.1 h1;obtain⟨he,h1⟩:=Classical.not_forall.1 h1;obtain⟨hd,h1⟩:=Classical.not_forall.1 h1;have:=s.inv.i1 u x hd h1;exact⟨this.1,.step u b this.2 he (Ne.symm h2)⟩
theorem Stp.next (s:Stp E R rk nr pos b d):NInv E R rk (upd nr b d) (pos+1):=by
 have h:=s.inv;have hbd:d≠b:=fun e=>by have:=s.rkd;rw[e]at this;omega
 have hp:=s.pb;refine⟨?_,?_,?_,?_,?_,?_,?_,?_⟩
 ·rw[upd_ne _ (Ne.symm s.b0)];exact h.z
 ·intro v u h0 he;by_cases e:v=b
  ·subst e;rw[upd_self]at he;have:u=d:=oz
   subst this;exact⟨s.rb,h.dR s.g s.dd,s.newD s.dd,s.rkd⟩
  ·rw[upd_ne _ e]at he;have:=h.tr v u h0 he;exact⟨this.1,this.2.1,s.newD this.2.2.1,this.2.2.2⟩
 ·intro v u hv hu hr;rcases s.oldD hv with rfl|hv
  ·exact s.newD (h.dn u hu oz)
  ·exact s.newD (h.dr v u hv hu hr)
 ·intro v hv hr;by_cases e:rk v=pos
  ·have:v=b:=s.g.inj v b hv s.rb oz;subst this;rw[upd_self];omega
  ·exact s.newD (h.dn v hv oz)
 ·intro v x hv hx;by_cases e:v=b
  ·subst e;exact s.away (fun k=>hx (.up v d x s.b0 (by rw[upd_self]) (s.nd.2 k))) (fun e=>hx (e▸.self _))
  ·have hv:0<=nr v:=by rcases s.oldD hv with k|k;exact absurd k e;exact k
   by_cases hc:Ch nr v x
   ·by_cases hb:Ch nr v b
    ·rw[s.split hb]at hx;have h1:¬Ch nr d x:=fun k=>hx (.inr k);have h2:¬Ch nr x b:=fun k=>hx (.inl ⟨hc,k⟩);have h3:x≠b:=fun k=>h2 (k▸.self _);have h4:Ch nr b x:=by rcases Ch.tot hb hc with k|k;exact k;exact absurd k h2
     have h5:=s.away h1 h3;exact⟨h5.1,h5.2.trans (h.i2 v b x hv hb h4 h3)⟩
    ·exact absurd ((Ch.keep hb).2 hc) hx
   ·exact h.i1 v x hv hc
 ·intro w a x hw hwa hax hne;by_cases hb:0<=nr b
  ·have:0<=nr w:=by rcases s.oldD hw with rfl|k;exact hb;exact k
   exact h.i2 w a x this (s.sub hb hwa) (s.sub hb hax) hne
  ·by_cases e:w=b
   ·subst e;rcases hwa.inv with rfl|⟨u,h0,he,h2⟩
    ·exact .refl
    ·rw[upd_self]at he;have:u=d:=oz
     subst this;have hda:=s.nd.1 h2;have hra:rk a<rk w:=by
      have:=s.rkd;rcases h.chrk hda with rfl|k<;>omega
     have hax':=(Ch.keep (s.below hra)).1 hax;obtain⟨u0,hu,_,hd0,hc0⟩:=s.pre;have hx:=h.chD hax' (h.chD hda s.dd);exact .step u0 w (h.i2 u0 a x hd0 (hc0.trans hda) hax' hne) hu (fun e=>hb (e▸hx))
   ·have hb':=s.fresh hb e;have h1:=(Ch.keep hb').1 hwa;have h2:=(Ch.keep (fun k=>hb' (h1.trans k))).1 hax;have:0<=nr w:=by rcases s.oldD hw with k|k;exact absurd k e;exact k
    exact h.i2 w a x this h1 h2 hne
 ·intro v y x h0 he hx;by_cases e:v=b
  ·subst e;rw[upd_self]at he;have:y=d:=oz
   subst this;rw[s.nd];refine Classical.byContradiction fun hno=>hno ((s.m x).2 fun u hu hd=>?_);have:=hx u hu (s.newD hd);by_cases hc:Ch nr u v
   ·rcases(s.split hc).1 this with k|k
    ·exact k.1
    ·exact absurd k hno
   ·exact(Ch.keep hc).1 this
  ·rw[upd_ne _ e]at he;have hv:0<=nr v:=oz
   have hold:Ch nr y x:=h.i4 v y x h0 he fun u hu hd=>by
    have h1:=hx u hu (s.newD hd);by_cases hb:0<=nr b
    ·exact s.sub hb h1
    ·exact(Ch.keep (s.fresh hb fun e=>hb (e▸hd))).1 h1
   by_cases hyb:Ch nr y b
   ·rw[s.split hyb];rcases Ch.tot hyb hold with k|k
    ·by_cases hxb:x=b
     ·subst hxb;exact .inl ⟨hold,.self _⟩
     ·obtain⟨u0,hu,hr⟩:=s.g.pred v (h.dR s.g hv) h0;have h1:=h.i5 v y u0 b h0 he hu hr hyb (.inr oz);have h2:=hx u0 hu (s.newD (h.dr v u0 hv (s.g.e _ _ hu).1 hr));rcases(s.split h1).1 h2 with k2|k2
      ·exact absurd (h.anti k2.2 k) hxb
      ·exact .inr k2
    ·exact .inl ⟨hold,k⟩
   ·exact(Ch.keep hyb).2 hold
 ·intro v y u x h0 he hu hr hx hc;by_cases e:v=b
  ·subst e;rw[upd_self]at he;have:y=d:=oz
   subst this;have h1:=(s.m x).1 (s.nd.1 hx) u hu (h.dn u (s.g.e _ _ hu).1 oz);exact(Ch.keep (s.below hr)).2 h1
  ·rw[upd_ne _ e]at he;have ht:=h.tr v y h0 he;have hvp:rk v≠pos:=fun k=>e (s.g.inj v b ht.1 s.rb oz);by_cases hlt:rk v<pos
   ·have h1:=(Ch.keep (s.below (show rk y<rk b by omega))).1 hx;exact(Ch.keep (s.below (show rk u<rk b by omega))).2 (h.i5 v y u x h0 he hu hr h1 (.inl hlt))
   ·have hxr:pos+1<=rk x:=oz
    have h1:Ch nr y x:=by
     by_cases hyb:Ch nr y b
     ·rcases(s.split hyb).1 hx with k|k
      ·exact k.1
      ·have:=s.rkd;rcases h.chrk k with rfl|k<;>omega
     ·exact(Ch.keep hyb).1 hx
    have h2:=h.i5 v y u x h0 he hu hr h1 (.inr oz);by_cases hub:Ch nr u b
    ·rw[s.split hub];rcases Ch.tot hub h2 with k|k
     ·rcases h.chrk k with rfl|k<;>omega
     ·exact .inl ⟨h2,k⟩
    ·exact(Ch.keep hub).2 h2
/-- a step that changes what stood there lowers the rank -/
theorem Stp.lower (s:Stp E R rk nr pos b d) {y:Nat}(hy:nr b=(y:Int)) (hne:y≠d):rk d<rk y:=by
 rcases s.inv.chrk (s.mv hy (.self d))with k|k
 ·exact absurd k.symm hne
 ·exact k
theorem NInv.start (g:Grf E R rk):NInv E R rk (upd (fun _ => -1) 0 0) 1:=by
 have hz:∀ v,0<=upd (fun _ => -1) 0 0 v->v=0:=by
  intro v hv;by_cases e:v=0
  ·exact e
  ·rw[upd_ne _ e]at hv;omega
 have hc:∀ {x},Ch (upd (fun _ => -1) 0 0) 0 x->x=0:=by
  intro x h;rcases h.inv with e|⟨_,k,_⟩
  ·exact e.symm
  ·exact absurd rfl k
 refine⟨upd_self 0 0,?_,?_,?_,?_,?_,?_,?_⟩
 ·intro v u h0 he;exact absurd (hz v oz) h0
 ·intro v u hv _ hr;rw[hz v hv,g.z]at hr;omega
 ·intro v hv hr;have:v=0:=g.inj v 0 hv g.r0 (by rw[g.z];omega);subst this;rw[upd_self];omega
 ·intro v x hv hx;have:=hz v hv;subst this;exact⟨fun e=>hx (e▸.self _),.refl⟩
 ·intro w a x hw hwa hax hne;have:=hz w hw;subst this;have:=hc hwa;subst this;exact absurd (hc hax) hne
 ·intro v y x h0 he;exact absurd (hz v oz) h0
 ·intro v y u x h0 he;exact absurd (hz v oz) h0
theorem NInv.again (h:NInv E R rk nr pos) (hp:∀ v,R v->rk v<pos):NInv E R rk nr 1 :=
 ⟨h.z,h.tr,h.dr,fun v hv _=>h.dn v hv (hp v hv),h.i1,h.i2,h.i4,fun v y u x h0 he hu hr hx _=>h.i5 v y u x h0 he hu hr hx (.inl (hp v (h.tr v y h0 he).1))⟩
/-- where no step changes anything, what stands above dominates -/
theorem NInv.dom (h:NInv E R rk nr pos) (g:Grf E R rk) (hp:∀ v,R v->rk v<pos) (hq:∀ v,R v->v≠0->∀ u x,E u v->Ch nr (nr v).toNat x->Ch nr u x) {v x:Nat}(hv:R v):Ch nr v x↔¬(x≠0/\Wx E x 0 v):=by
 constructor
 ·rintro hc ⟨hx0,hw⟩;have key:∀ v,Wx E x 0 v->Ch nr v x->False:=by
   intro v hw
   induction hw with
   | refl=>intro hc;exact hx0 (h.root0 hc)
   | step u w _ he hne ih =>
    intro hc;rcases hc.inv with k|⟨y,h0,hy,h2⟩
    ·exact hne k
    ·exact ih (hq w (g.e _ _ he).2 h0 u x he (by rw[hy];exact h2))
  exact key v hw hc
 ·intro hn;exact Classical.byContradiction fun hc=>hn (h.i1 v x (h.dn v hv (hp v hv)) hc)
theorem NInv.meetL (h:NInv E R rk nr pos) (g:Grf E R rk) {a b:Nat}(ha:0<=nr a) (hr:rk b<rk a):∃ y:Nat,nr a=(y:Int)/\0<=nr y/\rk y<rk a/\∀ x,(Ch nr y x/\Ch nr b x)↔(Ch nr a x/\Ch nr b x):=by
 have a0:a≠0:=fun e=>by rw[e,g.z]at hr;omega
 have ht:=h.tr a (nr a).toNat a0 oz;refine⟨(nr a).toNat,oz,ht.2.2.1,ht.2.2.2,fun x=>⟨fun k=>⟨.up a _ x a0 oz k.1,k.2⟩,fun k=>?_⟩⟩;rcases k.1.inv with rfl|⟨u,_,he,h2⟩
 ·rcases h.chrk k.2 with e|e
  ·rw[e]at hr;omega
  ·omega
 ·refine⟨?_,k.2⟩;rw[he];exact h2
theorem NInv.meetR (h:NInv E R rk nr pos) (g:Grf E R rk) {a b:Nat}(ha:0<=nr a) (hb:0<=nr b) (hne:a≠b) (hr:¬rk b<rk a):∃ y:Nat,nr b=(y:Int)/\0<=nr y/\rk y<rk b/\∀ x,(Ch nr a x/\Ch nr y x)↔(Ch nr a x/\Ch nr b x):=by
 have h1:rk a≠rk b:=fun e=>hne (g.inj a b (h.dR g ha) (h.dR g hb) e);obtain⟨y,h2,h3,h4,h5⟩:=h.meetL g hb (b:=a) oz;exact⟨y,h2,h3,h4,fun x=>by rw[and_comm,h5 x,and_comm]⟩
/-- the meet of those that have come -/
def MeetOf (nr:Nat->Int) (us:List Int) (d:Int):Prop :=
 (d = -1/\∀ x∈us,nr x.toNat<0)\/∃ dn:Nat,d=dn/\0<=nr dn/\∀ x,Ch nr dn x↔∀ u∈us,0<=nr u.toNat->Ch nr u.toNat x
theorem MeetOf.nil:MeetOf nr [] (-1):=.inl ⟨rfl,fun x hx=>by simp at hx⟩
theorem MeetOf.pass {us:List Int}{d:Int}{u:Nat}(h:MeetOf nr us d) (hu:nr u<0):MeetOf nr (us++[(u:Int)]) d:=by
 rcases h with⟨h1,h2⟩|⟨dn,h1,h2,h3⟩
 ·refine .inl ⟨h1,fun x hx=>?_⟩;rcases List.mem_append.1 hx with k|k
  ·exact h2 x k
  ·simp at k;subst k;exact hu
 ·refine .inr ⟨dn,h1,h2,fun x=>(h3 x).trans ⟨fun k v hv hd=>?_,fun k v hv hd=>k v (by simp[hv]) hd⟩⟩;rcases List.mem_append.1 hv with j|j
  ·exact k v j hd
  ·simp at j;subst j;rw[Int.toNat_natCast]at hd;omega
theorem MeetOf.first {us:List Int}{d:Int}{u:Nat}(h:MeetOf nr us d) (hd:d<0) (hu:0<=nr u):MeetOf nr (us++[(u:Int)]) u:=by
 rcases h with⟨h1,h2⟩|⟨dn,h1,h2,h3⟩
 ·refine .inr ⟨u,rfl,hu,fun x=>⟨fun k v hv hd=>?_,fun k=>?_⟩⟩
  ·rcases List.mem_append.1 hv with j|j
   ·have:=h2 v j;omega
   ·simp at j;subst j;rw[Int.toNat_natCast];exact k
  ·have:=k u si (by rw[Int.toNat_natCast];exact hu)
   rwa [Int.toNat_natCast]at this
 ·omega
theorem MeetOf.meet {us:List Int}{d u a:Nat}(h:MeetOf nr us d) (hu:0<=nr u) (ha:0<=nr a) (hm:∀ x,(Ch nr a x/\Ch nr a x)↔(Ch nr d x/\Ch nr u x)):MeetOf nr (us++[(u:Int)]) a:=by
 rcases h with⟨h1,h2⟩|⟨dn,h1,h2,h3⟩
 ·omega
 ·have e:d=dn:=oz
  subst e;refine .inr ⟨a,rfl,ha,fun x=>?_⟩;rw[show Ch nr a x↔(Ch nr d x/\Ch nr u x)from⟨fun k=>(hm x).1 ⟨k,k⟩,fun k=>((hm x).2 k).1⟩,h3 x];constructor
  ·rintro⟨k1,k2⟩ v hv hd;rcases List.mem_append.1 hv with j|j
   ·exact k1 v j hd
   ·simp at j;subst j;rw[Int.toNat_natCast];exact k2
  ·intro k;refine⟨fun v hv hd=>k v (by simp[hv]) hd,?_⟩;have:=k u si (by rw[Int.toNat_natCast];exact hu)
   rwa [Int.toNat_natCast]at this
end
end
end Go.Proofs.YteebpnbdihcfmaaGreatDoor
