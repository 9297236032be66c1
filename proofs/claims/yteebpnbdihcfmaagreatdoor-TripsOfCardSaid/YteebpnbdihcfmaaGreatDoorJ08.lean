/- A module in memory of; R9 -/
import Derived.Test.YteebpnbdihcfmaaGreatDoorJ06
set_option linter.unusedVariables false
set_option linter.unusedSimpArgs false
set_option maxRecDepth 100000
set_option maxHeartbeats 20000000
namespace Go.Proofs.YteebpnbdihcfmaaGreatDoor
open Go.RowKit
theorem aB6 {l:List Int}{i:Nat}(h:i<l.length):l[i]? = some (l.getD i 0):=by grind
structure K4 where
 pb:Nat
 pcap:Nat
 cb:Nat
 ccap:Nat
def rR (f:aC) (x:K4):List Value:=[.string f.name,.slice (some ⟨x.pb,0,none⟩) f.params.length x.pcap,.int .i64 f.regs,.int .i64 f.words,.slice (some ⟨x.cb,0,none⟩) f.code.length x.ccap]
def nG (w:World) (M:Nat) (f:aC) (x:K4):Prop:=M<=x.pb/\M<=x.cb /\
 w.ownsRow 0 47 2 (.slice (some ⟨x.pb,0,none⟩) f.params.length x.pcap) f.params.length (f.params.flatMap pB)/\w.ownsRow 0 55 5 (.slice (some ⟨x.cb,0,none⟩) f.code.length x.ccap) f.code.length (f.code.flatMap aBb)
/-- the functions, each with the places of its lists -/
structure xK (w:World) (M:Nat) (fv:Value) (zs:List (aC×K4)):Prop where
 row:w.ownsRow 0 42 5 fv zs.length (zs.flatMap fun z=>rR z.1 z.2)
 far:∀ b,fv.ownBlock=some b->M<=b/\∀ z∈zs,b≠z.2.pb/\b≠z.2.cb
 each:∀ z∈zs,nG w M z.1 z.2
 dist:(zs.flatMap fun z=>[z.2.pb,z.2.cb]).Nodup
theorem nG.chg {S:Nat->Prop}{w w':World}{M:Nat}{f:aC}{x:K4}(h:nG w M f x) (c:aG S w w') (h1:¬S x.pb) (h2:¬S x.cb):nG w' M f x :=
 ⟨h.1,h.2.1,eK c h.2.2.1 h1,eK c h.2.2.2 h2⟩
theorem tG {S:Nat->Prop}{w w':World}(c:aG S w w') {e size n:Nat}{v:Value}{xs:List Value}(h:w.ownsRow 0 e size v n xs) (hg:∀ k,v.ownBlock=some k->¬S k):w'.ownsRow 0 e size v n xs:=by
 exact aQq
theorem xK.chg {S:Nat->Prop}{w w':World}{M:Nat}{fv:Value}{zs:List (aC×K4)}(h:xK w M fv zs) (c:aG S w w') (hS:∀ k,S k->k<M):xK w' M fv zs :=
 ⟨tG c h.row (fun k hk hs=>by have:=(h.far k hk).1;have:=hS k hs;omega),h.far,fun z hz=>(h.each z hz).chg c (fun hs=>by have:=(h.each z hz).1;have:=hS _ hs;omega) (fun hs=>by have:=(h.each z hz).2.1;have:=hS _ hs;omega),h.dist⟩
theorem xK.push {w w':World}{M:Nat}{fv fv2:Value}{zs:List (aC×K4)}(h:xK w M fv zs) {f:aC}{x:K4}(hx:nG w M f x) (hfar:∀ b,fv.ownBlock=some b->b≠x.pb/\b≠x.cb) (hxx:x.pb≠x.cb) (hnew:∀ z∈zs,z.2.pb≠x.pb/\z.2.pb≠x.cb/\z.2.cb≠x.pb/\z.2.cb≠x.cb) (hM:M<=w.heap.size)
 (hrow:w'.ownsRow 0 42 5 fv2 (zs.length+1) ((zs.flatMap fun z=>rR z.1 z.2)++rR f x)) (hg:w.grownBy w' fv.ownBlock) (hn:fv2.ownBlock=fv.ownBlock\/(fv2.ownBlock=some w.heap.size/\Below w.heap.size w w')):xK w' M fv2 (zs++[(f,x)]):=by
 have c:=jT hg;have lt:∀ y:K4,∀ g,nG w M g y->y.pb<w.heap.size/\y.cb<w.heap.size:=fun y g hy=>⟨(hy.2.2.1.lt _ rfl).2,(hy.2.2.2.lt _ rfl).2⟩
 refine⟨by simpa using hrow,fun b hb=>?_,fun z hz=>?_,?_⟩
 ·rcases hn with e|⟨e,_⟩
  ·rw[e]at hb;refine⟨(h.far b hb).1,fun z hz=>?_⟩;rcases List.mem_append.1 hz with k|k
   ·exact(h.far b hb).2 z k
   ·grind
  ·rw[e]at hb;cases hb;refine⟨hM,fun z hz=>?_⟩;rcases List.mem_append.1 hz with k|k
   ·have:=lt z.2 z.1 (h.each z k);omega
   ·grind
 ·rcases List.mem_append.1 hz with k|k
  ·exact(h.each z k).chg c (fun e=>((h.far _ e).2 z k).1 rfl) (fun e=>((h.far _ e).2 z k).2 rfl)
  ·rw[List.mem_singleton.1 k];exact hx.chg c (fun e=>(hfar _ e).1 rfl) (fun e=>(hfar _ e).2 rfl)
 ·rw[List.flatMap_append,List.nodup_append];refine⟨h.dist,by simp[hxx],fun a ha b hb=>?_⟩
  grind
theorem nV {w:World}{e size b n cap:Nat}{xs:List Value}(h:w.ownsRow 0 e size (.slice (some ⟨b,0,none⟩) n cap) n xs) {j:Nat}{u:Value}(hu:xs[j]? = some u):w.cell? ⟨b,j,none⟩=some u:=by
 exact aNn
theorem nG.ok {w:World}{M B:Nat}{f:aC}{x:K4}(h:nG w M f x) {W0:World}{k:HF}(h0:aZ B W0 k f):aZ w.heap.size w ⟨some ⟨x.pb,0,none⟩,f.params.length,x.pcap,some ⟨x.cb,0,none⟩,f.code.length,x.ccap⟩ f:=by
 obtain⟨n1,⟨_,n2,_,_,_,n3⟩,⟨_,n4,_,_,_,n5⟩,n6,n7⟩:=h0;obtain⟨_,_,hp,hc⟩:=h;refine⟨n1,⟨rfl,?_,x.pb,0,fun _=>⟨rfl,(hp.lt _ rfl).2⟩,fun i hi=>?_⟩,⟨rfl,?_,x.cb,0,fun _=>⟨rfl,(hc.lt _ rfl).2⟩,fun i hi=>?_⟩,n6,n7⟩
 ·grind
 ·have hi':i<f.params.length:=hi;have e:=nB _ i hi';have c0:=tK pB 2 (fun _=>rfl) f.params i 0 hi' oz;have c1:=tK pB 2 (fun _=>rfl) f.params i 1 hi' oz;have:=n3 i oz;refine⟨?_,?_,this.2.2⟩
  ·have:=nV hp (j:=i*2+0) (u:=.int .i64 f.params[i].lo) (by rw[c0];rfl)
   grind
  ·have:=nV hp (j:=i*2+1) (u:=.int .i64 f.params[i].hi) (by rw[c1];rfl)
   grind
 ·grind
 ·have hi':i<f.code.length:=hi;have e:=nB _ i hi';have cc:∀ r u,r<5->(aBb f.code[i])[r]? = some u->w.cell? ⟨x.cb,0+i*5+r,none⟩=some u:=fun r u hr hu=>by
   have:=nV hc (j:=i*5+r) (u:=u) (by rw[tK aBb 5 (fun _=>rfl) f.code i r hi' hr];exact hu)
   grind
  have:=n5 i oz;rw[e]at this ⊢;exact⟨⟨cc 0 _ oz rfl,cc 1 _ oz rfl,cc 2 _ oz rfl,cc 3 _ oz rfl,cc 4 _ oz rfl⟩,this.2⟩
/-- a module's copy -/
def iT (N M:Nat) (w:World) (m:bA) (tb tcap:Nat) (fv:Value) (zs:List (aC×K4)):Prop:=N<=tb/\tb<M/\w.ownsRow 0 2 1 (.slice (some ⟨tb,0,none⟩) m.thr.length tcap) m.thr.length (aR m.thr)/\zs.map (·.1)=m.funcs/\xK w M fv zs
theorem iT.chg {S:Nat->Prop}{N M:Nat}{w w':World}{m:bA}{tb tcap:Nat}{fv:Value}{zs:List (aC×K4)}(h:iT N M w m tb tcap fv zs) (c:aG S w w') (h1:¬S tb) (h2:∀ k,fv.ownBlock=some k->¬S k) (h3:∀ z∈zs,¬S z.2.pb/\¬S z.2.cb):iT N M w' m tb tcap fv zs:=by
 obtain⟨a,b,ht,hz,hr⟩:=h;exact⟨a,b,eK c ht h1,hz,tG c hr.row h2,hr.far,fun z hz=>(hr.each z hz).chg c (h3 z hz).1 (h3 z hz).2,hr.dist⟩
/-- all its blocks are there -/
theorem iT.lt {N M:Nat}{w:World}{m:bA}{tb tcap:Nat}{fv:Value}{zs:List (aC×K4)}(h:iT N M w m tb tcap fv zs):tb<w.heap.size/\(∀ k,fv.ownBlock=some k->k<w.heap.size)/\∀ z∈zs,z.2.pb<w.heap.size/\z.2.cb<w.heap.size:=by
 obtain⟨a,b,ht,hz,hr⟩:=h;exact⟨(ht.lt _ rfl).2,fun k hk=>(hr.row.lt k hk).2,fun z hz=>⟨((hr.each z hz).2.2.1.lt _ rfl).2,((hr.each z hz).2.2.2.lt _ rfl).2⟩⟩
theorem iT.at_ {N M:Nat}{w:World}{m:bA}{tb tcap:Nat}{fv:Value}{zs:List (aC×K4)}(h:iT N M w m tb tcap fv zs) {B:Nat}{W0:World}{v0:Value}(h0:cP B W0 v0 m):cP w.heap.size w (.agg #[.slice (some ⟨tb,0,none⟩) m.thr.length tcap,fv]) m:=by
 obtain⟨_,_,ht,hz,hr⟩:=h;obtain⟨_,_,_,_,_,_,_,⟨_,t2,_,_,_,t3⟩,⟨f1,f2,_,_,_,H,f3⟩⟩:=h0;have hlz:zs.length=m.funcs.length:=by rw[<-hz];simp
 have hform:∃ fa fc,fv=.slice fa zs.length fc/\(0<zs.length->∃ b,fa=some ⟨b,0,none⟩/\b<w.heap.size/\w.ownsRow 0 42 5 (.slice (some ⟨b,0,none⟩) zs.length fc) zs.length (zs.flatMap fun z=>rR z.1 z.2)):=by
  rcases hr.row.2 with⟨e,e2⟩|⟨g,cap,cur,e,_⟩
  ·exact⟨none,0,by rw[e,e2],fun h=>by omega⟩
  ·have hrow:=hr.row;rw[e]at hrow;exact⟨some ⟨g,0,none⟩,cap,e,fun _=>⟨g,rfl,(hrow.lt _ rfl).2,hrow⟩⟩
 obtain⟨fa,fc,rfl,hb⟩:=hform;refine⟨_,_,_,_,_,_,rfl,⟨rfl,oz,tb,0,fun _=>⟨rfl,(ht.lt _ rfl).2⟩,fun i hi=>?_⟩,oz,oz,?_⟩
 ·have hi':i<m.thr.length:=hi;refine⟨?_,(t3 i oz).2⟩;have:=nV ht (j:=i) (u:=.int .i64 (m.thr.getD i 0)) (aV (aB6 hi'));simpa using this
 ·by_cases h0:0<zs.length
  ·obtain ⟨b,rfl,hbl,hrow⟩:=hb h0;refine ⟨b,0,fun _=>⟨rfl,hbl⟩,fun i=>match zs[i]? with|some z=>⟨some ⟨z.2.pb,0,none⟩,z.1.params.length,z.2.pcap,some ⟨z.2.cb,0,none⟩,z.1.code.length,z.2.ccap⟩|none=>default,fun i hi=>?_⟩;dsimp only;rw [List.getElem?_eq_getElem hi];dsimp only;have e:m.funcs.getD i default=zs[i].1:=by
    rw[<-hz];simp[List.getD_eq_getElem?_getD,List.getElem?_map,List.getElem?_eq_getElem hi]
   have hok:=(f3 i oz).2;rw[e]at hok ⊢;have cc:∀ r u,r<5->(rR zs[i].1 zs[i].2)[r]? = some u->w.cell? ⟨b,0+i*5+r,none⟩=some u:=fun r u hr hu=>by
    have:=nV hrow (j:=i*5+r) (u:=u) (by rw[tK (fun z:aC×K4=>rR z.1 z.2) 5 (fun _=>rfl) zs i r hi hr];exact hu);simpa using this
   exact⟨⟨cc 0 _ oz rfl,cc 1 _ oz rfl,cc 2 _ oz rfl,cc 3 _ oz rfl,cc 4 _ oz rfl⟩,(hr.each zs[i] (List.getElem_mem hi)).ok hok⟩
  ·exact⟨0,0,fun h=>absurd h h0,fun _=>default,fun i hi=>absurd (Nat.lt_of_le_of_lt (Nat.zero_le i) hi) h0⟩
theorem Tryz.info51:(Tryz.prog.info? 42).map (fun i=>(i.zero,i.size,i.bytes))=some (some (.agg #[.string ⟨#[]⟩,.slice none 0 0,.int .i64 0,.int .i64 0,.slice none 0 0]),5,80):=kr
theorem aV9 (b j:Nat):(⟨b,0,none⟩:Addr).add j=⟨b,j,none⟩:=by
 unfold Addr.add;split
 ·rename_i h;rw[h]
 ·simp
/-- a struct of two cells, written whole -/
theorem aV0 {w:World}{k:Nat}{a b:Value}(h:aF w k [a,b]) (x y:Value) :
 (w.setCell ⟨k,0,none⟩ x).cell? ⟨k,0,none⟩=some x/\((w.setCell ⟨k,0,none⟩ x).setCell ⟨k,1,none⟩ y).cell? ⟨k,1,none⟩=some y/\(w.setCell ⟨k,0,none⟩ x).cell? ⟨k,1,none⟩=some b:=by
 have h1:=h.set 0 x si;have h2:=h1.set 1 y si;exact⟨h1.2.1 0 _ rfl,h2.2.1 1 _ rfl,h1.2.1 1 _ rfl⟩
def aBh (m:bA) (w:World) (e:Ending) (w':World):Prop:=∃ M tb tcap fv zs,e=.returned (.agg #[.slice (some ⟨tb,0,none⟩) m.thr.length tcap,fv])/\Below w.heap.size w w'/\M<=w'.heap.size/\iT w.heap.size M w' m tb tcap fv zs
/-- the end of Copy -/
theorem aKx (Q:Ending->World->Prop) (T:Array Value) (W:World) (k:Nat) (a b:Value) (ho:aF W k [a,b]) (hT:T[2]? = some (.pointer (some ⟨k,0,none⟩)))
 (hq:Q (.returned (.agg #[a,b])) W):bodyPost Tryz.prog Tryz.f5 Q .ret { tmps:=T,defers:=[] } W:=by
 obtain⟨_,r0,r1,_⟩:=aD ho;have hr:(results Tryz.f5 T).run Tryz.prog W=.ok (.agg #[a,b]) W:=by
  simp[results,Tryz.results5,go_sem,hT,r0,r1]
 exact bodyPost_ret hr rfl hq
theorem aR0 {B:Nat}(v:Value) (m:bA) (w:World) (hB:B<=w.heap.size) (hm:cP B w v m) (hs:aGs m) :
 Calls Tryz.prog 5 #[v] w (aBh m w):=by
 obtain⟨i0,hi,hz0,hz1,hz2⟩:=info_parts Tryz.info64;obtain⟨j0,gi,gz0,gz1,gz2⟩:=info_parts Tryz.info51;obtain⟨s1,s2,s3⟩:=hs;obtain⟨ta,tl,tc,fa,fl,fc,rfl,ht,hf⟩:=hm;have htl:=ht.1;have hfl:=hf.1;subst htl hfl;obtain⟨_,_,fb,fo,hfa,H,hcs⟩:=hf;have HT:=qd ht;clear ht;have Hcs:=qd hcs;clear hcs;have S3:=qd s3;clear s3;have hml:m.thr.length<=maxLen:=by unfold maxLen;omega
 have hsrc:∀ w1,aQ B w w1->0<m.thr.length->∃ b o,ta=some ⟨b,o,none⟩/\∀ j u,(aR m.thr)[j]? = some u->w1.cell? ⟨b,o+j,none⟩=some u:=by
  intro w1 hs h0;obtain⟨_,_,b,o,hb,hc⟩:=HT.out.same hs;refine⟨b,o,(hb h0).1,fun j u hu=>?_⟩;have hj:j<m.thr.length:=by have:=(List.getElem?_eq_some_iff.1 hu).1;simpa[aR]using this
  have:=(hc j hj).1;rw[aV (aB6 hj)]at hu;rw[this];exact hu
 have Hsrc:=qd hsrc;clear hsrc;go_enter Tryz.func5,Tryz.ntmps5;go_wp2_with (at_builtin;refine gO _ rfl (.tmp 6) (.tmp 8) 22 rfl 2 i0 _ 1 8 Tryz.underlying22 hi hz0 hz1 hz2 rfl dc (w.heap.size+1+1) rfl ?own ta m.thr.length tc (aR m.thr) rfl ?c1 ?c2 ?c3 ?c4 ?c5 ?_)
 case own=>exact oX si
 case c1=>simp[aR]
 case c2=>exact Hsrc.out _ aFv
 case c3=>intro u hu;obtain⟨n,_,rfl⟩:=List.mem_map.1 hu;rfl
 intro tb tcap w1 dG hb1 htb;have htb2:w.heap.size+2<=tb:=by rcases htb with h|h<;>first|omega|(simp at h;omega)
 have htl1:tb<w1.heap.size:=(dG.lt tb rfl).2;have hz1':w.heap.size+1+1<w1.heap.size:=by have:=hb1.size;simp at this;omega
 have eL:=(((aF.new w [.slice ta m.thr.length tc,.slice fa m.funcs.length fc] 25).alloc (.cells #[.slice none 0 0,.slice none 0 0] 25)).alloc (.cells #[] 2)).of_below hb1 oz;have or1:=((aF.new' (w.alloc (.cells #[.slice ta m.thr.length tc,.slice fa m.funcs.length fc] 25)) [.slice none 0 0,.slice none 0 0] 25 (w.heap.size+1) si).alloc (.cells #[] 2)).of_below hb1 oz;have hbw1:Below w.heap.size w w1:=bel;have OB1:=qd eL;clear eL;have OR1:=qd or1;clear or1;have T1:=qd dG;clear dG;go_wp2;generalize hW0:World.alloc _ _=W0;have hbw0:Below w.heap.size w W0:=by rw[<-hW0];exact bel
 have hk0:Below w1.heap.size w1 W0:=by rw[<-hW0];exact bel
 have OO:=qd (show aF W0 w1.heap.size [.slice (some ⟨tb,0,none⟩) m.thr.length tcap,.slice none 0 0] by rw[<-hW0];exact aF.new w1 _ _);have hM:W0.heap.size=w1.heap.size+1:=by rw[<-hW0];simp
 clear hW0;have OB:=qd (OB1.out.below hk0);have OR:=qd (OR1.out.below hk0);have TT:=qd (eK (S:=fun _=>False) (aG.of hk0) T1.out (fun h=>h));obtain⟨M,hMe⟩:∃ M,M=W0.heap.size:=⟨_,rfl⟩
 go_loopw [4] (fun i wr=>∃ (k:Nat) (fv:Value) (zs:List (aC×K4)),k<=m.funcs.length/\i=.int .i64 k/\Below w.heap.size w wr/\M<=wr.heap.size/\Hid (zs.map (·.1)=m.funcs.take k)/\Hid (xK wr M fv zs)/\Hid (aF wr w1.heap.size [.slice (some ⟨tb,0,none⟩) m.thr.length tcap,fv])/\Hid (aF wr w.heap.size [.slice ta m.thr.length tc,.slice fa m.funcs.length fc])/\Hid (aF wr (w.heap.size+1) [.slice none 0 0,.slice none 0 0])/\Hid (wr.ownsRow 0 2 1 (.slice (some ⟨tb,0,none⟩) m.thr.length tcap) m.thr.length (aR m.thr))) (fun i _=>m.funcs.length-(intOf i).toNat)
 case atStart =>
  exact⟨0,.slice none 0 0,[],Nat.zero_le _,rfl,hbw0,oz,qd si,qd ⟨World.ownsRow_nil _ _ _ _,fun b h=>by simp[Value.ownBlock]at h,fun z hz=>by simp at hz,si⟩,OO,OB,OR,TT⟩
 case round =>
  obtain⟨k,fv,zs,hk,rfl,hbel,hMr,hzs,hrow,hO,hB0,hR0,hT0⟩:=hrel;obtain⟨fa1,fc1,hfv⟩:∃ a c,fv=.slice a zs.length c:=by
   rcases hrow.out.row.2 with⟨e,e2⟩|⟨g',cap',cur,hv,_⟩
   ·exact⟨none,0,by rw[e,e2]⟩
   ·exact⟨_,_,hv⟩
  have Hfv:=qd hfv;clear hfv;have ob:=aD hB0.out;have oo:=aD hO.out;have hzr:=hO.out.1;by_cases hlt:k<m.funcs.length
  ·have d2:(k:Int)<(m.funcs.length:Int):=oz
   have hwk:IntKind.i64.wrap ((k:Int)+1)=(k:Int)+1:=IntWalk.i64_in _ oz;have hwk0:IntKind.i64.wrap (k:Int)=(k:Int):=IntWalk.i64_in _ oz;obtain⟨rfl,hfb⟩:=hfa oz;obtain⟨⟨c0,c1,c2,c3,c4⟩,ok⟩:=Hcs.out k hlt;have hc:=(bT hbel).1;have u0:=(hc fb _ oz).trans c0;have u1:=(hc fb _ oz).trans c1;have u2:=(hc fb _ oz).trans c2;have u3:=(hc fb _ oz).trans c3;have u4:=(hc fb _ oz).trans c4;have hfbw:fb<wr.heap.size:=oz
   have sm:aQ B w wr:=aQ.of hbel hB;have hl3:=S3.out k hlt;unfold bX at hl3;have hcall:=fun w1 h0 (hs:aQ B w w1)=>aCs B (m.funcs.getD k default) (H k) w1 h0 (ok.same hs) hl3.1 hl3.2;have HC:=qd hcall;clear hcall;have hge:m.funcs[k]? = some (m.funcs.getD k default):=by simp[List.getD_eq_getElem?_getD,List.getElem?_eq_getElem hlt]
   have Hge:=qd hge;clear hge;clear hc c0 c1 c2 c3 c4 ok hl3;unfold aI at HC;generalize m.funcs.getD k default=ff at *;generalize H k=hh at *;have hlen:zs.length=k:=by have:=congrArg List.length hzs.out;simp at this;omega
   have HL:=qd hlen;clear hlen;go_wp2_with (first
    | (go_at_call 15;refine(HC.out _ jU aFv).mono ?_;rintro e w2 ⟨pb,pcap,cb,ccap,rfl,hb2,p1,p2,p3,r1,r2⟩;unfold aUh;have R1:=qd r1;clear r1;have R2:=qd r2;clear r2;have O2:=qd (hO.out.below hb2);have oo2:=aD O2.out;have hz2:=hb2.size;have hzo:w1.heap.size<w2.heap.size:=oz;dsimp only)
    | (at_builtin;refine pN _ rfl (.tmp 25) (.tmp 27) 23 rfl 42 j0 (.agg #[.string ⟨#[]⟩,.slice none 0 0,.int .i64 0,.int .i64 0,.slice none 0 0]) 5 80 ?a3 ?a4 ?a5 ?a6 ?a7 ?a8 ?a9 fv zs.length (zs.flatMap fun z=>rR z.1 z.2) ?b1 ?b2 ⟨w2.heap.size+1,0,none⟩ 1 1 (rR ff ⟨pb,pcap,cb,ccap⟩) ?b3 ?b4 ?b5 ?b6 ?b7 ?b8 ?b9))
   case a3=>exact Tryz.underlying23
   case a4=>exact gi
   case a5=>exact gz0
   case a6=>exact gz1
   case a7=>exact gz2
   case a8=>rfl
   case a9=>decide
   case b1=>rfl
   case b3=>rfl
   case b4=>rfl
   case b6=>intro u hu;simp only[rR,List.mem_cons,List.not_mem_nil,or_false]at hu;rcases hu with rfl|rfl|rfl|rfl|rfl<;>rfl
   case b7=>have:=HL.out;unfold maxLen;omega
   case b8=>have:=HL.out;omega
   case b2=>exact((hrow.out.chg (S:=fun _=>False) (aG.of hb2) (fun k h=>h.elim)).chg (S:=fun _=>False) (((aG.refl _ _).alloc _).alloc _) (fun k h=>h.elim)).row
   case b5 =>
    intro j u hu;have hq:=(aF.new' (w2.alloc (.cells #[.string ff.name,.slice (some ⟨pb,0,none⟩) ff.params.length pcap,.int .i64 ff.regs,.int .i64 ff.words,.slice (some ⟨cb,0,none⟩) ff.code.length ccap] 42)) (rR ff ⟨pb,pcap,cb,ccap⟩) 42 (w2.heap.size+1) si).2.1 j u hu;rw[aV9];exact hq
   case b9 =>
    intro fv2 w4 hown4 hgr hnn;obtain⟨sb2,cap2,rfl⟩:∃ sb cap,fv2=.slice (some ⟨sb,0,none⟩) (zs.length+1) cap:=by
     rcases hown4.2 with⟨_,h0⟩|⟨g',cap',cur,hv,_⟩
     ·omega
     ·exact⟨g',cap',hv⟩
    have k3:aG (fun _=>False) w2 ((w2.alloc (.cells #[.string ff.name,.slice (some ⟨pb,0,none⟩) ff.params.length pcap,.int .i64 ff.regs,.int .i64 ff.words,.slice (some ⟨cb,0,none⟩) ff.code.length ccap] 42)).alloc (.cells #[.string ff.name,.slice (some ⟨pb,0,none⟩) ff.params.length pcap,.int .i64 ff.regs,.int .i64 ff.words,.slice (some ⟨cb,0,none⟩) ff.code.length ccap] 42)):=((aG.refl _ _).alloc _).alloc _;have hsz3:((w2.alloc (.cells #[.string ff.name,.slice (some ⟨pb,0,none⟩) ff.params.length pcap,.int .i64 ff.regs,.int .i64 ff.words,.slice (some ⟨cb,0,none⟩) ff.code.length ccap] 42)).alloc (.cells #[.string ff.name,.slice (some ⟨pb,0,none⟩) ff.params.length pcap,.int .i64 ff.regs,.int .i64 ff.words,.slice (some ⟨cb,0,none⟩) ff.code.length ccap] 42)).heap.size=w2.heap.size+1+1:=si
    generalize hW3:World.alloc (World.alloc w2 _) _=W3 at *;have kr:aG (fun _=>False) wr W3:=(aG.of hb2).trans k3;have hR3:=hrow.out.chg kr (fun k h=>h.elim);have hx:nG W3 M ff ⟨pb,pcap,cb,ccap⟩:=nG.chg (S:=fun _=>False) ⟨by simp only[];omega,by simp only[];omega,R1.out,R2.out⟩ k3 (fun h=>h) (fun h=>h);have hlt3:=hrow.out.row.lt;have hP:=hR3.push hx (fun b hb=>by have:=(hlt3 b hb).2;simp only[];omega) p3 (fun z hz=>by have q1:z.2.pb<wr.heap.size:=((hrow.out.each z hz).2.2.1.lt _ rfl).2;have q2:z.2.cb<wr.heap.size:=((hrow.out.each z hz).2.2.2.lt _ rfl).2;simp only[];omega) oz hown4 hgr (by rw[hsz3];exact hnn);have k4:=jT hgr;have hfarM:=fun b hb=>(hrow.out.far b hb).1;have hz4:=k4.size;have o4:=k4.own ((k3.own O2.out (fun h=>h))) (fun e=>by have:=hfarM _ e;omega);have b4:=k4.own (kr.own hB0.out (fun h=>h)) (fun e=>by have:=hfarM _ e;omega);have r4:=k4.own (kr.own hR0.out (fun h=>h)) (fun e=>by have:=hfarM _ e;omega);have t4:=eK k4 (eK kr hT0.out (fun h=>h)) (fun e=>by have:=hfarM _ e;omega);have bel4:Below w.heap.size w w4:=hbel.trans ((kr.below w.heap.size oz (fun _ _ h=>h)).trans (k4.below w.heap.size oz (fun x hx e=>by have:=hfarM _ e;omega)));have oo4:=aD o4;have HP:=qd hP;clear hP;have O4:=qd o4;clear o4;have B4:=qd b4;clear b4;have R4:=qd r4;clear r4;have T4:=qd t4;clear t4;clear hown4 hx hR3 k3 kr k4 hgr hnn;go_wp2
    go_roundw
    case rel =>
     have kc:aG (fun x=>x=w1.heap.size) w4 (w4.setCell ⟨w1.heap.size,1,none⟩ (.slice (some ⟨sb2,0,none⟩) (zs.length+1) cap2)):=(aG.refl (fun x=>x=w1.heap.size) w4).setCell (p:=⟨w1.heap.size,1,none⟩) (.inl rfl) _;refine⟨k+1,_,zs++[(ff,⟨pb,pcap,cb,ccap⟩)],oz,si,bel4.trans (kc.below w.heap.size oz (fun x hx e=>by omega)),by simp;omega,qd ?_,qd (HP.out.chg kc (fun x e=>by omega)),qd (O4.out.set 1 _ si),qd (kc.own B4.out oz),qd (kc.own R4.out oz),qd (eK kc T4.out oz)⟩;rw[List.map_append,hzs.out,List.take_add_one,Hge.out];rfl
    case measure=>go_light;exact ml
  ·have hkn:k=m.funcs.length:=oz
   subst hkn;have d2:¬(m.funcs.length:Int)<(m.funcs.length:Int):=oz
   obtain rfl:=Hfv.out;have rr:=aD hR0.out;have ss:=aV0 hR0.out;go_wp2;refine aKx _ _ _ (w.heap.size+1) _ _ ((hR0.out.set 0 _ si).set 1 _ si) rfl ?_;have kc:aG (fun x=>x=w.heap.size+1) wr ((wr.setCell ⟨w.heap.size+1,0,none⟩ (.slice (some ⟨tb,0,none⟩) m.thr.length tcap)).setCell ⟨w.heap.size+1,1,none⟩ (.slice fa1 zs.length fc1)) :=
    ((aG.refl (fun x=>x=w.heap.size+1) wr).setCell (p:=⟨w.heap.size+1,0,none⟩) (.inl rfl) _).setCell (p:=⟨w.heap.size+1,1,none⟩) (.inl rfl) _
   have hz:=hbel.size;refine⟨M,tb,tcap,_,zs,rfl,hbel.trans (kc.below w.heap.size oz (fun x hx e=>by omega)),by simp;omega,oz,oz,eK kc hT0.out oz,?_,hrow.out.chg kc (fun x e=>by omega)⟩;rw[hzs.out,List.take_length]
end Go.Proofs.YteebpnbdihcfmaaGreatDoor
