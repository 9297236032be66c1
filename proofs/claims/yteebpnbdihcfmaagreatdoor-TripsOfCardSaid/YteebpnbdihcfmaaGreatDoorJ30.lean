/- R16 -/
import Derived.Test.YteebpnbdihcfmaaGreatDoorJ26
import Derived.Test.YteebpnbdihcfmaaGreatDoorJ28
import Derived.Test.YteebpnbdihcfmaaGreatDoorJ27
import Derived.Test.YteebpnbdihcfmaaGreatDoorJ25
import Derived.Test.YteebpnbdihcfmaaGreatDoorJ12
set_option linter.unusedVariables false
set_option linter.unusedSimpArgs false
set_option maxRecDepth 100000
set_option maxHeartbeats 20000000
namespace Go.Proofs.YteebpnbdihcfmaaGreatDoor
open Go.RowKit
theorem aVb {p:Prop}(h:p:=by
 try clear Ee
 simp only[GE,Act.put,SU];go_wp2;refine⟨⟨j+1,_,_,oz,si,qd hp6.1,hB2.trans (hp6.2.below _ hB2.size (fun k hk e=>by omega))⟩,?_⟩;go_light;exact ml):p:=h
theorem aVk {p:Prop}(h:p:=by
 try clear Ee
 simp only[GE,Act.put,SU];go_wp2;go_meet;exact⟨g6,c6,qd hp6.1,hB9.trans (hp6.2.below _ hB9.size (fun k hk e=>by omega))⟩):p:=h
theorem aOy (x:dJ) (B:Nat) (m:bA) (hh:HF) (f:aC) (ta fa:Option Addr) (tl tc fl fc:Nat) (frm:Nat) (to_:Int) (g n c:Nat) (r:List aB) (w:World) (hB:B<=w.heap.size) (hmo:cP B w (.agg #[.slice ta tl tc,.slice fa fl fc]) m) (hf:aZ B w hh f) (hfl:frm<f.code.length) (hn1:f.code.length<=1024) (hx:f.code.getD frm default=x) (hi:cY m f x) (hr:kA w g n c r) (hrg:(n:Int)=f.regs) (hn:n<=64) (hrok:gU n r) (hw0:0<=f.words) (hw1:f.words<=4096):Calls Tryz.prog 29 #[.agg #[.slice ta tl tc,.slice fa fl fc],aI hh f,.int .i64 frm,.int .i64 to_,.slice (some ⟨g,0,none⟩) n c] w (lM w n (gP m f frm to_ r)):=by
 have h0:=hi.op0;have h1:=hi.op1;obtain h|h|h|h:((x.op=3\/x.op=4\/x.op=5\/x.op=8\/x.op=9)\/(x.op=10)\/(x.op=18))\/((x.op=13)\/(x.op=0\/x.op=14\/x.op=1\/x.op=2)\/(x.op=17))\/((x.op=15)\/(x.op=16)\/(x.op=11)\/(x.op=12))\/((x.op=6)\/(x.op=7)\/(x.op=19)):=oz
 ·exact aTk x B m hh f ta fa tl tc fl fc frm to_ g n c r w hB hmo hf hfl hn1 hx hi hr hrg hn hrok hw0 hw1 h
 ·exact aSz x B m hh f ta fa tl tc fl fc frm to_ g n c r w hB hmo hf hfl hn1 hx hi hr hrg hn hrok hw0 hw1 h
 ·exact aS3 x B m hh f ta fa tl tc fl fc frm to_ g n c r w hB hmo hf hfl hn1 hx hi hr hrg hn hrok hw0 hw1 h
 ·exact aSl x B m hh f ta fa tl tc fl fc frm to_ g n c r w hB hmo hf hfl hn1 hx hi hr hrg hn hrok hw0 hw1 h
section
/-- the stands; the blocks of F are none of theirs -/
def RSq (N:Nat) (W:World) (lb lc:Nat) (kk:Nat->Nat) (cv:Nat->Nat×Nat) (n regs:Nat) (s:fF) (F:Nat->Prop):Prop:=∃ iv tg,RAt N W ⟨lb,lc,kk,iv,cv,tg⟩ n regs s/\∀ x,F x->tg x=0/\x<W.heap.size
section
variable {N : Nat} {W W' : World} {lb lc n regs : Nat} {kk : Nat -> Nat} {cv : Nat -> Nat × Nat} {s : fF} {F F' : Nat -> Prop}
theorem RSq.grow (h:RSq N W lb lc kk cv n regs s F) (hb:Below W.heap.size W W') (hF:∀ x,F' x->F x\/(W.heap.size<=x/\x<W'.heap.size)):RSq N W' lb lc kk cv n regs s F':=by
 obtain⟨iv,tg,h,h2⟩:=h;refine⟨iv,tg,h.below hb,fun x hx=>?_⟩;have:=hb.size;rcases hF x hx with e|e
 ·exact⟨(h2 x e).1,by have:=(h2 x e).2;omega⟩
 ·exact⟨h.fr x e.1,e.2⟩
theorem RSt.q (h:RSt N W lb lc kk cv n regs s):RSq N W lb lc kk cv n regs s (fun _=>False):=by
 obtain⟨iv,tg,h⟩:=h;exact⟨iv,tg,h,fun _ e=>e.elim⟩
theorem RSq.st (h:RSq N W lb lc kk cv n regs s F):RSt N W lb lc kk cv n regs s:=by
 obtain⟨iv,tg,h,-⟩:=h;exact⟨iv,tg,h⟩
theorem aLp (h:RSq N W lb lc kk cv n regs s F) (hb:Below W.heap.size W W') {tt ob oc:Nat}{ta:Option Addr}{tl tc:Nat}{thr:List Int}{next:List aB}(htt:tt<n) (hN:N<=W.heap.size) (hr:kA W ob regs oc next) (hF:F ob) (ht:cI N W ta tl thr) (h1:1<=regs) (h64:regs<=64) (hs:rC n regs s) (hnx:gU regs next) :
 Calls Tryz.prog 60 #[.pointer (some ⟨kk tt,0,none⟩),.slice (some ⟨ob,0,none⟩) regs oc,.slice ta tl tc] W' fun e w'=>e=.returned (.tuple #[])/\RSq N w' lb lc kk cv n regs (cM thr s tt next) F/\aG (fun x=>N<=x/\¬F x) W' w':=by
 obtain⟨iv,tg,h,h2⟩:=h.grow (F':=F) hb (fun x e=>.inl e);have hz:=hb.size;have hlo:∀ x,sdS (kk tt) (iv tt) (cv tt).1 x->N<=x/\¬F x:=fun x hx=>by
  have ht:=h.tags htt hx;dsimp only at ht;exact⟨h.lo x (by dsimp only;omega),fun e=>by have:=(h2 x e).1;omega⟩
 refine(aG8 N (kk tt) (iv tt) (cv tt).1 (cv tt).2 regs (qX s tt) thr ta tl tc ob oc next W' (h.sd tt htt) (aA hb hr) (fun e=>(hlo _ e).2 hF) (fun x hx=>(hlo x hx).1) oz (ht.same (aQ.of' (hb.mono hN))) h1 h64 (hs.inn tt htt) hnx (hs.chg tt htt)).mono ?_;rintro e w' ⟨h1,iv',h3,h4,h5⟩;obtain⟨e1,e2⟩:=aKp thr s next h.li h.lc h.lm h.lj htt
 have l:(cM thr s tt next).inn.length=n/\(cM thr s tt next).chg.length=n/\(cM thr s tt next).mrk.length=n/\(cM thr s tt next).jn.length=n:=by
  have l1:=h.li;have l2:=h.lc;have l3:=h.lm;have l4:=h.lj;unfold cM;split
  ·simp[l1,l2,l3,l4]
  ·split<;>simp[l1,l2,l3,l4]
 obtain⟨iv2,tg2,h6,h7⟩:=h.one (s':=cM thr s tt next) htt oz h4 (by rw[e1];exact h3) h5 e2 l.1 l.2.1 l.2.2.1 l.2.2.2;refine⟨h1,⟨iv2,tg2,h6,fun x hx=>?_⟩,h4.mono fun x _ hx=>hlo x hx⟩;have:=h4.size;exact⟨(h7 x (h2 x hx).2).trans (h2 x hx).1,by have:=(h2 x hx).2;omega⟩
end
/-- what stands when k ways are gone -/
def pZ (m:bA) (f:aC) (i:Nat) (inn:List aB) (ls:List Int) (s:fF) (k:Nat):fF:=(ls.take k).foldl (iW m f i inn) s
theorem aH4 (m:bA) (f:aC) (i:Nat) (inn:List aB) (ls:List Int) (s:fF) {k:Nat}{t:Int}(hk:ls[k]? = some t):pZ m f i inn ls s (k+1)=iW m f i inn (pZ m f i inn ls s k) t:=by
 unfold pZ;rw[List.take_add_one,hk,List.foldl_append];rfl
theorem aRg {m:bA}{f:aC}{s:fF}{i:Nat}(h:(kF m f s i).mrk.getD i false=true):kF m f s (i+1)=pZ m f i ((kF m f s i).inn.getD i []) (aY f i) { kF m f s i with mrk:=(kF m f s i).mrk.set i false } (aY f i).length/\iZ m f s (i+1)=true:=by
 rw[vV,nD,h,Bool.or_true];refine⟨?_,rfl⟩;unfold gF pZ;rw[h,List.take_length];rfl
theorem aM6 {m:bA}{f:aC}{s:fF}{i:Nat}(h:(kF m f s i).mrk.getD i false=false):kF m f s (i+1)=kF m f s i/\iZ m f s (i+1)=iZ m f s i:=by
 rw[vV,nD,h,Bool.or_false];refine⟨?_,rfl⟩;unfold gF;rw[h];rfl
theorem aSj {f:aC}{i k:Nat}{ls:List Int}(hls:aY f i=ls) (hk:k<ls.length):∃ tt:Nat,ls[k]? = some (tt:Int)/\tt<f.code.length/\(tt:Int)∈aY f i:=by
 subst hls;have hm:=List.getElem_mem hk;obtain⟨h1,h2⟩:=gQ f i _ hm;obtain⟨tt,ht⟩:=Int.eq_ofNat_of_zero_le h1;rw[ht]at h2 hm;exact⟨tt,by rw[List.getElem?_eq_getElem hk,ht],oz,hm⟩
theorem aG7 {w:World}{e size n c:Nat}{a:Option Addr}{xs:List Value}(h:w.ownsRow 0 e size (.slice a n c) n xs) (hn:0<n):n<=maxLen/\∃ g,a=some ⟨g,0,none⟩:=by
 obtain⟨g,c2,h1,h2,h3,-⟩:=bB h hn;injection h1 with h4;exact⟨oz,g,h4⟩
theorem aPd (B:Nat) (pa ca:Option Addr) (pl pc cl cc rg i:Nat) (f:aC) (w:World) (hB:B<=w.heap.size) (hf:aZ B w ⟨pa,pl,pc,ca,cl,cc⟩ f) (hrg:f.regs=rg) (hi:i<f.code.length) (hn:f.code.length<=1024) :
 Calls Tryz.prog 59 #[.agg #[.string f.name,.slice pa pl pc,.int .i64 rg,.int .i64 f.words,.slice ca cl cc],.int .i64 i] w fun e w'=>∃ v,e=.returned v/\∃ a c,v=.slice a (aY f i).length c/\Below w.heap.size w w'/\w'.ownsRow 0 3 1 (.slice a (aY f i).length c) (aY f i).length (aR (aY f i))/\∀ k,(Value.slice a (aY f i).length c).ownBlock=some k->w.heap.size<=k:=by
 have h0:=vG B _ f i w hB hf hi hn;unfold aI at h0;rw[hrg]at h0;refine h0.mono ?_;rintro e w' ⟨v,rfl,h1,h2,h3⟩;rcases bU h2 with⟨rfl,h4,-⟩|⟨g,c,rfl,-⟩
 ·exact⟨_,rfl,none,0,by rw[h4],h1,by rw[h4]at h2 ⊢;exact h2,fun k hk=>by simp[Value.ownBlock]at hk⟩
 ·exact⟨_,rfl,_,c,rfl,h1,h2,h3⟩
theorem aMn {B:Nat}{w:World}{v:Value}{m:bA}{f:aC}(hm:cP B w v m) (he:(dS m).e=0) {fn:Nat}(hfn:fn<m.funcs.length) (hfe:bX m fn=f) {rg:Nat}(hrg:f.regs=rg) :
 ∀ (a:Nat) (inn:List aB) (t:Int) (out:List aB),a<f.code.length->gU rg inn->t∈aY f a->gP m f a t inn=some out->gU rg out:=by
 subst hfe;exact aEw hm he hfn hrg
def aRr (N n:Nat) (R:Option (List aB)) (sv:Value) (b:Bool) (w':World):Prop:=(b=false/\R=none)\/∃ q ob oc,b=true/\R=some q/\sv=.slice (some ⟨ob,0,none⟩) n oc/\N<=ob/\kA w' ob n oc q
theorem aJj {B:Nat}{m:bA}{fn:Nat}{pa ca ta fa:Option Addr}{pl pc cc rg i tl tc fl fc g c:Nat}{f:aC}{t:Int}{inn:List aB}{W w:World}(hB:B<=W.heap.size) (hmo:cP B W (.agg #[.slice ta tl tc,.slice fa fl fc]) m) (he:(dS m).e=0) (hfn:fn<m.funcs.length) (hfe:bX m fn=f) (hf:aZ B W ⟨pa,pl,pc,ca,f.code.length,cc⟩ f) (hrg:f.regs=rg) (hi:i<f.code.length) (hr:kA W g rg c inn) (ho:gU rg inn) (hb:Below W.heap.size W w) :
 Calls Tryz.prog 29 #[.agg #[.slice ta tl tc,.slice fa fl fc],.agg #[.string f.name,.slice pa pl pc,.int .i64 rg,.int .i64 f.words,.slice ca f.code.length cc],.int .i64 i,.int .i64 t,.slice (some ⟨g,0,none⟩) rg c] w fun e w'=>∃ v,e=.returned v/\∃ sv b,v=.tuple #[sv,.bool b]/\Below w.heap.size w w'/\aRr W.heap.size rg (gP m f i t inn) sv b w':=by
 have hfine:=nE he;have h1:=hfine.fn fn hfn;have h2:=hfine.ins fn i hfn (by rw[hfe];exact hi);rw[hfe]at h1 h2;have h3:=hb.size;have sm:aQ B W w:=aQ.of hb hB;have h0:=aOy _ B m _ f ta fa tl tc fl fc i t g rg c inn w oz (hmo.same sm) (hf.same sm) hi h1.c2 rfl h2 (aA hb hr) hrg.symm (by have:=h1.r2;omega) ho h1.w0 h1.w1;unfold aI at h0;rw[hrg]at h0;refine h0.mono ?_;rintro e w' ⟨h4,h5⟩;cases hw:gP m f i t inn with
 | none =>
  rw[hw]at h5;exact⟨_,h5,_,_,rfl,h4,.inl ⟨rfl,rfl⟩⟩
 | some q =>
  rw[hw]at h5;obtain⟨ob,oc,h5,h6,h7⟩:=h5;exact⟨_,h5,_,_,rfl,h4,.inr ⟨q,ob,oc,rfl,rfl,rfl,Nat.le_trans h3 h6,h7⟩⟩
end
section
theorem Tryz.infoSl:(Tryz.prog.info? 39).map (fun i=>(i.zero,i.size,i.bytes))=some (some (.slice none 0 0),1,24):=kr
structure RO (ka:Nat) (W:World) (i j rg:Nat) (vi vc:Value) (iv:Nat->Option (Nat×Nat)) (cv:Nat->Nat×Nat):Prop where
 o:aF W ka [vi,vc]
 ri:W.ownsRow 0 39 1 vi i (fS i rg iv)
 rc:W.ownsRow 0 50 1 vc j (lC j rg cv)
 b1:∀ x,vi.ownBlock=some x->ka<x
 b2:∀ x,vc.ownBlock=some x->ka<x/\¬vi.ownBlock=some x
section
variable {ka i j rg g cap : Nat} {W W3 w6 : World} {vi vc : Value} {iv : Nat -> Option (Nat × Nat)} {cv : Nat -> Nat × Nat}
theorem RO.pushI {u:Value}(h:RO ka W i j rg vi vc iv cv) (hu:jF rg (iv i)=u) (hb:Below W.heap.size W W3) (hr:w6.ownsRow 0 39 1 (.slice (some ⟨g,0,none⟩) (i+1) cap) (i+1) (fS i rg iv++[u])) (hc:aG (fun k=>vi.ownBlock=some k) W3 w6) (hg:vi.ownBlock=some g\/g=W3.heap.size) :
 RO ka (w6.setCell ⟨ka,0,none⟩ (.slice (some ⟨g,0,none⟩) (i+1) cap)) (i+1) j rg (.slice (some ⟨g,0,none⟩) (i+1) cap) vc iv cv/\aG (fun k=>ka<=k) W (w6.setCell ⟨ka,0,none⟩ (.slice (some ⟨g,0,none⟩) (i+1) cap)):=by
 have hz:=hb.size;have hka:=h.o.1;have hcW:aG (fun k=>vi.ownBlock=some k) W w6:=(aG.of hb).trans hc;have hs:aG (· = ka) w6 (w6.setCell ⟨ka,0,none⟩ (.slice (some ⟨g,0,none⟩) (i+1) cap)):=aG.setCell (S:=(· = ka)) (aG.refl _ _) (p:=⟨ka,0,none⟩) (Or.inl rfl) _;have hgk:ka<g:=by
  rcases hg with e|e
  ·exact h.b1 _ e
  ·omega
 have hl:fS (i+1) rg iv=fS i rg iv++[u]:=by rw[<-hu];unfold fS;rw[List.range_succ,List.map_append];rfl
 refine⟨⟨(hcW.own h.o (fun e=>by have:=h.b1 _ e;omega)).set 0 _ si,?_,aN hs (aN hcW h.rc (fun k hk e=>(h.b2 k hk).2 e)) (fun k hk e=>by have:=(h.b2 k hk).1;omega),fun x hx=>?_,fun x hx=>⟨(h.b2 x hx).1,fun e=>?_⟩⟩,(hcW.mono fun k _ hk=>Nat.le_of_lt (h.b1 k hk)).trans (aG.setCell (aG.refl _ _) (p:=⟨ka,0,none⟩) (.inl lr) _)⟩
 ·rw[hl];exact aT hs hr oz
 ·have e:g=x:=by simpa[Value.ownBlock]using hx
  omega
 ·have e:g=x:=by simpa[Value.ownBlock]using e
  subst e;rcases hg with e|e
  ·exact(h.b2 _ hx).2 e
  ·have:=cA h.rc hx;omega
theorem RO.pushC {u:Value}(h:RO ka W i j rg vi vc iv cv) (hu:mX rg (cv j)=u) (hb:Below W.heap.size W W3) (hr:w6.ownsRow 0 50 1 (.slice (some ⟨g,0,none⟩) (j+1) cap) (j+1) (lC j rg cv++[u])) (hc:aG (fun k=>vc.ownBlock=some k) W3 w6) (hg:vc.ownBlock=some g\/g=W3.heap.size) :
 RO ka (w6.setCell ⟨ka,1,none⟩ (.slice (some ⟨g,0,none⟩) (j+1) cap)) i (j+1) rg vi (.slice (some ⟨g,0,none⟩) (j+1) cap) iv cv/\aG (fun k=>ka<=k) W (w6.setCell ⟨ka,1,none⟩ (.slice (some ⟨g,0,none⟩) (j+1) cap)):=by
 have hz:=hb.size;have hka:=h.o.1;have hcW:aG (fun k=>vc.ownBlock=some k) W w6:=(aG.of hb).trans hc;have hs:aG (· = ka) w6 (w6.setCell ⟨ka,1,none⟩ (.slice (some ⟨g,0,none⟩) (j+1) cap)):=aG.setCell (S:=(· = ka)) (aG.refl _ _) (p:=⟨ka,1,none⟩) (Or.inl rfl) _;have hgk:ka<g:=by
  rcases hg with e|e
  ·exact(h.b2 _ e).1
  ·omega
 have hl:lC (j+1) rg cv=lC j rg cv++[u]:=by rw[<-hu];unfold lC;rw[List.range_succ,List.map_append];rfl
 refine⟨⟨(hcW.own h.o (fun e=>by have:=(h.b2 _ e).1;omega)).set 1 _ si,aN hs (aN hcW h.ri (fun k hk e=>(h.b2 k e).2 hk)) (fun k hk e=>by have:=h.b1 k hk;omega),?_,h.b1,fun x hx=>?_⟩,(hcW.mono fun k _ hk=>Nat.le_of_lt (h.b2 k hk).1).trans (aG.setCell (aG.refl _ _) (p:=⟨ka,1,none⟩) (.inl lr) _)⟩
 ·rw[hl];exact aT hs hr oz
 ·have e:g=x:=by simpa[Value.ownBlock]using hx
  subst e;refine⟨hgk,fun e2=>?_⟩;rcases hg with e|e
  ·exact(h.b2 _ e).2 e2
  ·have:=cA h.ri e2;omega
theorem RO.at6 (h:RO ka W i j rg vi vc iv cv) (hb:Below W.heap.size W W3) {v:Value}(hv:v=vi\/v=vc) (hc:aG (fun k=>v.ownBlock=some k) W3 w6):aF w6 ka [vi,vc] :=
 ((aG.of hb).trans hc).own h.o (fun e=>by
  rcases hv with rfl|rfl
  ·have:=h.b1 _ e;omega
  ·have:=(h.b2 _ e).1;omega)
end
theorem aOq (rg:Nat) (o:Option (Nat×Nat)):∃ a l c,jF rg o=.slice a l c:=by
 cases o
 ·exact⟨_,_,_,rfl⟩
 ·exact⟨_,_,_,rfl⟩
section
variable {N n rg lb lc j : Nat} {wA wr w' : World} {kk : Nat -> Nat} {cv : Nat -> Nat × Nat} {iv : Nat -> Option (Nat × Nat)} {tg : Nat -> Nat} {s : fF} {S : Nat -> Prop}
theorem aEj (h:RAt N wA ⟨lb,lc,kk,iv,cv,tg⟩ n rg s) (hb:Below wA.heap.size wA wr) (hc:aG S wr w') (hS:∀ x,S x->wA.heap.size<=x) (hj:j<n):w'.cell? ⟨lb,j,none⟩=some (.pointer (some ⟨kk j,0,none⟩))/\w'.cell? ⟨kk j,0,none⟩=some (jF rg (iv j))/\w'.cell? ⟨kk j,3,none⟩=some (mX rg (cv j)):=by
 have h2:=(h.below hb).chg hc (fun x e=>h.fr x (hS x e));have h3:=hU (h2.sd j hj).st;exact⟨aH h2.ls (rK n kk hj),h3.2.1,h3.2.2.2.2.1⟩
def aC3 (m:bA) (fn:Nat) (w:World) (e:Ending) (w':World):Prop:=∃ (rg:Nat) (s:fF) (ib ic cb cq:Nat) (iv:Nat->Option (Nat×Nat)),(bX m fn).regs=rg/\rC (bX m fn).code.length rg s/\fO m (bX m fn) (fL (bX m fn)) s/\e=.returned (.tuple #[.agg #[.slice (some ⟨ib,0,none⟩) (bX m fn).code.length ic,.slice (some ⟨cb,0,none⟩) (bX m fn).code.length cq],.int .i64 0]) /\
 w'.ownsRow 0 39 1 (.slice (some ⟨ib,0,none⟩) (bX m fn).code.length ic) (bX m fn).code.length (fS (bX m fn).code.length rg iv)/\(∀ v,v<(bX m fn).code.length->(iv v=none/\s.inn.getD v []=[])\/∃ b c,iv v=some (b,c)/\kA w' b rg c (s.inn.getD v []))/\Below w.heap.size w w'
theorem aOn {m:bA}{fn:Nat}{f:aC}{w:World}{vi vc:Value}(hfe:bX m fn=f) (hrg:f.regs=rg) (hn:0<f.code.length) (h:RAt N wA ⟨lb,lc,kk,iv,cv,tg⟩ f.code.length rg s) (hb:Below wA.heap.size wA wr) (ho:RO wA.heap.size wr f.code.length f.code.length rg vi vc iv cv) (hw:Below w.heap.size w wA) (hN:w.heap.size+2<=N) (hNA:N<=wA.heap.size) (hso:rC f.code.length rg s) (hr:fO m f (fL f) s) :
 aC3 m fn w (.returned (.tuple #[.agg #[vi,vc],.int .i64 0])) ((wr.setCell ⟨w.heap.size+1,0,none⟩ vi).setCell ⟨w.heap.size+1,1,none⟩ vc):=by
 subst hfe;obtain⟨ib,ic,rfl,-,-,-⟩:=bB ho.ri hn;obtain⟨cb,cq,rfl,-,-,-⟩:=bB ho.rc hn;have hc:=jX wr (w.heap.size+1) 0 1 (.slice (some ⟨ib,0,none⟩) (bX m fn).code.length ic) (.slice (some ⟨cb,0,none⟩) (bX m fn).code.length cq);have hr2:=h.below hb;have hib:=ho.b1 ib rfl;have hz:=hw.size;have hz2:=hb.size;refine⟨rg,s,ib,ic,cb,cq,iv,hrg,hso,hr,rfl,aT hc ho.ri oz,fun v hv=>?_,(hw.trans (hb.mono hz)).trans (hc.below _ oz (fun k hk e=>by omega))⟩;rcases(hr2.sd v hv).ei with⟨h1,h2⟩|⟨b,c,h1,h2,-⟩
 ·exact .inl ⟨h1,h2⟩
 ·have h3:=hr2.lo b (by rw[hr2.ti v b c hv h1];omega);exact .inr ⟨b,c,h1,aT hc h2 oz⟩
end
end
theorem aOm {p:Prop}(h:p:=by
 refine iN rfl (.tmp 153) (.tmp 161) 59 50 1 24 (.slice none 0 0) rfl Tryz.underlying59 Tryz.infoS rfl dc vc j (lC j rg cv) e3_153 (aA hbA HO2.out.rc) ⟨W9.heap.size,0,none⟩ 1 1 [.slice (some ⟨(cv j).1,0,none⟩) rg (cv j).2] e3_161 rfl (cC (aF.new' _ _ _ _ rfl)) (fun u hu=>by rw[List.mem_singleton.1 hu];rfl) bH oz dc ?_;intro g6 c6 w6 hr6 hc6 hg6;have o6:=aD (HO2.out.at6 hbA (.inr rfl) hc6);have hp6:=HO2.out.pushC rfl hbA hr6 hc6 hg6;refine hK.out _ _ ((aG.of hbA).trans (hc6.mono fun _ _ h=>.inr h)) fun hHeld=>?_;clear hK K;refine aL 11 rfl ?_;generalize hA4:(Act.put _ _ _:Act)=a4;replace Ee:a4.eval (.tmp 162)=.slice (some ⟨g6,0,none⟩) (j+1) c6/\a4.eval (.tmp 163)=.pointer (some ⟨wA.heap.size,1,none⟩)/\a4.tmps.size=165:=xE;refine fD 12 rfl fun K hK=>?_;refine pA ?_;refine hK.out _ _ (hHeld.trans (aG.setCell (aG.refl _ _) (p:=⟨_,1,none⟩) (.inl (.inl rfl)) _)) fun hHeld=>?_;clear hK K;refine aO kr ?_;refine hK0.out _ _ ?_;subst hA4;subst hA3;subst hA2;subst hA1;subst hA0
 exact aVb):p:=h
theorem aQv {p:Prop}(h:p:=by
 refine iN rfl (.tmp 141) (.tmp 149) 58 39 1 24 (.slice none 0 0) rfl Tryz.underlying58 Tryz.infoSl rfl dc vi j (fS j rg iv) e3_141 (aA hbA HO.out.ri) ⟨wr.heap.size,0,none⟩ 1 1 [.slice ua ul uc] e3_149 rfl (cC (aF.new' _ _ _ _ rfl)) (fun u hu=>by rw[List.mem_singleton.1 hu];rfl) bH oz dc ?_;intro g6 c6 w6 hr6 hc6 hg6;have o6:=aD (HO.out.at6 hbA (.inl rfl) hc6);have hp6:=HO.out.pushI HU.out hbA hr6 hc6 hg6;refine hK.out _ _ ((aG.of hbA).trans (hc6.mono fun _ _ h=>.inr h)) fun hHeld=>?_;clear hK K;refine aL 11 rfl ?_;generalize hA4:(Act.put _ _ _:Act)=a4;replace Ee:a4.eval (.tmp 150)=.slice (some ⟨g6,0,none⟩) (j+1) c6/\a4.eval (.tmp 151)=.pointer (some ⟨wA.heap.size,0,none⟩)/\a4.tmps.size=165:=xE;refine fD 12 rfl fun K hK=>?_;refine pA ?_;refine hK.out _ _ (hHeld.trans (aG.setCell (aG.refl _ _) (p:=⟨_,0,none⟩) (.inl (.inl rfl)) _)) fun hHeld=>?_;clear hK K;refine aO kr ?_;refine hK0.out _ _ ?_;subst hA4;subst hA3;subst hA2;subst hA1;subst hA0
 exact aVk):p:=h
theorem sS {p:Prop}(h:p:=by
 show ¬(_<=_);omega):p:=h
theorem aTm (B:Nat) (m:bA) (fn:Nat) (ta fa:Option Addr) (tl tc fl fc:Nat) (w:World) (hB:B<=w.heap.size) (hB0:0<B) (hmo:cP B w (.agg #[.slice ta tl tc,.slice fa fl fc]) m) (he:(dS m).e=0) (hfn:fn<m.funcs.length) :
 Calls Tryz.prog 26 #[.agg #[.slice ta tl tc,.slice fa fl fc],.int .i64 fn] w (aC3 m fn w):=by
 have HM:=qd hmo;have HMay:=qd (fun w' hw=>aAn B (.agg #[.slice ta tl tc,.slice fa fl fc]) m w' hw hB0);rw[he]at HMay;obtain⟨_,_,_,_,_,_,hv,HTH,hfs⟩:=hmo;cases hv;obtain⟨hfl1,hfl2,fb,fo,hfb,H,hH⟩:=hfs;obtain⟨rfl,hfbB⟩:=hfb oz;obtain⟨hcells,hfo⟩:=hH fn oz;generalize H fn=hh at *;generalize hff:m.funcs.getD fn default=f at *;obtain⟨pa,pl,pc,ca,cl,cc⟩:=hh;have hcl:f.code.length=cl:=hfo.2.2.1.1;subst hcl;obtain⟨g0,g1,g2,g3,g4⟩:=hcells;dsimp only at g0 g1 g2 g3 g4;have hfnl:(fn:Int)<(fl:Int):=oz
 have q1:¬(fn:Int)<0:=oz
 have q2:decide ((fl:Int)<=(fn:Int))=false:=by simp;omega
 have q3:decide ((fn:Int)<0)=false:=si
 have hfine:=nE he;have hff1:=hfine.fn fn hfn;have hfe:bX m fn=f:=hff;rw[hfe]at hff1;obtain⟨rg,hrg⟩:∃ rg:Nat,f.regs=rg:=⟨f.regs.toNat,by have:=hff1.r1;omega⟩
 have hrg0:0<rg:=by have:=hff1.r1;omega
 have hrg64:rg<=64:=by have:=hff1.r2;omega
 have hn0:0<f.code.length:=hff1.c1;have hn1:f.code.length<=1024:=hff1.c2;rw[hrg]at g2;have HRG:=qd hrg;have HFF:=qd hff1;have HFE:=qd hfe;have HFI:=qd hfine;have HE:=qd he;have HFO:=qd hfo;have HTH:=qd HTH;clear hfine hff1 hfe hrg hff hH hfb hfo;obtain⟨POST,hPOST⟩:∃ P,P=aC3 m fn w:=⟨_,rfl⟩
 rw[<-hPOST];have HPOST:=qd hPOST;clear hPOST;go_enter Tryz.func26,Tryz.ntmps26;go_upto_region 1 with(fail)
 generalize hW0:World.alloc _ _=W0;have hb0:Below w.heap.size w W0:=by rw[<-hW0];exact bel
 have OM:aF W0 w.heap.size [.slice ta tl tc,.slice (some ⟨fb,fo,none⟩) fl fc]:=mR
 have OA:aF W0 (w.heap.size+1) [.slice none 0 0,.slice none 0 0]:=lG
 have hz0':w.heap.size+2<=W0.heap.size:=by rw[<-hW0];simp
 have m2:=aD OM;have HC:=qd (HMay.out W0 oz (HM.out.same (aQ.of hb0 hB)));clear hW0 HMay;go_upto_region 2 with(first|(go_at_call 11;refine HC.out.mono ?_;rintro e w1 ⟨rfl,hb1⟩;clear m2)|fail)
 generalize hW2:World.alloc _ _=W2;have hbA:Below w1.heap.size w1 W2:=by rw[<-hW2];exact eN
 have OF:aF W2 w1.heap.size [.int .i64 0,.int .i64 (dS m).f,.int .i64 (dS m).at_]:=uR
 have hz1:=hb1.size;have hz2:=hbA.size;have hb2:Below w.heap.size w W2:=(hb0.trans (hb1.mono oz)).trans (hbA.mono oz);have OM2:=(OM.below hb1).below hbA;have OA2:=(OA.below hb1).below hbA;have m2':=aD OM2;have f3:=gV OF;have sm:=aQ.of hb2 hB;rw[<-sm _ _ (by show fb<B;omega)]at g0 g1 g2 g3 g4;have hfbL:fb<W2.heap.size:=oz
 clear hW2 hbA OM OA HC hb1;go_upto_region 4 with(fail)
 go_cut [27,28,29,30,31,32,33,34,35] (fun a1 a2 a3 a4 a5 a6 a7 a8 v wx=>v=.bool false/\wx=W2)
 case first =>
  go_wp2;go_meet;exact⟨by rw[decide_eq_false (by omega)],rfl⟩
 case rest =>
  obtain⟨rfl,h⟩:=hcut;have h':=h.symm;subst h';clear h;go_upto_region 9 with(fail)
  generalize hW3:World.alloc _ _=W3;have hbB:Below W2.heap.size W2 W3:=by rw[<-hW3];exact bel
  have OF3:aF W3 W2.heap.size [.string f.name,.slice pa pl pc,.int .i64 rg,.int .i64 f.words,.slice ca f.code.length cc]:=by rw[<-hW3];exact(aF.new _ _ _).alloc _
  have T0:W3.ownsRow 0 119 1 (.slice (some ⟨W2.heap.size+1,0,none⟩) 0 0) 0 []:=by rw[<-hW3];exact eE _ _ 1 si
  have hz3:W2.heap.size+2<=W3.heap.size:=by rw[<-hW3];simp
  have OM3:=OM2.below hbB;have OA3:=OA2.below hbB;have hb3:Below w.heap.size w W3:=hb2.trans (hbB.mono hb2.size);clear hW3 m2' f3 OF g0 g1 g2 g3 g4 sm hb2 OM2 OA2 hbB;have H0:Hid (RSI (W2.heap.size+1) W3 rg 0 (.slice (some ⟨W2.heap.size+1,0,none⟩) 0 0) (fun _=>0) (fun _=>(0,0)) (fun x=>if x=W2.heap.size+1 then 1 else 0)):=qd ⟨T0,fun u hu=>absurd hu oz,fun k hk=>by have e:W2.heap.size+1=k:=eL hk;rw[if_pos e.symm],fun u hu=>absurd hu oz,fun u hu=>absurd hu oz,fun b hb=>if_neg oz,fun b hb=>by split at hb<;>omega⟩;have hC0:aG (fun x=>W2.heap.size+1<=x) W3 W3:=aG.refl _ _;have hm53:=run_make_row' (P:=Tryz.prog) 50 3 (.int .i64 0) 8 Tryz.underlying50 Tryz.infoI rfl .i64 .i64 rg oz oz;have hmc:madeCells #[.int .i64 0] rg=(List.replicate rg (.int .i64 0)).toArray:=aDl rg _;rw[hmc]at hm53;go_loopw [8,9] (fun v i wr=>∃ j kk cv tg,j<=f.code.length/\i=.int .i64 j/\aG (fun x=>W2.heap.size+1<=x) W3 wr/\Hid (RSI (W2.heap.size+1) wr rg j v kk cv tg)) (fun _ i _=>f.code.length-(intOf i).toNat)
  case atStart=>exact⟨0,_,_,_,Nat.zero_le _,rfl,hC0,H0⟩
  case round =>
   clear H0 hC0 T0;obtain⟨j,kk,cv,tg,hj,rfl,hC,H⟩:=hrel;have hzr:=hC.size;have f5:=aX (hC.own OF3 sS);by_cases hlt:j<f.code.length
   ·have d3:(j:Int)<(f.code.length:Int):=oz
    have hwk:IntKind.i64.wrap ((j:Int)+1)=(j:Int)+1:=IntWalk.i64_in _ oz;have hbz:Below wr.heap.size wr (((wr.alloc (.cells (Array.replicate rg (.int .i64 0)) 3)).alloc (.cells #[.slice none 0 0,.bool false,.int .i64 0,.slice (some ⟨wr.heap.size,0,none⟩) rg rg] 121)).alloc (.cells #[.pointer (some ⟨wr.heap.size+1,0,none⟩)] 119)):=bel;go_wp2_with (first|(at_builtin;refine bO rfl (.tmp 50) (.tmp 56) 118 119 1 8 (.pointer none) rfl Tryz.underlying118 Tryz.infoSt rfl dc _ _ _ rfl (aA hbz H.out.ls) ⟨wr.heap.size+1+1,0,none⟩ 1 1 [.pointer (some ⟨wr.heap.size+1,0,none⟩)] rfl rfl (cC (aF.new' _ _ _ _ si)) (by intro u hu;simp at hu;subst hu;rfl) bH oz dc ?_;intro g2 cap2 w4 hb4 hc4 hg4)|fail)
    obtain⟨kk',cv',tg',HI⟩:=H.out.push oz hbz si (aHk wr rg hrg64) hb4 hc4 hg4;have htv:=fun k hk=>H.out.lo k (by rw[H.out.tv k hk];decide);refine⟨⟨j+1,kk',cv',tg',oz,si,(hC.trans (aG.of hbz)).trans (hc4.mono fun k _ hk=>htv k hk),qd HI⟩,?_⟩;go_light;exact ml
   ·obtain rfl:j=f.code.length:=oz
    have d3:¬(f.code.length:Int)<(f.code.length:Int):=oz
    obtain⟨lb,lc,rfl,-,-,-⟩:=bB H.out.ls oz;have HRA:=qd H.out.done;have hlb:=bJ H.out.ls;have l0:=aH H.out.ls (rK f.code.length kk hn0);have hk0:=(H.out.sd 0 hn0).st.1;have t0:=H.out.tk 0 hn0;have htl:=H.out.tv lb rfl;have tN:=H.out.lo (kk 0) (by rw[t0];omega);have hWk:W2.heap.size≠kk 0:=oz
    have hlk:lb≠kk 0:=fun e=>by rw[e,t0]at htl;omega
    have HLS:=qd H.out.ls;have HC:=qd hC;have hNw:W2.heap.size+1<=wr.heap.size:=oz
    have hBN:B<=W2.heap.size+1:=oz
    have HSM:=qd ((aQ.of hb3 hB).trans (hC.same (B:=B) oz (fun x hx e=>by omega)));have hBk:B<=kk 0:=oz
    have hBw:B<=wr.heap.size:=oz
    have HBG:=qd (fun w' (hw:aG (· = kk 0) wr w')=>aBm B pa ca pl pc f.code.length cc rg f w' (Nat.le_trans hBw hw.size) ((HFO.out.same HSM.out).same (hw.same (B:=B) hBw (fun x hx e=>absurd hx (by rw[show x=kk 0 from e];exact Nat.not_lt.2 hBk)))) HRG.out HFF.out.r1 HFF.out.r2 HFF.out.np);have HSS:Hid (∀ w',aG (· = kk 0) wr w'->w'.cell? ⟨lb,0,none⟩=some (.pointer (some ⟨kk 0,0,none⟩))/\w'.cell? ⟨W2.heap.size,0,none⟩=some (.string f.name)/\w'.cell? ⟨W2.heap.size,1,none⟩=some (.slice pa pl pc)/\w'.cell? ⟨W2.heap.size,2,none⟩=some (.int .i64 rg)/\w'.cell? ⟨W2.heap.size,3,none⟩=some (.int .i64 f.words)/\w'.cell? ⟨W2.heap.size,4,none⟩=some (.slice ca f.code.length cc)):=qd fun w' hw=>by
     have x:=aX (hw.own (HC.out.own OF3 sS) hWk);exact⟨(hw.cellAt 0 hlb hlk).trans l0,x.2.1,x.2.2.1,x.2.2.2.1,x.2.2.2.2.1,x.2.2.2.2.2.1⟩
    have hcf:∀ (args:Array Value) (w:World),(callFunc 28 args).run Tryz.prog w=.ok (.enter 28 args) w:=fun _ _=>rfl;have hc0:(0:Int)<(f.code.length:Int):=oz
    clear H l0 hm53 hmc hC;go_upto_region 12 with(fail)
    clear f5;go_cut [58,59,60,61,62,63,64] (fun y1 y2 y3 y4 y5 y6 y7 wx=>Hid (RSt (W2.heap.size+1) wx lb lc kk cv f.code.length rg { eI f.code.length rg with inn:=(eI f.code.length rg).inn.set 0 (cL f) })/\aG (fun x=>W2.heap.size+1<=x) W3 wx)
    case first =>
     generalize hA0:(Act.mk _ _:Act)=a0;have Ee:a0.eval (.tmp 7)=.pointer (some ⟨W2.heap.size,0,none⟩)/\a0.eval (.tmp 8)=.slice (some ⟨lb,0,none⟩) f.code.length lc/\a0.tmps.size=165:=qB
     refine aE (fun w'=>aG (· = kk 0) wr w') kr ((aG.refl _ wr).drew) ?_;intro K0 hK0 hHeld
     try dsimp only at hHeld
     refine aL 0 rfl ?_;refine aL 1 rfl ?_;refine aL 2 rfl ?_;refine aL 3 rfl ?_;generalize hA1:(Act.put _ _ _:Act)=a1;replace Ee:a1.eval (.tmp 61)=.agg #[.string f.name,.slice pa pl pc,.int .i64 rg,.int .i64 f.words,.slice ca f.code.length cc]/\a1.eval (.tmp 60)=.pointer (some ⟨kk 0,0,none⟩)/\a1.tmps.size=165:=oZ;refine fD 4 rfl fun K hK=>?_;refine aP rfl 28 [.tmp 61] #[42] rfl hcf [.agg #[.string f.name,.slice pa pl pc,.int .i64 rg,.int .i64 f.words,.slice ca f.code.length cc]] iD _ (HBG.out _ hHeld) ?_;rintro v wM ⟨g,gc,rfl,hgr,hgn,hbM⟩;have hwM:aG (· = kk 0) wr wM:=hHeld.trans (aG.of hbM);have hzM:=hwM.size;have RM:=qd ((HRA.out.below ((Below.refl _ _).drew)).below hbM);have sM:=hU (RM.out.sd 0 hn0).st;refine hK.out _ _ (hwM) fun hHeld=>?_;clear hK K;refine aL 5 rfl ?_;refine aL 6 rfl ?_;generalize hA2:(Act.put _ _ _:Act)=a2;replace Ee:a2.eval (.tmp 62)=.slice (some ⟨g,0,none⟩) rg gc/\a2.eval (.tmp 64)=.pointer (some ⟨kk 0,0,none⟩)/\a2.tmps.size=165:=mQ;refine fD 7 rfl fun K hK=>?_;refine pA ?_;refine hK.out _ _ (chq) fun hHeld=>?_;clear hK K;refine aO kr ?_;refine hK0.out _ _ ?_;subst hA2;subst hA1;subst hA0
     try clear Ee
     simp only[GE,Act.put,SU];have hbw:Below wr.heap.size wr wM:=((Below.refl _ wr).drew).trans hbM;have HS1:=qd (RSt.first (N:=W2.heap.size+1) ⟨_,_,HRA.out⟩ hn0 hNw hgn hbw hgr);have hC5:aG (fun x=>W2.heap.size+1<=x) W3 (wM.setCell ⟨kk 0,0,none⟩ (.slice (some ⟨g,0,none⟩) rg gc)):=(HC.out.trans (aG.of hbw)).trans (aG.setCell (aG.refl _ _) (p:=⟨kk 0,0,none⟩) (.inl tN) _);go_wp2;go_meet;exact⟨HS1,hC5⟩
    case rest =>
     obtain⟨HS1,hC5⟩:=hcut;clear HLS HSS HBG hcf;obtain⟨W5,hW5⟩:∃ W:World,W=wc:=⟨_,rfl⟩
     subst hW5;have hz5:=hC5.size;obtain⟨iv5,tg5,h5⟩:=HS1.out;have s5:=hU (h5.sd 0 hn0).st;have l5:=aH h5.ls (rK f.code.length kk hn0);have hlb5:=bJ h5.ls;have HS2:=qd (HS1.out.mark hn0 oz true);have hstart:({ { eI f.code.length rg with inn:=(eI f.code.length rg).inn.set 0 (cL f) } with mrk:=(eI f.code.length rg).mrk.set 0 true }:fF)=fL f:=by unfold fL eI;rw[HRG.out,Int.toNat_natCast]
     rw[hstart]at HS2;clear h5 HS1 HRA hstart q1 q3;go_upto_region 15 with(fail)
     clear s5 l5 hlb5;generalize hW6:W5.setCell ⟨kk 0,1,none⟩ (.bool true)=W6 at *;have hC6:aG (fun x=>W2.heap.size+1<=x) W3 W6:=by rw[<-hW6];exact hC5.trans (aG.setCell (aG.refl _ _) (p:=⟨kk 0,1,none⟩) (.inl tN) _)
     clear hW6 hC5
     go_loopg [10] (2*jZ f.code.length rg (fL f)+1) (fun c v wx=>∃ (s:fF) (b:Bool),v=.bool b/\c=2*jZ f.code.length rg s+(if b=true then 1 else 0)/\Hid (RSt (W2.heap.size+1) wx lb lc kk cv f.code.length rg s)/\Hid (rC f.code.length rg s)/\Hid (MOk f.code.length s)/\aG (fun x=>W2.heap.size+1<=x) W3 wx/\Hid (∀ t,fO m f s t->fO m f (fL f) t)/\Hid (b=false->s.mrk.contains true=false))
     case atStart =>
      obtain⟨hsl,-,_,_,-,hs⟩:=HFO.out.2.1;have hso:=aEz HRG.out hrg0 (rfl:f.code.length=f.code.length) hn0 HFF.out.np (fun i hi=>⟨(hs i oz).2.2.1,(hs i oz).2.2.2,by
       have h9:=wU HE.out hfn (i:=i) (by rw[HFE.out];exact hi);rw[HFE.out]at h9;exact h9⟩)
      exact⟨fL f,true,rfl,si,HS2,qd hso.1,qd hso.2,hC6,qd (fun t h=>h),qd (fun h=>by cases h)⟩
     case round =>
      clear HS2 hC6;obtain⟨s,b,rfl,hk,HS,HSO,HMO,hC,HRS,HNB⟩:=hrel;cases b
      ·-- no stand was marked: what stands is told
       have hno:=HNB.out rfl;have HSTOP:=qd (HRS.out s (.stop s hno));obtain⟨iv,tg,hR⟩:=HS.out;have HR:=qd hR;obtain⟨wA,hwA⟩:∃ wA:World,wA=wr:=⟨_,rfl⟩
       subst hwA;have hzA:=hC.size;have HC:=qd hC;clear hno hR HS HNB hk hC HRS q2;go_upto_region 32 with(fail)
       generalize hW9:World.alloc _ _=W9;have hb9:Below wA.heap.size wA W9:=by rw[<-hW9];exact bel
       have hO9:aF W9 wA.heap.size [.slice none 0 0,.slice none 0 0]:=by rw[<-hW9];exact aF.new _ _ _
       have H9:Hid (RO wA.heap.size W9 0 0 rg (.slice none 0 0) (.slice none 0 0) iv cv):=qd ⟨hO9,World.ownsRow_nil _ _ _ _,World.ownsRow_nil _ _ _ _,fun x hx=>by simp[Value.ownBlock]at hx,fun x hx=>by simp[Value.ownBlock]at hx⟩;clear hW9 hO9;go_upto_region 33 with(fail)
       go_loopw [18] (fun v wr=>∃ (j:Nat) (vi vc:Value),j<=f.code.length/\v=.int .i64 j/\Hid (RO wA.heap.size wr j j rg vi vc iv cv)/\Below wA.heap.size wA wr) (fun v _=>f.code.length-(intOf v).toNat)
       case atStart=>exact⟨0,_,_,Nat.zero_le _,rfl,H9,hb9⟩
       case round =>
        clear H9 hb9;obtain⟨j,vi,vc,hj,rfl,HO,hB9⟩:=hrel;have hzr:=hB9.size;by_cases hlt:j<f.code.length
        ·have d3:(j:Int)<(f.code.length:Int):=oz
         have hwk:IntKind.i64.wrap ((j:Int)+1)=(j:Int)+1:=IntWalk.i64_in _ oz;obtain⟨ua,ul,uc,hu⟩:=aOq rg (iv j);have HU:=qd hu;have o9:=aD HO.out.o;have HSS:Hid (∀ w',aG (fun k=>k=wA.heap.size\/vi.ownBlock=some k) wr w'->w'.cell? ⟨lb,j,none⟩=some (.pointer (some ⟨kk j,0,none⟩))/\w'.cell? ⟨kk j,0,none⟩=some (.slice ua ul uc)):=qd fun w' hw=>by
          have h9:=aEj HR.out hB9 hw (fun x e=>by rcases e with e|e;omega;have:=HO.out.b1 x e;omega) hlt;exact⟨h9.1,by rw[<-HU.out];exact h9.2.1⟩
         clear hu;go_upto_region 35 with(fail)
         go_cut [140,141,142,143,144,145,146,147,148,149,150,151] (fun y1 y2 y3 y4 y5 y6 y7 y8 y9 y10 y11 y12 wx=>∃ g c,Hid (RO wA.heap.size wx (j+1) j rg (.slice (some ⟨g,0,none⟩) (j+1) c) vc iv cv)/\Below wA.heap.size wA wx)
         case first =>
          generalize hA0:(Act.mk _ _:Act)=a0;have Ee:a0.eval (.tmp 8)=.slice (some ⟨lb,0,none⟩) f.code.length lc/\a0.eval (.tmp 17)=.pointer (some ⟨wA.heap.size,0,none⟩)/\a0.eval (.tmp 18)=.int .i64 j/\a0.tmps.size=165:=by rw[<-hA0];exact⟨rfl,rfl,rfl,rfl⟩
          refine aE (fun w'=>aG (fun k=>k=wA.heap.size\/vi.ownBlock=some k) wr w') kr ((aG.refl _ wr).drew) ?_;intro K0 hK0 hHeld
          try dsimp only at hHeld
          refine aL 0 rfl ?_;refine aL 2 rfl ?_;refine aL 3 rfl ?_;refine aL 4 rfl ?_;refine aL 5 rfl ?_;refine aL 6 rfl ?_;refine aL 7 rfl ?_;refine aL 8 rfl ?_;generalize hA1:(Act.put _ _ _:Act)=a1;replace Ee:a1.eval (.tmp 17)=.pointer (some ⟨wA.heap.size,0,none⟩)/\a1.eval (.tmp 140)=.pointer (some ⟨wA.heap.size,0,none⟩)/\a1.eval (.tmp 148)=.slice ua ul uc/\a1.tmps.size=165:=oZ;refine wpAnyH_ready (rs:=[1,9]) kr si ?_;refine iB rfl (fun K hK=>?_) (iB rfl (fun K hK=>?_) AllReadyH.nil)
          ·refine sX ?_;refine hK.out _ _ (hHeld) fun hHeld=>?_;clear hK K;generalize hA2:(Act.put _ _ _:Act)=a2;replace Ee:a2.eval (.tmp 17)=.pointer (some ⟨wA.heap.size,0,none⟩)/\a2.eval (.tmp 141)=vi/\a2.eval (.tmp 148)=.slice ua ul uc/\a2.tmps.size=165:=mQ;refine fD 9 rfl fun K hK=>?_;refine sX ?_;refine hK.out _ _ (hHeld.trans (aG.of eN)) fun hHeld=>?_;clear hK K;generalize hA3:(Act.put _ _ _:Act)=a3;replace Ee:a3.eval (.tmp 17)=.pointer (some ⟨wA.heap.size,0,none⟩)/\a3.eval (.tmp 141)=vi/\a3.eval (.tmp 149)=.slice (some ⟨wr.heap.size,0,none⟩) 1 1/\a3.tmps.size=165:=rV;have⟨_,e3_141,e3_149,_⟩:=Ee;refine fD 10 rfl fun K hK=>?_;have hbA:=(((Below.refl _ wr).drew).alloc lr (.cells #[.slice ua ul uc] 39):Below wr.heap.size wr _)
           exact aQv
          ·refine sX ?_;refine hK.out _ _ (hHeld.trans (aG.of eN)) fun hHeld=>?_;clear hK K;generalize hA2:(Act.put _ _ _:Act)=a2;replace Ee:a2.eval (.tmp 17)=.pointer (some ⟨wA.heap.size,0,none⟩)/\a2.eval (.tmp 140)=.pointer (some ⟨wA.heap.size,0,none⟩)/\a2.eval (.tmp 149)=.slice (some ⟨wr.heap.size,0,none⟩) 1 1/\a2.tmps.size=165:=mQ;refine fD 1 rfl fun K hK=>?_;refine sX ?_;refine hK.out _ _ (hHeld) fun hHeld=>?_;clear hK K;generalize hA3:(Act.put _ _ _:Act)=a3;replace Ee:a3.eval (.tmp 17)=.pointer (some ⟨wA.heap.size,0,none⟩)/\a3.eval (.tmp 141)=vi/\a3.eval (.tmp 149)=.slice (some ⟨wr.heap.size,0,none⟩) 1 1/\a3.tmps.size=165:=rV;have⟨_,e3_141,e3_149,_⟩:=Ee;refine fD 10 rfl fun K hK=>?_;have hbA:=(((Below.refl _ wr).drew).alloc lr (.cells #[.slice ua ul uc] 39):Below wr.heap.size wr _)
           exact aQv
         case rest =>
          obtain⟨g,c,HO2,hB2⟩:=hcut;clear HSS o9 HO hzr hB9;obtain⟨W9,hW9⟩:∃ W:World,W=wc:=⟨_,rfl⟩
          subst hW9;have hzr:=hB2.size;have o9:=aD HO2.out.o;have HSS:Hid (∀ w',aG (fun k=>k=wA.heap.size\/vc.ownBlock=some k) W9 w'->w'.cell? ⟨lb,j,none⟩=some (.pointer (some ⟨kk j,0,none⟩))/\w'.cell? ⟨kk j,3,none⟩=some (.slice (some ⟨(cv j).1,0,none⟩) rg (cv j).2)):=qd fun w' hw=>by
           have h9:=aEj HR.out hB2 hw (fun x e=>by rcases e with e|e;omega;have:=(HO2.out.b2 x e).1;omega) hlt;exact⟨h9.1,h9.2.2⟩
          go_upto_region 36 with(fail)
          generalize hA0:(Act.mk _ _:Act)=a0;have Ee:a0.eval (.tmp 8)=.slice (some ⟨lb,0,none⟩) f.code.length lc/\a0.eval (.tmp 17)=.pointer (some ⟨wA.heap.size,0,none⟩)/\a0.eval (.tmp 18)=.int .i64 j/\a0.tmps.size=165:=by rw[<-hA0];exact⟨rfl,rfl,rfl,rfl⟩
          refine aE (fun w'=>aG (fun k=>k=wA.heap.size\/vc.ownBlock=some k) W9 w') kr ((aG.refl _ W9).drew) ?_;intro K0 hK0 hHeld
          try dsimp only at hHeld
          refine aL 0 rfl ?_;refine aL 2 rfl ?_;refine aL 3 rfl ?_;refine aL 4 rfl ?_;refine aL 5 rfl ?_;refine aL 6 rfl ?_;refine aL 7 rfl ?_;refine aL 8 rfl ?_;generalize hA1:(Act.put _ _ _:Act)=a1;replace Ee:a1.eval (.tmp 17)=.pointer (some ⟨wA.heap.size,0,none⟩)/\a1.eval (.tmp 152)=.pointer (some ⟨wA.heap.size,1,none⟩)/\a1.eval (.tmp 160)=.slice (some ⟨(cv j).1,0,none⟩) rg (cv j).2/\a1.tmps.size=165:=oZ;refine wpAnyH_ready (rs:=[1,9]) kr si ?_;refine iB rfl (fun K hK=>?_) (iB rfl (fun K hK=>?_) AllReadyH.nil)
          ·refine sX ?_;refine hK.out _ _ (hHeld) fun hHeld=>?_;clear hK K;generalize hA2:(Act.put _ _ _:Act)=a2;replace Ee:a2.eval (.tmp 17)=.pointer (some ⟨wA.heap.size,0,none⟩)/\a2.eval (.tmp 153)=vc/\a2.eval (.tmp 160)=.slice (some ⟨(cv j).1,0,none⟩) rg (cv j).2/\a2.tmps.size=165:=mQ;refine fD 9 rfl fun K hK=>?_;refine sX ?_;refine hK.out _ _ (hHeld.trans (aG.of eN)) fun hHeld=>?_;clear hK K;generalize hA3:(Act.put _ _ _:Act)=a3;replace Ee:a3.eval (.tmp 17)=.pointer (some ⟨wA.heap.size,0,none⟩)/\a3.eval (.tmp 153)=vc/\a3.eval (.tmp 161)=.slice (some ⟨W9.heap.size,0,none⟩) 1 1/\a3.tmps.size=165:=rV;have⟨_,e3_153,e3_161,_⟩:=Ee;refine fD 10 rfl fun K hK=>?_;have hbA:=(((Below.refl _ W9).drew).alloc lr (.cells #[.slice (some ⟨(cv j).1,0,none⟩) rg (cv j).2] 50):Below W9.heap.size W9 _)
           exact aOm
          ·refine sX ?_;refine hK.out _ _ (hHeld.trans (aG.of eN)) fun hHeld=>?_;clear hK K;generalize hA2:(Act.put _ _ _:Act)=a2;replace Ee:a2.eval (.tmp 17)=.pointer (some ⟨wA.heap.size,0,none⟩)/\a2.eval (.tmp 152)=.pointer (some ⟨wA.heap.size,1,none⟩)/\a2.eval (.tmp 161)=.slice (some ⟨W9.heap.size,0,none⟩) 1 1/\a2.tmps.size=165:=mQ;refine fD 1 rfl fun K hK=>?_;refine sX ?_;refine hK.out _ _ (hHeld) fun hHeld=>?_;clear hK K;generalize hA3:(Act.put _ _ _:Act)=a3;replace Ee:a3.eval (.tmp 17)=.pointer (some ⟨wA.heap.size,0,none⟩)/\a3.eval (.tmp 153)=vc/\a3.eval (.tmp 161)=.slice (some ⟨W9.heap.size,0,none⟩) 1 1/\a3.tmps.size=165:=rV;have⟨_,e3_153,e3_161,_⟩:=Ee;refine fD 10 rfl fun K hK=>?_;have hbA:=(((Below.refl _ W9).drew).alloc lr (.cells #[.slice (some ⟨(cv j).1,0,none⟩) rg (cv j).2] 50):Below W9.heap.size W9 _)
           exact aOm
        ·obtain rfl:j=f.code.length:=oz
         have d3:¬(f.code.length:Int)<(f.code.length:Int):=oz
         obtain⟨ib,ic,rfl,-,-,-⟩:=bB HO.out.ri hn0;obtain⟨cb,cq,rfl,-,-,-⟩:=bB HO.out.rc hn0;have e9:=aD HO.out.o;have a9:=aD ((HC.out.own OA3 sS).below hB9);have HE9:=qd (aOn HFE.out HRG.out hn0 HR.out hB9 HO.out (hb3.trans (HC.out.below _ hb3.size (fun k hk e=>by omega))) oz oz HSO.out HSTOP.out);go_wp2
         try rw[Exit.noGoto_ret]
         refine bodyPost_ret (v:=.tuple #[.agg #[.slice (some ⟨ib,0,none⟩) f.code.length ic,.slice (some ⟨cb,0,none⟩) f.code.length cq],.int .i64 0]) (by simp[results,Tryz.results26,go_sem,a9.1,a9.2.1,a9.2.2.1]) rfl ?_;rw[HPOST.out];exact HE9.out
      ·go_upto_region 18 with(fail)
       have HFL:=qd (aTf (m:=m) (f:=f) (s:=s) HSO.out.lm);have HK:=qd (aMn HM.out HE.out hfn HFE.out HRG.out);have HSR:=qd hrg0;obtain⟨wA,hwA⟩:∃ wA:World,wA=wr:=⟨_,rfl⟩
       subst hwA;go_loopw [10,11] (fun v i wr=>∃ j,j<=f.code.length/\i=.int .i64 j/\v=.bool (iZ m f s j)/\Hid (RSt (W2.heap.size+1) wr lb lc kk cv f.code.length rg (kF m f s j))/\aG (fun x=>W2.heap.size+1<=x) W3 wr) (fun _ i _=>f.code.length-(intOf i).toNat)
       case atStart=>exact⟨0,Nat.zero_le _,rfl,rfl,HS,hC⟩
       case round =>
        clear HS hC;obtain⟨i,hi,rfl,rfl,HT,hC⟩:=hrel;have hzr:=hC.size;by_cases hlt:i<f.code.length
        ·have d3:(i:Int)<(f.code.length:Int):=oz
         have hwk:IntKind.i64.wrap ((i:Int)+1)=(i:Int)+1:=IntWalk.i64_in _ oz;have hpk:=vT (m:=m) (f:=f) rfl hrg0 HK.out (List.range i) s (fun a ha=>by have:=List.mem_range.1 ha;omega) HSO.out HMO.out;have hso1:rC f.code.length rg (kF m f s i):=hpk.1;have hmo1:MOk f.code.length (kF m f s i):=hpk.2.1;obtain⟨iv5,tg5,h5⟩:=HT.out;have s5:=hU (h5.sd i hlt).st;have l5:=aH h5.ls (rK f.code.length kk hlt);have hlb5:=bJ h5.ls;have t5:W2.heap.size+1<=kk i:=h5.lo (kk i) (by have:=h5.tk i hlt;dsimp only at this ⊢;omega);dsimp only at s5 l5 hlb5;cases hmk:(kF m f s i).mrk.getD i false
         ·obtain⟨hst,hft⟩:=aM6 hmk;have hmd:(qX (kF m f s i) i).mrk=false:=hmk;rw[hmd]at s5;have HST:=qd hst;have HFT:=qd hft;clear hst hft hmd hmk hpk hso1 hmo1 h5;go_wp2;refine⟨⟨i+1,oz,si,by rw[HFT.out],qd (by rw[HST.out];exact HT.out),hC⟩,?_⟩;go_light;exact ml
         ·obtain⟨hst,hft⟩:=aRg hmk;have hmd:(qX (kF m f s i) i).mrk=true:=hmk;rw[hmd]at s5;have hin:gU rg ((kF m f s i).inn.getD i []):=(hso1.inn i hlt).resolve_left (hmo1 i hlt hmk);have HS1:=qd (HT.out.mark hlt oz false);have hso2:rC f.code.length rg { kF m f s i with mrk:=(kF m f s i).mrk.set i false }:=⟨hso1.li,hso1.lc,by simp[hso1.lm],hso1.lj,hso1.inn,hso1.chg⟩
          have hdi:(qX ({ kF m f s i with mrk:=(kF m f s i).mrk.set i false }:fF) i).inn=(kF m f s i).inn.getD i []:=rfl;generalize (kF m f s i).inn.getD i []=inn at *;generalize ({ kF m f s i with mrk:=(kF m f s i).mrk.set i false }:fF)=T1 at *;have HST:=qd hst;have HFT:=qd hft;have HSO2:=qd hso2;have HIN:=qd hin;have HDI:=qd hdi;clear hst hft hmd hmk hpk hso1 hmo1 h5 hso2 hin hdi HT;go_upto_region 23 with(fail)
          generalize hW1:World.setCell _ _ _=W1 at *;have hC1:aG (fun x=>W2.heap.size+1<=x) W3 W1:=by rw[<-hW1];exact hC.trans (aG.setCell (aG.refl _ _) (p:=⟨kk i,1,none⟩) (.inl t5) _)
          clear hW1 s5 l5 hlb5 hC;obtain⟨iv6,tg6,h6⟩:=HS1.out;have s6:=hU (h6.sd i hlt).st;have l6:=aH h6.ls (rK f.code.length kk hlt);have hlb6:=bJ h6.ls;dsimp only at s6 l6 hlb6;have hei:=(h6.sd i hlt).ei;dsimp only at hei;rw[HDI.out]at hei;obtain⟨ib,ic,hiv,hrb⟩:∃ b c,iv6 i=some (b,c)/\kA W1 b rg c inn:=by
           rcases hei with⟨_,h0⟩|⟨b,c,h1,h2,-⟩
           ·have:=HIN.out.1;rw[h0]at this;simp at this;omega
           ·exact⟨b,c,h1,h2⟩
          rw[hiv]at s6;unfold jF at s6;dsimp only at s6;have HRB:=qd hrb;have T0:(W1.alloc (.cells #[] 47)).ownsRow 0 47 2 (.slice (some ⟨W1.heap.size,0,none⟩) 0 0) 0 []:=eE W1 _ 2 rfl;have hbS:Below W1.heap.size W1 (W1.alloc (.cells #[] 47)):=eN;clear hei hiv hrb h6;go_upto_region 24 with(first|(at_builtin;refine dD rfl (.tmp 91) (.tmp 98) 39 47 2 16 (.agg #[.int .i64 0,.int .i64 0]) rfl Tryz.underlying39 Tryz.infoSp rfl dc (.slice (some ⟨W1.heap.size,0,none⟩) 0 0) 0 [] rfl T0 (.slice (some ⟨ib,0,none⟩) rg ic) rg (bL inn) rfl (aA hbS HRB.out) (fun h=>absurd h oz) (gL inn) bH oz ?_;intro vo w7 hr7 hc7 hg7)|fail)
          rw[Nat.zero_add,List.nil_append]at hr7;have hcT:aG (fun k=>k=W1.heap.size) W1 w7:=(aG.of hbS).trans (hc7.mono fun k _ hk=>by have e:W1.heap.size=k:=eL hk;exact e.symm);have hb7:Below W1.heap.size W1 w7:=hcT.below _ lr (fun k hk e=>by omega);obtain⟨nb,nc,rfl,-,-,hnl⟩:=bB hr7 oz;have hnb:W1.heap.size<=nb:=by
           rcases hg7 nb rfl with e|e
           ·have e2:W1.heap.size=nb:=by simpa[Value.ownBlock]using e
            omega
           ·have:=hbS.size;omega
          have HI7:Hid (kA w7 nb rg nc inn):=qd hr7;have HQ7:=qd (HS1.out.q.grow (F':=(· = nb)) hb7 (fun x e=>.inr ⟨oz,oz⟩));have hC7:aG (fun x=>W2.heap.size+1<=x) W3 w7:=hC1.trans (aG.of hb7);have hz7:=hC7.size;have f7:=aX (hC7.own OF3 sS);have HSM7:=qd ((aQ.of hb3 hB).trans (hC7.same (B:=B) oz (fun x hx e=>by omega)));have HNX:=qd (aPd B pa ca pl pc f.code.length cc rg i f w7 oz (HFO.out.same HSM7.out) HRG.out hlt hn1);clear HS1 s6 l6 hlb6 HRB T0 hbS hr7 hc7 hg7 hcT hC1 HSM7;go_upto_region 25 with(first|(go_at_call 59;refine HNX.out.mono ?_;rintro e w8 ⟨v,rfl,wa,wq,rfl,hb8,hwy,hwl⟩)|fail)
          have HQ8:=qd (HQ7.out.grow (F':=fun x=>x=nb\/(Value.slice wa (aY f i).length wq).ownBlock=some x) hb8 (fun x e=>e.elim .inl fun e=>.inr ⟨hwl x e,cA hwy e⟩));have HI8:Hid (kA w8 nb rg nc inn):=qd (aA hb8 HI7.out);have hC8:aG (fun x=>W2.heap.size+1<=x) W3 w8:=hC7.trans (aG.of hb8);have HY8:=qd hwy;clear HQ7 HI7 HNX f7 hwy hwl hC7 hb7 hb8;go_upto_region 26 with(fail)
          generalize hls:aY f i=ls at *;have HLS:=qd hls;clear hls;obtain⟨wB,hwB⟩:∃ wB:World,wB=wr:=⟨_,rfl⟩
          subst hwB;clear q2;go_loopw [14] (fun v wr=>∃ k:Nat,k<=ls.length/\v=.int .i64 k/\Hid (RSq (W2.heap.size+1) wr lb lc kk cv f.code.length rg (pZ m f i inn ls T1 k) (fun x=>x=nb\/(Value.slice wa ls.length wq).ownBlock=some x))/\Hid (kA wr nb rg nc inn)/\Hid (wr.ownsRow 0 3 1 (.slice wa ls.length wq) ls.length (aR ls))/\aG (fun x=>W2.heap.size+1<=x) W3 wr) (fun v _=>ls.length-(intOf v).toNat)
          case atStart=>exact⟨0,Nat.zero_le _,rfl,HQ8,HI8,HY8,hC8⟩
          case round =>
           clear HQ8 HI8 HY8 hC8;obtain⟨k,hk,rfl,HQ,HI,HY,hC⟩:=hrel;have hzr:=hC.size;by_cases hkl:k<ls.length
           ·obtain⟨tt,htk,htn,htm⟩:=aSj HLS.out hkl;obtain⟨hlm,yb,rfl⟩:=aG7 HY.out oz;have d4:(k:Int)<(ls.length:Int):=oz
            have hwk2:IntKind.i64.wrap ((k:Int)+1)=(k:Int)+1:=IntWalk.i64_in _ (by unfold maxLen at hlm;omega);have htn':(tt:Int)<(f.code.length:Int):=oz
            have HSM:=qd ((aQ.of hb3 hB).trans (hC.same (B:=B) oz (fun x hx e=>by omega)));have HWA:=qd (fun w' (hw:Below wr.heap.size wr w')=>aJj (t:=(tt:Int)) (W:=wr) (Nat.le_trans hB (Nat.le_trans hb3.size hzr)) (HM.out.same HSM.out) HE.out hfn HFE.out (HFO.out.same HSM.out) HRG.out hlt HI.out HIN.out hw);have HSS:Hid (∀ w',Below wr.heap.size wr w'->w'.cell? ⟨w.heap.size,0,none⟩=some (.slice ta tl tc)/\w'.cell? ⟨w.heap.size,1,none⟩=some (.slice (some ⟨fb,fo,none⟩) fl fc)/\w'.cell? ⟨W2.heap.size,0,none⟩=some (.string f.name)/\w'.cell? ⟨W2.heap.size,1,none⟩=some (.slice pa pl pc)/\w'.cell? ⟨W2.heap.size,2,none⟩=some (.int .i64 rg)/\w'.cell? ⟨W2.heap.size,3,none⟩=some (.int .i64 f.words)/\w'.cell? ⟨W2.heap.size,4,none⟩=some (.slice ca f.code.length cc)/\w'.cell? ⟨yb,k,none⟩=some (.int .i64 tt)):=qd fun w' hw=>by
             have x:=aD ((hC.own OM3 sS).below hw);have y:=aX ((hC.own OF3 sS).below hw);exact⟨x.2.1,x.2.2.1,y.2.1,y.2.2.1,y.2.2.2.1,y.2.2.2.2.1,y.2.2.2.2.2.1,aH (aA hw HY.out) (aV htk)⟩
            have HWT:=qd (aH4 m f i inn ls T1 htk);have HTM:=qd htm;have hcf:∀ (args:Array Value) (w:World),(callFunc 29 args).run Tryz.prog w=.ok (.enter 29 args) w:=fun _ _=>rfl;have HC:=qd hC;have HTK:=qd htk;clear htk htm hC;go_upto_region 28 with(fail)
            go_cut [15,16,109,110,111,112,113,114,115,116,117,118,119,120] (fun v1 v2 y1 y2 y3 y4 y5 y6 y7 y8 y9 y10 y11 y12 wx=>∃ sv b,v1=sv/\v2=.bool b/\Below wr.heap.size wr wx/\Hid (aRr wr.heap.size rg (gP m f i tt inn) sv b wx))
            case first =>
             generalize hA0:(Act.mk _ _:Act)=a0;have Ee:a0.eval (.tmp 2)=.pointer (some ⟨w.heap.size,0,none⟩)/\a0.eval (.tmp 7)=.pointer (some ⟨W2.heap.size,0,none⟩)/\a0.eval (.tmp 11)=.int .i64 i/\a0.eval (.tmp 12)=.slice (some ⟨nb,0,none⟩) rg nc/\a0.eval (.tmp 13)=.slice (some ⟨yb,0,none⟩) ls.length wq/\a0.eval (.tmp 14)=.int .i64 k/\a0.tmps.size=165:=by rw[<-hA0];exact⟨rfl,rfl,rfl,rfl,rfl,rfl,rfl⟩
             refine aE (fun w'=>Below wr.heap.size wr w') kr ((Below.refl _ wr).drew) ?_;intro K0 hK0 hHeld
             try dsimp only at hHeld
             refine aL 0 rfl ?_;refine aL 1 rfl ?_;refine aL 2 rfl ?_;refine aL 3 rfl ?_;refine aL 4 rfl ?_;refine aL 5 rfl ?_;refine aL 6 rfl ?_;refine aL 7 rfl ?_;generalize hA1:(Act.put _ _ _:Act)=a1;replace Ee:a1.eval (.tmp 110)=.agg #[.slice ta tl tc,.slice (some ⟨fb,fo,none⟩) fl fc]/\a1.eval (.tmp 111)=.agg #[.string f.name,.slice pa pl pc,.int .i64 rg,.int .i64 f.words,.slice ca f.code.length cc]/\a1.eval (.tmp 112)=.int .i64 i/\a1.eval (.tmp 116)=.int .i64 tt/\a1.eval (.tmp 117)=.slice (some ⟨nb,0,none⟩) rg nc/\a1.tmps.size=165:=oZ;refine fD 8 rfl fun K hK=>?_;refine aP rfl 29 [.tmp 110,.tmp 111,.tmp 112,.tmp 116,.tmp 117] #[25,42,3,3,39] rfl hcf [.agg #[.slice ta tl tc,.slice (some ⟨fb,fo,none⟩) fl fc],.agg #[.string f.name,.slice pa pl pc,.int .i64 rg,.int .i64 f.words,.slice ca f.code.length cc],.int .i64 i,.int .i64 tt,.slice (some ⟨nb,0,none⟩) rg nc] iD _ (HWA.out _ hHeld) ?_;rintro v wM ⟨sv,b,rfl,hbM,hx⟩;have hwM:Below wr.heap.size wr wM:=hHeld.trans (hbM.mono hHeld.size);have hzM:=hwM.size;have HX:=qd hx;clear hx;refine hK.out _ _ (hwM) fun hHeld=>?_;clear hK K;refine aL 9 rfl ?_;refine aL 10 rfl ?_;refine aL 11 rfl ?_;generalize hA2:(Act.put _ _ _:Act)=a2;replace Ee:a2.eval (.tmp 119)=sv/\a2.eval (.tmp 120)=.bool b/\a2.tmps.size=165:=mQ;refine aL 12 rfl ?_;refine aL 13 rfl ?_;refine aO kr ?_;refine hK0.out _ _ ?_;subst hA2;subst hA1;subst hA0
             try clear Ee
             simp only[GE,Act.put,SU];go_wp2;go_meet;exact⟨sv,b,rfl,rfl,hwM,HX⟩
            case rest =>
             obtain⟨sv,b,rfl,rfl,hbw,HX⟩:=hcut;clear HSS HWA hcf;obtain⟨W9,hW9⟩:∃ W:World,W=wc:=⟨_,rfl⟩
             subst hW9;have hz9:=hbw.size;rcases HX.out with⟨rfl,hno⟩|⟨q,ob,oc,rfl,hyes,rfl,hob,hox⟩
             ·have HWN:Hid (pZ m f i inn ls T1 (k+1)=pZ m f i inn ls T1 k):=qd (by rw[HWT.out];unfold iW;rw[hno]);clear hno HX HWT;go_wp2;refine⟨⟨k+1,oz,si,qd (by rw[HWN.out];exact HQ.out.grow hbw (fun x e=>.inl e)),qd (aA hbw HI.out),qd (aA hbw HY.out),HC.out.trans (aG.of hbw)⟩,?_⟩;go_light;exact ml
             ·have HWN:Hid (pZ m f i inn ls T1 (k+1)=cM m.thr (pZ m f i inn ls T1 k) tt q):=qd (by rw[HWT.out];unfold iW;rw[hyes];rfl);have hlo:=HK.out i inn tt q hlt HIN.out HTM.out hyes;have hsok:rC f.code.length rg (pZ m f i inn ls T1 k):=(vF (m:=m) (f:=f) rfl hrg0 HK.out hlt HIN.out (ls.take k) T1 (fun t ht=>by rw[HLS.out];exact List.mem_of_mem_take ht) HSO2.out).1;have HQ9:=qd (HQ.out.grow (F':=fun x=>(x=nb\/(Value.slice (some ⟨yb,0,none⟩) ls.length wq).ownBlock=some x)\/x=ob) hbw (fun x e=>e.elim .inl fun e=>.inr ⟨oz,by have:=bJ hox;omega⟩));have hth:cI (W2.heap.size+1) W9 ta tl m.thr:=(HTH.out.same (HSM.out.trans (aQ.of hbw (Nat.le_trans hB (Nat.le_trans hb3.size hzr))))).monoB hBN;have hN9:W2.heap.size+1<=W9.heap.size:=oz
              have hF9:(fun x=>(x=nb\/(Value.slice (some ⟨yb,0,none⟩) ls.length wq).ownBlock=some x)\/x=ob) ob:=Or.inr rfl;have hdw:Below W9.heap.size W9 W9.drew:=(Below.refl _ W9).drew;have hmg:=@aLp (W2.heap.size+1) W9 W9.drew lb lc f.code.length rg kk cv _ _ HQ9.out hdw tt ob oc ta tl tc m.thr q htn hN9 hox hF9 hth hrg0 hrg64 hsok hlo;have HMG:=qd hmg;clear hmg;have m9:=aD ((HC.out.own OM3 sS).below hbw);have y9:=aH (aA hbw HY.out) (aV HTK.out);obtain⟨iv9,tg9,h9,-⟩:=HQ9.out;have l9:=aH h9.ls (rK f.code.length kk htn);have hl9:=bJ h9.ls;have hy9:=bJ (aA hbw HY.out);dsimp only at l9 hl9;clear HX HWT hyes hlo hsok h9 hox hob;go_upto_region 30 with(fail)
              refine bC 10 kr kr ?_;simp only[TD];repeat(refine bS (fun K hK=>?_);go_simp;refine hK _ ?_;clear hK K)
              refine cF ?_;go_wp2_with (first|(go_at_call 60;refine HMG.out.mono ?_;rintro e w10 ⟨rfl,hq10,hc10⟩;have hc11:=(aG.of ((Below.refl _ W9).drew)).trans hc10;have HQ10:=qd hq10;clear m9 y9 l9 hl9 hy9 hq10 hc10)|fail)
              refine⟨⟨k+1,oz,si,qd (by rw[HWN.out];exact HQ10.out.grow (Below.refl _ _) (fun x e=>.inl (.inl e))),qd (aT hc11 (aA hbw HI.out) (fun e=>e.2 (.inl (.inl rfl)))),qd (aN hc11 (aA hbw HY.out) (fun j hj e=>e.2 (.inl (.inr hj)))),(HC.out.trans (aG.of hbw)).trans (hc11.mono fun x _ e=>e.1)⟩,?_⟩;go_light;exact ml
           ·obtain rfl:k=ls.length:=oz
            have d4:¬(ls.length:Int)<(ls.length:Int):=oz
            go_wp2;refine⟨⟨i+1,oz,si,by rw[HFT.out],qd (by rw[HST.out];exact HQ.out.st),hC⟩,?_⟩;go_light;exact ml
        ·obtain rfl:i=f.code.length:=oz
         have d3:¬(f.code.length:Int)<(f.code.length:Int):=oz
         have hfl:=HFL.out;simp only[if_true]at hk;have HK2:=qd hk;cases hct:s.mrk.contains true
         ·have HFN:Hid (iZ m f s f.code.length=false):=qd (by rw[hfl,hct]);have HCT:=qd hct;clear hfl hct hk;go_wp2
          go_roundg (2*jZ f.code.length rg s)
          case measure=>rw[HK2.out];omega
          case rel=>exact⟨s,false,by rw[HFN.out],si,qd (by rw[<-(rF HFN.out).1];exact HT.out),HSO,HMO,hC,HRS,qd (fun _=>HCT.out)⟩
         ·have HFN:Hid (iZ m f s f.code.length=true):=qd (by rw[hfl,hct]);have HPP:=qd (aFz (m:=m) (f:=f) rfl hrg0 HK.out HSO.out HMO.out hct);have HCT:=qd hct;clear hfl hct hk;go_wp2
          go_roundg (2*jZ f.code.length rg (oE m f s)+1)
          case measure=>have:=HPP.out.2.2;rw[HK2.out];omega
          case rel=>exact⟨oE m f s,true,by rw[HFN.out],si,HT,qd HPP.out.1,qd HPP.out.2.1,hC,qd (fun t h=>HRS.out t (.pass s t HCT.out h)),qd (fun h=>by cases h)⟩
end Go.Proofs.YteebpnbdihcfmaaGreatDoor
