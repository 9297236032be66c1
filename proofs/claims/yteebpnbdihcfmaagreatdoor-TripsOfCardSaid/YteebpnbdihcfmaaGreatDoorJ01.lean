/- Plain functions; How modules of code li -/
import Derived.WalkKit
import Derived.Test.YteebpnbdihcfmaaGreatDoorRows
import Derived.WalkSpells
import Derived.WalkLawsBesides
import Derived.Deep.LoopGhost
import Derived.Lib.Hide
import Derived.Deep.Light
import Derived.Deep.DeepCutAuto
import Derived.Deep.CutBlock
import Derived.Deep.QuietTactic
import Derived.BigQuiet
import Derived.StillTailTactics
import Derived.RegionTactic
import Derived.BigRegion
import Derived.IntWalk
import Derived.Outline
import Derived.OrdersHeld
set_option linter.unusedVariables false
set_option linter.unusedSimpArgs false
set_option maxRecDepth 100000
set_option maxHeartbeats 20000000
namespace Go.Proofs.YteebpnbdihcfmaaGreatDoor
open Go.RowKit
theorem eN {w:World}{o:Obj}:Below w.heap.size w (w.alloc o):=(Below.refl _ w).alloc (Nat.le_refl _) _
theorem lr {n:Nat}:n<=n:=Nat.le_refl n
theorem oz {p:Prop}(h:p:=by omega):p:=h
theorem si {p:Prop}(h:p:=by simp):p:=h
theorem dc {p:Prop}(h:p:=by decide):p:=h
theorem kr {p:Prop}(h:p:=by kernel_rfl):p:=h
theorem ml {p:Prop}(h:p:=by first|omega|(simp only[intOf];omega)):p:=h
theorem qd {p:Prop}(h:p):Hid p:=Lib.hid h
theorem SU.{u}:(∀ {α:Type u}(l:List α) (i:Nat) (x:α),l.toArray.setIfInBounds i x=(l.set i x).toArray)/\(∀ {α:Type u}(a b:α) (l:List α),(a::l).set 0 b=b::l)/\(∀ {α:Type u}(a b:α) (l:List α) (n:Nat),(a::l).set (n+1) b=a::l.set n b):=⟨fun l i x=>by simp,fun _ _ _=>rfl,fun _ _ _ _=>rfl⟩
theorem TD.{u}:(∀ {α:Type u}(a:α) (l:List α) (n:Nat),(a::l).take (n+1)=a::l.take n)/\(∀ {α:Type u}(l:List α),l.take 0=[])/\(∀ {α:Type u}(a:α) (l:List α) (n:Nat),(a::l).drop (n+1)=l.drop n)/\(∀ {α:Type u}(l:List α),l.drop 0=l):=⟨fun _ _ _=>rfl,fun _=>by simp,fun _ _ _=>rfl,fun _=>rfl⟩
theorem eL {g n c k:Nat}(h:(Value.slice (some ⟨g,0,none⟩) n c).ownBlock=some k):g=k:=by simpa[Value.ownBlock]using h
structure aB where
 lo:Int
 hi:Int
structure dJ where
 op:Int
 a:Int
 b:Int
 c:Int
 n:Int
structure aC where
 name:ByteArray
 params:List aB
 regs:Int
 words:Int
 code:List dJ
structure bA where
 thr:List Int
 funcs:List aC
instance : Inhabited aB := ⟨⟨0, 0⟩⟩
instance : Inhabited dJ := ⟨⟨0, 0, 0, 0, 0⟩⟩
instance : Inhabited aC := ⟨⟨ByteArray.empty, [], 0, 0, []⟩⟩
def aDf (c:UInt8):Bool:=decide (97<=(c.toNat:Int))&&decide ((c.toNat:Int)<=122)
def aIt (c:UInt8):Bool:=decide (48<=(c.toNat:Int))&&decide ((c.toNat:Int)<=57)
/-- byte i of a name may stand there -/
def qQ (s:ByteArray) (i:Nat):Bool:=aDf (s.data.toList.getD i 0)||(decide (0<i)&&aIt (s.data.toList.getD i 0))
def zI (s:ByteArray) (k:Nat):Prop:=∀ i,i<k->qQ s i=true
def eV (s:ByteArray):Bool:=decide (1<=s.size)&&decide (s.size<=16)&&(List.range s.size).all (qQ s)
theorem aBu (s:ByteArray) (i:Nat) (h:i<s.size):s.data.toList.getD i 0=s[i]:=by
 have:i<s.data.toList.length:=by simpa using h
 simp[List.getD_eq_getElem?_getD,List.getElem?_eq_getElem this];rfl
/-- the table of the operations: weight, which fields there are, the kind of N (0 none, 1 number, 2 target, 3 checked, 4 function), and whether A is written -/
structure aHx where
 word:List UInt8
 weight:Int
 a:Bool
 b:Bool
 c:Bool
 n:Int
 writes:Bool
instance : Inhabited aHx := ⟨⟨[], 0, false, false, false, 0, false⟩⟩
def aJu:List aHx:=[⟨[114,101,116],1,true,false,false,0,false⟩,⟨[115,101,116],1,true,false,false,1,true⟩,⟨[109,111,118,101],1,true,true,false,0,true⟩,
 ⟨[97,100,100],1,true,true,true,0,true⟩,⟨[115,117,98],1,true,true,true,0,true⟩,⟨[109,117,108],3,true,true,true,0,true⟩,⟨[100,105,118],8,true,true,true,0,true⟩,
 ⟨[114,101,109],8,true,true,true,0,true⟩,⟨[108,101,115,115],1,true,true,true,0,true⟩,⟨[101,113,117,97,108],1,true,true,true,0,true⟩,⟨[110,111,116],1,true,true,false,0,true⟩,
 ⟨[108,111,97,100],2,true,true,false,1,true⟩,⟨[115,116,111,114,101],2,true,true,false,1,false⟩,⟨[99,104,101,99,107],1,true,false,false,3,false⟩,⟨[106,117,109,112],1,false,false,false,2,false⟩,
 ⟨[105,102],1,true,false,false,2,false⟩,⟨[117,110,108,101,115,115],1,true,false,false,2,false⟩,⟨[99,111,117,110,116],1,true,true,false,2,false⟩,⟨[115,116,101,112],1,true,false,false,2,true⟩,
 ⟨[99,97,108,108],4,true,true,false,4,true⟩]
def dM (k:Nat):aHx:=aJu.getD k default
def dK (op:Int):Bool:=decide (0<=op)&&decide (op<20)
/-- the first function of a name; -1: none -/
def kQ (fs:List aC) (s:ByteArray):Int:=match fs.findIdx? (fun f=>f.name.toList==s.toList)with|some i=>i|none => -1
theorem sF (fs:List aC) (s:ByteArray) (k:Nat) (hk:k<fs.length) (h:(fs.getD k default).name.toList==s.toList) (hb:∀ i,i<k->((fs.getD i default).name.toList==s.toList)=false):kQ fs s=k:=by
 unfold kQ;have:fs.findIdx? (fun f=>f.name.toList==s.toList)=some k:=by
  rw[List.findIdx?_eq_some_iff_getElem];refine⟨hk,by simpa[List.getD_eq_getElem?_getD,List.getElem?_eq_getElem hk]using h,fun j hj=>?_⟩;have:=hb j hj;simp only[List.getD_eq_getElem?_getD,List.getElem?_eq_getElem (show j<fs.length by omega),Option.getD_some]at this;simp[this]
 rw[this]
theorem aPc {p:Prop}(h:p:=by
 rw[List.findIdx?_eq_none_iff];intro x hx;obtain⟨i,hi,rfl⟩:=List.getElem_of_mem hx;have:=hb i hi;simpa only[List.getD_eq_getElem?_getD,List.getElem?_eq_getElem hi,Option.getD_some]using this):p:=h
theorem aH5 (fs:List aC) (s:ByteArray) (hb:∀ i,i<fs.length->((fs.getD i default).name.toList==s.toList)=false):kQ fs s = -1:=by
 unfold kQ;have:fs.findIdx? (fun f=>f.name.toList==s.toList)=none:=by
  exact aPc
 rw[this]
theorem aPg (fs:List aC) (s:ByteArray) : -1<=kQ fs s/\kQ fs s<fs.length:=by
 unfold kQ;split
 ·rename_i i h;rw[List.findIdx?_eq_some_iff_getElem]at h;obtain⟨h,_⟩:=h;omega
 ·omega
/-- the first place of a list where p holds -/
theorem zN {α:Type}[Inhabited α] (l:List α) (p:α->Bool) (k:Nat) (hk:k<l.length) (h:p (l.getD k default)=true) (hb:∀ i,i<k->p (l.getD i default)=false):l.findIdx? p=some k:=by
 rw[List.findIdx?_eq_some_iff_getElem];refine⟨hk,by simpa[List.getD_eq_getElem?_getD,List.getElem?_eq_getElem hk]using h,fun j hj=>?_⟩;have:=hb j hj;simp only[List.getD_eq_getElem?_getD,List.getElem?_eq_getElem (show j<l.length by omega),Option.getD_some]at this;simp[this]
theorem aAy {α:Type}[Inhabited α] (l:List α) (p:α->Bool) (hb:∀ i,i<l.length->p (l.getD i default)=false):l.findIdx? p=none:=by
 exact aPc
theorem nB {α:Type}[Inhabited α] (l:List α) (k:Nat) (h:k<l.length):l.getD k default=l[k]:=by
 simp[List.getD_eq_getElem?_getD,List.getElem?_eq_getElem h]
def dU (p:aB):Bool:=decide (p.hi<p.lo)
def nL (regs words:Int) (np nc:Nat):Int×Int :=
 if regs<1\/64<regs\/regs<np then(95,0)else if words<0\/4096<words then(96,0)else if nc=0\/1024<nc then(97,0)else(0,0)
/-- what is wrong with function number f, as a whole; k: the first one of its name -/
def iK (x:aC) (k f:Int):Int×Int :=
 if eV x.name=false then(8,0)else if k<f then(9,0)else if 8<x.params.length then(3,8)else
 match x.params.findIdx? dU with
 | some i=>((40:Int),(i:Int))
 | none=>nL x.regs x.words x.params.length x.code.length
def cX (m:bA) (f:Nat):Int×Int:=iK (m.funcs.getD f default) (kQ m.funcs (m.funcs.getD f default).name) f
theorem xA (x:aC) (k f:Int) (h:eV x.name=true) (h2:¬k<f) (h3:8<x.params.length):iK x k f=(3,8):=by
 unfold iK;rw[if_neg (by simp[h]),if_neg h2,if_pos h3]
theorem sY (x:aC) (k f:Int) (i:Nat) (h:eV x.name=true) (h2:¬k<f) (h3:¬8<x.params.length) (h4:x.params.findIdx? dU=some i):iK x k f=((40:Int),(i:Int)):=by
 unfold iK;rw[if_neg (by simp[h]),if_neg h2,if_neg h3,h4]
theorem wZ (x:aC) (k f:Int) (h:eV x.name=true) (h2:¬k<f) (h3:¬8<x.params.length) (h4:x.params.findIdx? dU=none):iK x k f=nL x.regs x.words x.params.length x.code.length:=by
 unfold iK;rw[if_neg (by simp[h]),if_neg h2,if_neg h3,h4]
/-- what is wrong with a field -/
def cN (has:Bool) (r regs:Int):Int:=if has=false/\r≠0 then 62 else if has=true/\(r<0\/regs<=r)then 61 else 0
def pD (nf np:Int->Int) (n regs nc b N:Int):Int :=
 if n=0 then(if N≠0 then 62 else 0)else if n=2 then(if N<0\/nc<=N then 63 else 0)else if n=3 then(if N<1\/4096<N then 2 else 0)else
 if n=4 then(if N<0\/nf 0<=N\/regs<b+np N then 65 else 0)else 0
theorem aAm (nf np:Int->Int) (regs nc b N:Int) (h0:¬N<0) (h1:¬nf 0<=N):pD nf np 4 regs nc b N=if regs<b+np N then 65 else 0:=by
 simp only[pD,h0,h1,false_or];simp
def lJ (m:bA) (N:Int):Int:=(m.funcs.getD N.toNat default).params.length
/-- what is wrong with an instruction of a function of so many registers and instructions -/
def yG (m:bA) (regs nc:Int) (R:aHx) (x:dJ):Int :=
 if cN R.a x.a regs≠0 then cN R.a x.a regs else if cN R.b x.b regs≠0 then cN R.b x.b regs else if cN R.c x.c regs≠0 then cN R.c x.c regs else pD (fun _=>m.funcs.length) (lJ m) R.n regs nc x.b x.n
def oU (m:bA) (regs nc:Int) (x:dJ):Int:=if dK x.op=false then 60 else yG m regs nc (dM x.op.toNat) x
def gN (R:aHx) (x:dJ) (regs:Int) (k:Nat):Int:=if k=0 then cN R.a x.a regs else if k=1 then cN R.b x.b regs else cN R.c x.c regs
theorem sV (m:bA) (regs nc:Int) (R:aHx) (x:dJ) (k:Nat) (hk:k<3) (h:∀ i,i<k->gN R x regs i=0) (h2:gN R x regs k≠0):yG m regs nc R x=gN R x regs k:=by
 have h0:=h 0;have h1:=h 1;unfold gN at *;unfold yG;rcases(show k=0\/k=1\/k=2 by omega)with rfl|rfl|rfl<;>simp_all
theorem aLn (m:bA) (regs nc:Int) (R:aHx) (x:dJ) (h:∀ i,i<3->gN R x regs i=0):yG m regs nc R x=pD (fun _=>m.funcs.length) (lJ m) R.n regs nc x.b x.n:=by
 have h0:=h 0;have h1:=h 1;have h2:=h 2;unfold gN at *;unfold yG
 simp_all
theorem aVz (k:Nat):0<=(dM k).n/\(dM k).n<=4:=by
 by_cases h:k<20
 ·revert h;revert k;decide
 ·have:dM k=default:=by unfold dM;rw[List.getD_eq_getElem?_getD,List.getElem?_eq_none (by simp[aJu];omega)];rfl
  rw[this];decide
/-- the first number below n where p holds -/
def iG (n:Nat) (p:Nat->Bool):Option Nat:=(List.range n).find? p
theorem eA (n:Nat) (p:Nat->Bool) (k:Nat) (hk:k<n) (h:p k=true) (hb:∀ i,i<k->p i=false):iG n p=some k:=by
 unfold iG;rw[List.find?_range_eq_some];exact⟨h,List.mem_range.2 hk,fun j hj=>by simp[hb j hj]⟩
theorem eB (n:Nat) (p:Nat->Bool) (hb:∀ i,i<n->p i=false):iG n p=none:=by
 unfold iG;rw[List.find?_range_eq_none];intro i hi;simp[hb i hi]
theorem mW {n:Nat}{p:Nat->Bool}{k:Nat}(h:iG n p=some k):k<n/\p k=true/\∀ i,i<k->p i=false:=by
 unfold iG at h;rw[List.find?_range_eq_some]at h;exact⟨List.mem_range.1 h.2.1,h.1,fun j hj=>by simpa using h.2.2 j hj⟩
theorem rO {n:Nat}{p:Nat->Bool}(h:iG n p=none):∀ i,i<n->p i=false:=by
 unfold iG at h;rw[List.find?_range_eq_none]at h;intro i hi;simpa using h i hi
def kU (thr:List Int) (i:Nat):Bool:=decide (1<=i)&&decide (thr.getD i 0<=thr.getD (i-1) 0)
/-- what is wrong with the code of a function -/
def jK (m:bA) (x:aC) (i:Nat):Int:=oU m x.regs x.code.length (x.code.getD i default)
def jS (x:aC):Int:=(x.code.getD (x.code.length-1) default).op
def iM (m:bA) (x:aC):Int×Int :=
 match iG x.code.length (fun i=>decide (jK m x i≠0))with
 | some i=>(jK m x i,(i:Int))
 | none=>if jS x=0\/jS x=14\/jS x=18 then(0,0)else(64,(x.code.length:Int)-1)
structure aG5 where
 e:Int
 f:Int
 at_:Int
def eR (m:bA):aG5 :=
 match iG m.funcs.length (fun f=>decide ((iM m (m.funcs.getD f default)).1≠0))with
 | some f=>⟨(iM m (m.funcs.getD f default)).1,f,(iM m (m.funcs.getD f default)).2⟩
 | none=>⟨0,0,0⟩
def eX (m:bA):aG5 :=
 match iG m.funcs.length (fun f=>decide ((cX m f).1≠0))with
 | some f=>⟨(cX m f).1,f,(cX m f).2⟩
 | none=>eR m
/-- what is wrong first with a module -/
def dS (m:bA):aG5 :=
 if 16<m.thr.length then⟨3,0,16⟩else
 match iG m.thr.length (kU m.thr)with
 | some i=>⟨66,0,i⟩
 | none=>if 32<m.funcs.length then⟨3,32,0⟩else eX m
theorem aD5 {regs words:Int}{np nc:Nat}(h:(nL regs words np nc).1=0):1<=regs/\regs<=64/\np<=regs/\0<=words/\words<=4096/\1<=nc/\nc<=1024:=by
 unfold nL at h;grind
theorem nK {m:bA}{f:Nat}(h:(cX m f).1=0) :
 eV (m.funcs.getD f default).name=true/\(f:Int)<=kQ m.funcs (m.funcs.getD f default).name/\(m.funcs.getD f default).params.length<=8/\1<=(m.funcs.getD f default).regs/\(m.funcs.getD f default).regs<=64/\(m.funcs.getD f default).params.length<=(m.funcs.getD f default).regs /\
 0<=(m.funcs.getD f default).words/\(m.funcs.getD f default).words<=4096/\1<=(m.funcs.getD f default).code.length/\(m.funcs.getD f default).code.length<=1024/\(m.funcs.getD f default).params.findIdx? dU=none:=by
 unfold cX at h;generalize m.funcs.getD f default=x at *;unfold iK at h;split at h
 ·simp at h
 ·split at h
  ·simp at h
  ·split at h
   ·simp at h
   ·split at h
    ·simp at h
    ·have:=aD5 h;rename_i h1 h2 h3 _ h4;exact⟨by simpa using h1,oz,oz,this.1,this.2.1,this.2.2.1,this.2.2.2.1,this.2.2.2.2.1,this.2.2.2.2.2.1,this.2.2.2.2.2.2,h4⟩
def aM (n:Int):Prop := -9223372036854775808<=n/\n<=9223372036854775807
/-- below block B the cells of w' are those of w -/
def aQ (B:Nat) (w w':World):Prop:=∀ b o,b<B->w'.cell? ⟨b,o,none⟩=w.cell? ⟨b,o,none⟩
theorem aQ.refl (B:Nat) (w:World):aQ B w w:=fun _ _ _=>rfl
theorem aQ.trans {B:Nat}{a b c:World}(h:aQ B a b) (k:aQ B b c):aQ B a c:=fun x o hx=>(k x o hx).trans (h x o hx)
theorem aQ.of {B:Nat}{w w':World}(h:Below w.heap.size w w') (hB:B<=w.heap.size):aQ B w w':=fun b o hb=>h.cell (p:=⟨b,o,none⟩) (by simp;omega)
theorem aQ.of' {B:Nat}{w w':World}(h:Below B w w'):aQ B w w':=fun b o hb=>h.cell (p:=⟨b,o,none⟩) hb
theorem aQ.alloc {B:Nat}{a w:World}(h:aQ B a w) (hB:B<=w.heap.size) (o:Obj):aQ B a (w.alloc o):=fun x i hx=>by
 rw[World.cell?_alloc_lt _ _ _ (by grind)];exact h x i hx
theorem aQ.setCell {B:Nat}{a w:World}(h:aQ B a w) {p:Addr}(hp:B<=p.block) (u:Value):aQ B a (w.setCell p u):=fun x i hx=>by
 rw[World.cell?_setCell_other _ _ _ _ (by grind)];exact h x i hx
theorem Below.drewN {B:Nat}{a w:World}(h:Below B a w) (n:Nat):Below B a (w.drewN n):=⟨h.os,h.tape,h.output,h.size,h.block⟩
theorem aQ.drew {B:Nat}{a w:World}(h:aQ B a w):aQ B a w.drew:=h
theorem aQ.drewN {B:Nat}{a w:World}(h:aQ B a w) (n:Nat):aQ B a (w.drewN n):=h
/-- old cells and marks read as before -/
theorem bT {W w1:World}(hb:Below W.heap.size W w1):(∀ b o,b<W.heap.size->w1.cell? ⟨b,o,none⟩=W.cell? ⟨b,o,none⟩)/\(∀ b o,b<W.heap.size->w1.frozen? ⟨b,o,none⟩=W.frozen? ⟨b,o,none⟩) :=
 ⟨fun b o h=>hb.cell (p:=⟨b,o,none⟩) h,fun b o h=>hb.frozen (p:=⟨b,o,none⟩) h⟩
/-- a slice's base: n elements at b, o -/
def pY (B:Nat) (a:Option Addr) (n b o:Nat):Prop:=0<n->a=some ⟨b,o,none⟩/\b<B
def cI (B:Nat) (w:World) (a:Option Addr) (n:Nat) (zs:List Int):Prop :=
 zs.length=n/\n<=maxLen/\∃ b o,pY B a n b o/\∀ i,i<n->w.cell? ⟨b,o+i,none⟩=some (.int .i64 (zs.getD i 0))/\aM (zs.getD i 0)
def nC (B:Nat) (w:World) (a:Option Addr) (n:Nat) (zs:List aB):Prop :=
 zs.length=n/\n<=maxLen/\∃ b o,pY B a n b o/\∀ i,i<n->w.cell? ⟨b,o+i*2,none⟩=some (.int .i64 (zs.getD i default).lo)/\w.cell? ⟨b,o+i*2+1,none⟩=some (.int .i64 (zs.getD i default).hi) /\
  aM (zs.getD i default).lo/\aM (zs.getD i default).hi
def aFh (x:dJ):Prop:=aM x.op/\aM x.a/\aM x.b/\aM x.c/\aM x.n
def tZ (w:World) (b o:Nat) (x:dJ):Prop :=
 w.cell? ⟨b,o,none⟩=some (.int .i64 x.op)/\w.cell? ⟨b,o+1,none⟩=some (.int .i64 x.a)/\w.cell? ⟨b,o+2,none⟩=some (.int .i64 x.b)/\w.cell? ⟨b,o+3,none⟩=some (.int .i64 x.c)/\w.cell? ⟨b,o+4,none⟩=some (.int .i64 x.n)
def nF (x:dJ):Value:=.agg #[.int .i64 x.op,.int .i64 x.a,.int .i64 x.b,.int .i64 x.c,.int .i64 x.n]
def sR (B:Nat) (w:World) (a:Option Addr) (n:Nat) (zs:List dJ):Prop :=
 zs.length=n/\n<=maxLen/\∃ b o,pY B a n b o/\∀ i,i<n->tZ w b (o+i*5) (zs.getD i default)/\aFh (zs.getD i default)
/-- the image of a function in five cells: its name, the slices' headers, the numbers -/
structure HF where
 pa:Option Addr
 pl:Nat
 pc:Nat
 ca:Option Addr
 cl:Nat
 cc:Nat
instance : Inhabited HF := ⟨⟨none, 0, 0, none, 0, 0⟩⟩
def aI (h:HF) (f:aC):Value:=.agg #[.string f.name,.slice h.pa h.pl h.pc,.int .i64 f.regs,.int .i64 f.words,.slice h.ca h.cl h.cc]
def aZ (B:Nat) (w:World) (h:HF) (f:aC):Prop :=
 f.name.size<=maxLen/\nC B w h.pa h.pl f.params/\sR B w h.ca h.cl f.code/\aM f.regs/\aM f.words
def rD (w:World) (b o:Nat) (h:HF) (f:aC):Prop :=
 w.cell? ⟨b,o,none⟩=some (.string f.name)/\w.cell? ⟨b,o+1,none⟩=some (.slice h.pa h.pl h.pc)/\w.cell? ⟨b,o+2,none⟩=some (.int .i64 f.regs)/\w.cell? ⟨b,o+3,none⟩=some (.int .i64 f.words)/\w.cell? ⟨b,o+4,none⟩=some (.slice h.ca h.cl h.cc)
def tX (B:Nat) (w:World) (a:Option Addr) (n:Nat) (fs:List aC):Prop :=
 fs.length=n/\n<=maxLen/\∃ b o,pY B a n b o/\∃ H:Nat->HF,∀ i,i<n->rD w b (o+i*5) (H i) (fs.getD i default)/\aZ B w (H i) (fs.getD i default)
def cP (B:Nat) (w:World) (v:Value) (m:bA):Prop :=
 ∃ ta tl tc fa fl fc,v=.agg #[.slice ta tl tc,.slice fa fl fc]/\cI B w ta tl m.thr/\tX B w fa fl m.funcs
theorem cI.same {B:Nat}{w w':World}{a:Option Addr}{n:Nat}{zs:List Int}(h:cI B w a n zs) (s:aQ B w w'):cI B w' a n zs:=by
 obtain⟨h1,h2,b,o,h3,h4⟩:=h;exact⟨h1,h2,b,o,h3,fun i hi=>⟨by rw[s _ _ (h3 (by omega)).2];exact(h4 i hi).1,(h4 i hi).2⟩⟩
theorem nC.same {B:Nat}{w w':World}{a:Option Addr}{n:Nat}{zs:List aB}(h:nC B w a n zs) (s:aQ B w w'):nC B w' a n zs:=by
 obtain⟨h1,h2,b,o,h3,h4⟩:=h;exact⟨h1,h2,b,o,h3,fun i hi=>⟨by rw[s _ _ (h3 (by omega)).2];exact(h4 i hi).1,by rw[s _ _ (h3 (by omega)).2];exact(h4 i hi).2.1,(h4 i hi).2.2⟩⟩
theorem aOp {p:Prop}(h:p:=by
 exact⟨by rw[s _ _ hb];exact h0,by rw[s _ _ hb];exact h1,by rw[s _ _ hb];exact h2,by rw[s _ _ hb];exact h3,by rw[s _ _ hb];exact h4⟩):p:=h
theorem tZ.same {w w':World}{b o B:Nat}{x:dJ}(h:tZ w b o x) (s:aQ B w w') (hb:b<B):tZ w' b o x:=by
 obtain⟨h0,h1,h2,h3,h4⟩:=h;exact aOp
theorem sR.same {B:Nat}{w w':World}{a:Option Addr}{n:Nat}{zs:List dJ}(h:sR B w a n zs) (s:aQ B w w'):sR B w' a n zs:=by
 obtain⟨h1,h2,b,o,h3,h4⟩:=h;exact⟨h1,h2,b,o,h3,fun i hi=>⟨(h4 i hi).1.same s (h3 oz).2,(h4 i hi).2⟩⟩
theorem aZ.same {B:Nat}{w w':World}{h:HF}{f:aC}(k:aZ B w h f) (s:aQ B w w'):aZ B w' h f:=by
 obtain⟨h1,h2,h3,h4,h5⟩:=k;exact⟨h1,h2.same s,h3.same s,h4,h5⟩
theorem rD.same {w w':World}{b o B:Nat}{h:HF}{f:aC}(k:rD w b o h f) (s:aQ B w w') (hb:b<B):rD w' b o h f:=by
 obtain⟨h0,h1,h2,h3,h4⟩:=k;exact aOp
theorem tX.same {B:Nat}{w w':World}{a:Option Addr}{n:Nat}{fs:List aC}(h:tX B w a n fs) (s:aQ B w w'):tX B w' a n fs:=by
 obtain⟨h1,h2,b,o,h3,H,h4⟩:=h;exact⟨h1,h2,b,o,h3,H,fun i hi=>⟨(h4 i hi).1.same s (h3 oz).2,(h4 i hi).2.same s⟩⟩
theorem cP.same {B:Nat}{w w':World}{v:Value}{m:bA}(h:cP B w v m) (s:aQ B w w'):cP B w' v m:=by
 obtain⟨ta,tl,tc,fa,fl,fc,rfl,h1,h2⟩:=h;exact⟨ta,tl,tc,fa,fl,fc,rfl,h1.same s,h2.same s⟩
/-- the table of operations lies in block 0 -/
def eO (w:World):Prop:=0<w.heap.size/\∀ k,k<20->w.cell? ⟨0,k*7,none⟩=some (.string ⟨(dM k).word.toArray⟩)/\w.cell? ⟨0,k*7+1,none⟩=some (.int .i64 (dM k).weight)/\w.cell? ⟨0,k*7+2,none⟩=some (.bool (dM k).a) /\
 w.cell? ⟨0,k*7+3,none⟩=some (.bool (dM k).b)/\w.cell? ⟨0,k*7+4,none⟩=some (.bool (dM k).c)/\w.cell? ⟨0,k*7+5,none⟩=some (.int .i64 (dM k).n)/\w.cell? ⟨0,k*7+6,none⟩=some (.bool (dM k).writes)
theorem eO.same {B:Nat}{w w':World}(h:eO w) (s:aQ B w w') (hB:0<B) (hs:w.heap.size<=w'.heap.size):eO w':=by
 obtain⟨h0,h⟩:=h;refine⟨oz,fun k hk=>?_⟩;obtain⟨a,b,c,d,e,f,g⟩:=h k hk;exact⟨by rw[s _ _ hB];exact a,by rw[s _ _ hB];exact b,by rw[s _ _ hB];exact c,by rw[s _ _ hB];exact d,by rw[s _ _ hB];exact e,by rw[s _ _ hB];exact f,by rw[s _ _ hB];exact g⟩
/-- a block of the call's own: its cells, none of which is frozen -/
def aF (w:World) (k:Nat) (cs:List Value):Prop:=k<w.heap.size/\(∀ i v,cs[i]? = some v->w.cell? ⟨k,i,none⟩=some v)/\∀ i,w.frozen? ⟨k,i,none⟩=false
theorem aF.below {w w':World}{k:Nat}{cs:List Value}(h:aF w k cs) (hb:Below w.heap.size w w'):aF w' k cs :=
 ⟨Nat.lt_of_lt_of_le h.1 hb.size,fun i v hv=>by rw[hb.cell (p:=⟨k,i,none⟩) h.1];exact h.2.1 i v hv,fun i=>by rw[hb.frozen (p:=⟨k,i,none⟩) h.1];exact h.2.2 i⟩
theorem aF.alloc {w:World}{k:Nat}{cs:List Value}(h:aF w k cs) (o:Obj):aF (w.alloc o) k cs:=h.below ((Below.refl _ _).alloc lr o)
theorem aF.drew {w:World}{k:Nat}{cs:List Value}(h:aF w k cs):aF w.drew k cs:=h
theorem aF.drewN {w:World}{k:Nat}{cs:List Value}(h:aF w k cs) (n:Nat):aF (w.drewN n) k cs:=h
theorem aF.new (w:World) (c:List Value) (t:TypeId):aF (w.alloc (.cells c.toArray t)) w.heap.size c :=
 ⟨si,fun i v hv=>by simp[hv],fun i=>by simp⟩
theorem aF.new' (w:World) (c:List Value) (t:TypeId) (k:Nat) (hk:k=w.heap.size):aF (w.alloc (.cells c.toArray t)) k c:=by subst hk;exact aF.new w c t
theorem aF.set {w:World}{k:Nat}{cs:List Value}(h:aF w k cs) (i:Nat) (u:Value) (hi:i<cs.length):aF (w.setCell ⟨k,i,none⟩ u) k (cs.set i u):=by
 refine⟨by simpa using h.1,fun j v hv=>?_,fun j=>by simpa using h.2.2 j⟩;by_cases e:j=i
 ·subst e;rw[List.getElem?_set_self hi]at hv;rw[World.cell?_setCell_same _ _ _ (h.2.1 j _ (List.getElem?_eq_getElem hi))];exact hv
 ·rw[List.getElem?_set_ne (by omega)]at hv;rw[World.cell?_setCell_other _ _ _ _ (by simp)];exact h.2.1 j v hv
theorem aF.setOther {w:World}{k:Nat}{cs:List Value}(h:aF w k cs) {p:Addr}(u:Value) (hp:p.block≠k):aF (w.setCell p u) k cs:=by
 refine⟨by simpa using h.1,fun j v hv=>?_,fun j=>by simpa using h.2.2 j⟩;rw[World.cell?_setCell_other _ _ _ _ (by grind)];exact h.2.1 j v hv
theorem dG {w:World}{k:Nat}{a:Value}(h:aF w k [a]):k<w.heap.size/\w.cell? ⟨k,0,none⟩=some a/\w.frozen? ⟨k,0,none⟩=false:=⟨h.1,h.2.1 0 _ rfl,h.2.2 0⟩
theorem aD {w:World}{k:Nat}{a b:Value}(h:aF w k [a,b]):k<w.heap.size/\w.cell? ⟨k,0,none⟩=some a/\w.cell? ⟨k,1,none⟩=some b/\w.frozen? ⟨k,0,none⟩=false/\w.frozen? ⟨k,1,none⟩=false :=
 ⟨h.1,h.2.1 0 _ rfl,h.2.1 1 _ rfl,h.2.2 0,h.2.2 1⟩
theorem gV {w:World}{k:Nat}{a b c:Value}(h:aF w k [a,b,c]):k<w.heap.size/\w.cell? ⟨k,0,none⟩=some a/\w.cell? ⟨k,1,none⟩=some b/\w.cell? ⟨k,2,none⟩=some c/\w.frozen? ⟨k,0,none⟩=false/\w.frozen? ⟨k,1,none⟩=false/\w.frozen? ⟨k,2,none⟩=false :=
 ⟨h.1,h.2.1 0 _ rfl,h.2.1 1 _ rfl,h.2.1 2 _ rfl,h.2.2 0,h.2.2 1,h.2.2 2⟩
theorem aX {w:World}{k:Nat}{a b c d e:Value}(h:aF w k [a,b,c,d,e]):k<w.heap.size/\w.cell? ⟨k,0,none⟩=some a/\w.cell? ⟨k,1,none⟩=some b/\w.cell? ⟨k,2,none⟩=some c/\w.cell? ⟨k,3,none⟩=some d/\w.cell? ⟨k,4,none⟩=some e /\
 w.frozen? ⟨k,0,none⟩=false/\w.frozen? ⟨k,1,none⟩=false/\w.frozen? ⟨k,2,none⟩=false/\w.frozen? ⟨k,3,none⟩=false/\w.frozen? ⟨k,4,none⟩=false :=
 ⟨h.1,h.2.1 0 _ rfl,h.2.1 1 _ rfl,h.2.1 2 _ rfl,h.2.1 3 _ rfl,h.2.1 4 _ rfl,h.2.2 0,h.2.2 1,h.2.2 2,h.2.2 3,h.2.2 4⟩
/-- a struct of three cells, written whole -/
theorem uW {w:World}{k:Nat}{a b c:Value}(h:aF w k [a,b,c]) (x y z:Value) :
 (w.setCell ⟨k,0,none⟩ x).cell? ⟨k,0,none⟩=some x/\((w.setCell ⟨k,0,none⟩ x).setCell ⟨k,1,none⟩ y).cell? ⟨k,1,none⟩=some y /\
 (((w.setCell ⟨k,0,none⟩ x).setCell ⟨k,1,none⟩ y).setCell ⟨k,2,none⟩ z).cell? ⟨k,2,none⟩=some z:=by
 have h1:=h.set 0 x si;have h2:=h1.set 1 y si;have h3:=h2.set 2 z si;exact⟨h1.2.1 0 _ rfl,h2.2.1 1 _ rfl,h3.2.1 2 _ rfl⟩
/-- a struct of five cells, written whole -/
theorem aV8 {w:World}{k:Nat}{a b c d e:Value}(h:aF w k [a,b,c,d,e]) (x y z u v:Value) :
 (w.setCell ⟨k,0,none⟩ x).cell? ⟨k,0,none⟩=some x/\((w.setCell ⟨k,0,none⟩ x).setCell ⟨k,1,none⟩ y).cell? ⟨k,1,none⟩=some y /\
 (((w.setCell ⟨k,0,none⟩ x).setCell ⟨k,1,none⟩ y).setCell ⟨k,2,none⟩ z).cell? ⟨k,2,none⟩=some z /\
 ((((w.setCell ⟨k,0,none⟩ x).setCell ⟨k,1,none⟩ y).setCell ⟨k,2,none⟩ z).setCell ⟨k,3,none⟩ u).cell? ⟨k,3,none⟩=some u /\
 (((((w.setCell ⟨k,0,none⟩ x).setCell ⟨k,1,none⟩ y).setCell ⟨k,2,none⟩ z).setCell ⟨k,3,none⟩ u).setCell ⟨k,4,none⟩ v).cell? ⟨k,4,none⟩=some v:=by
 have h1:=h.set 0 x si;have h2:=h1.set 1 y si;have h3:=h2.set 2 z si;have h4:=h3.set 3 u si;have h5:=h4.set 4 v si;exact⟨h1.2.1 0 _ rfl,h2.2.1 1 _ rfl,h3.2.1 2 _ rfl,h4.2.1 3 _ rfl,h5.2.1 4 _ rfl⟩
/-- the walk of a drawn region's head in the order of the text, behind a name that does not unfold -/
@[irreducible] def WS (P:Program) (ops:Array Oper) (w:World) (Q:Act->Prop) (l:List Oper) (a:Act):Prop:=wpStill P ops w Q l a
theorem cF {P:Program}{ops:Array Oper}{w:World}{Q:Act->Prop}{a:Act}(h:Q a):WS P ops w Q [] a:=by unfold WS;exact h
theorem bS {P:Program}{ops:Array Oper}{w:World}{Q:Act->Prop}{a:Act}{o:Oper}{rest:List Oper}
 (h:∀ K:Act->Prop,(∀ a,WS P ops w Q rest a->K a)->if Region.wanted o (yielded ops a.tmps)then o.still P a w K else K (a.put o.dst undef)):WS P ops w Q (o::rest) a:=by
 unfold WS at *;exact wpStill_step h
/-- a drawn region whose last operations come behind all others, these leaving the world alone -/
theorem bC {P:Program}{id:Nat}{Q:Exit->Act->World->Prop}{a:Act}{w:World}{l:List Oper}(n:Nat) (hm:P.follows .mixedOrders=true) (hB:Region.lexTailB .any l.toArray n=true)
 (h:WS P l.toArray w.drew (fun a'=>wpList P l.toArray Q (l.drop n) a' w.drew) (l.take n) a):(Code.region id l.toArray true).wp P Q a w:=by
 unfold WS at h;exact wp_region_still_tail n hm hB h
theorem nN {a b:Bool}(h:a=b):Ending.returned (.bool a)=.returned (.bool b):=by rw[h]
theorem fU {k:IntKind}{a b:Int}(h:a=b):Ending.returned (.int k a)=.returned (.int k b):=by rw[h]
/-- words for what is said often: their proofs are looked for where they stand -/
theorem bel {B:Nat}{a w:World}(h:Below B a w:=by repeat(first|with_reducible exact Below.refl _ _|with_reducible assumption|with_reducible refine Below.drew ?_|with_reducible refine Below.drewN ?_ _|with_reducible refine Below.alloc ?_ (by first|omega|(simp<;>omega)|(simp at * <;> omega)) _|with_reducible refine Below.setCell ?_ (by first|omega|(simp<;>omega)|(simp at * <;> omega)) _|(with_reducible refine Below.trans ?_ (Below.mono (by first|with_reducible assumption|exact hF _) (by first|omega|(simp<;>omega)|(simp at * <;> omega)))))):Below B a w:=h
theorem aFv {B:Nat}{a w:World}(h:aQ B a w:=by repeat(first|with_reducible exact aQ.refl _ _|with_reducible assumption|with_reducible refine aQ.drew ?_|with_reducible refine aQ.drewN ?_ _|with_reducible refine aQ.alloc ?_ (by first|omega|(simp<;>omega)|(simp at * <;> omega)) _|with_reducible refine aQ.setCell ?_ (by first|omega|(simp<;>omega)|(simp at * <;> omega)) _|(with_reducible refine aQ.trans ?_ (aQ.of (by assumption) (by first|omega|(simp<;>omega)|(simp at * <;> omega)))))):aQ B a w:=h
theorem mkF {P:Program}:∀ (fn:Fn) (first cap:Array Value) (w:World),(Instr.makeFunc fn first cap).run P w=.ok (.func fn first cap) w:=fun _ _ _ _=>rfl
theorem eS {w W:World}{c0 c1 c2 c3:List Value}{t0 t1 t2 t3:TypeId}(h:(((w.alloc (.cells c0.toArray t0)).alloc (.cells c1.toArray t1)).alloc (.cells c2.toArray t2)).alloc (.cells c3.toArray t3)=W) :
 Below w.heap.size w W/\aF W w.heap.size c0/\aF W (w.heap.size+1) c1/\aF W (w.heap.size+1+1) c2/\aF W (w.heap.size+1+1+1) c3/\w.heap.size+4<=W.heap.size:=by
 subst h;exact⟨bel,(((aF.new _ _ _).alloc _).alloc _).alloc _,((aF.new' _ _ _ _ si).alloc _).alloc _,(aF.new' _ _ _ _ si).alloc _,aF.new' _ _ _ _ si,si⟩
theorem iP {w W:World}{c0 c1 c2:List Value}{t0 t1 t2:TypeId}(h:((w.alloc (.cells c0.toArray t0)).alloc (.cells c1.toArray t1)).alloc (.cells c2.toArray t2)=W) :
 Below w.heap.size w W/\aF W w.heap.size c0/\aF W (w.heap.size+1) c1/\aF W (w.heap.size+1+1) c2/\w.heap.size+3<=W.heap.size:=by
 subst h;exact⟨bel,((aF.new _ _ _).alloc _).alloc _,(aF.new' _ _ _ _ si).alloc _,aF.new' _ _ _ _ si,si⟩
theorem aJh {w W:World}{c0:List Value}{t0:TypeId}(h:w.alloc (.cells c0.toArray t0)=W):Below w.heap.size w W/\aF W w.heap.size c0/\w.heap.size+1<=W.heap.size:=by
 subst h;exact⟨bel,aF.new _ _ _,si⟩
end Go.Proofs.YteebpnbdihcfmaaGreatDoor
