/- Plain functions; How modules of code lie in memory; From the row's condition to what the walks ask; Arguments opened; Package span; Regions that draw their order; Package span; append on a slice of the call's own -/
import Derived.WalkKit
import Derived.Test.YteebpnbdihcfmaaGreatDoorRows
import Derived.WalkSpells
import Derived.WalkLawsBesides
import Derived.Deep.LoopGhost
import Derived.Lib.Hide
import Derived.Deep.Light
import Derived.Deep.DeepCutAuto
import Derived.Deep.CutBlock
import Derived.Deep.QuietTactic
import Derived.BigQuiet
import Derived.StillTailTactics
import Derived.RegionTactic
import Derived.BigRegion
import Derived.IntWalk
import Derived.Outline
import Derived.ProofKit
import Derived.LaidMore
import Derived.OpenShut
import Derived.ChangeOld
import Derived.Below
import Derived.Carry
import Derived.Stop.Joined
import Derived.Deep.Slices
import Derived.Lib.SmallJoins
import Derived.Lib.Mul64
import Derived.Laws.Bits64b
import Derived.Laws.AppendOwn
import Derived.Laws.OwnMore
import Derived.Tactics
import Derived.OrdersHeld
set_option linter.unusedVariables false
set_option linter.unusedSimpArgs false
set_option maxRecDepth 100000
set_option maxHeartbeats 20000000
namespace Go.Proofs.YteebpnbdihcfmaaGreatDoor
open Go.RowKit
theorem bal {w:World}{o:Obj}:Below w.heap.size w (w.alloc o):=(Below.refl _ w).alloc (Nat.le_refl _) _
theorem lr {n:Nat}:n<=n:=Nat.le_refl n
theorem oz {p:Prop}(h:p:=by omega):p:=h
theorem si {p:Prop}(h:p:=by simp):p:=h
theorem dc {p:Prop}(h:p:=by decide):p:=h
theorem kr {p:Prop}(h:p:=by kernel_rfl):p:=h
theorem ml {p:Prop}(h:p:=by first|omega|(simp only[intOf];omega)):p:=h
theorem qd {p:Prop}(h:p):Hid p:=Lib.hid h
theorem SU.{u}:(∀ {α:Type u}(l:List α) (i:Nat) (x:α),l.toArray.setIfInBounds i x=(l.set i x).toArray)/\(∀ {α:Type u}(a b:α) (l:List α),(a::l).set 0 b=b::l)/\(∀ {α:Type u}(a b:α) (l:List α) (n:Nat),(a::l).set (n+1) b=a::l.set n b):=⟨fun l i x=>by simp,fun _ _ _=>rfl,fun _ _ _ _=>rfl⟩
theorem TD.{u}:(∀ {α:Type u}(a:α) (l:List α) (n:Nat),(a::l).take (n+1)=a::l.take n)/\(∀ {α:Type u}(l:List α),l.take 0=[])/\(∀ {α:Type u}(a:α) (l:List α) (n:Nat),(a::l).drop (n+1)=l.drop n)/\(∀ {α:Type u}(l:List α),l.drop 0=l):=⟨fun _ _ _=>rfl,fun _=>by simp,fun _ _ _=>rfl,fun _=>rfl⟩
theorem ob1 {g n c k:Nat}(h:(Value.slice (some ⟨g,0,none⟩) n c).ownBlock=some k):g=k:=by simpa[Value.ownBlock]using h
structure PSpan where
 lo:Int
 hi:Int
structure PIns where
 op:Int
 a:Int
 b:Int
 c:Int
 n:Int
structure PFunc where
 name:ByteArray
 params:List PSpan
 regs:Int
 words:Int
 code:List PIns
structure PMod where
 thr:List Int
 funcs:List PFunc
instance : Inhabited PSpan := ⟨⟨0, 0⟩⟩
instance : Inhabited PIns := ⟨⟨0, 0, 0, 0, 0⟩⟩
instance : Inhabited PFunc := ⟨⟨ByteArray.empty, [], 0, 0, []⟩⟩
def letterB (c:UInt8):Bool:=decide (97<=(c.toNat:Int))&&decide ((c.toNat:Int)<=122)
def digitB (c:UInt8):Bool:=decide (48<=(c.toNat:Int))&&decide ((c.toNat:Int)<=57)
/-- byte i of a name may stand there -/
def nameAt (s:ByteArray) (i:Nat):Bool:=letterB (s.data.toList.getD i 0)||(decide (0<i)&&digitB (s.data.toList.getD i 0))
def nameTo (s:ByteArray) (k:Nat):Prop:=∀ i,i<k->nameAt s i=true
def isNameB (s:ByteArray):Bool:=decide (1<=s.size)&&decide (s.size<=16)&&(List.range s.size).all (nameAt s)
theorem getD_byte (s:ByteArray) (i:Nat) (h:i<s.size):s.data.toList.getD i 0=s[i]:=by
 have:i<s.data.toList.length:=by simpa using h
 simp[List.getD_eq_getElem?_getD,List.getElem?_eq_getElem this];rfl
/-- the table of the operations: weight, which fields there are, the kind of N (0 none, 1 number, 2 target, 3 checked, 4 function), and whether A is written -/
structure PRow where
 word:List UInt8
 weight:Int
 a:Bool
 b:Bool
 c:Bool
 n:Int
 writes:Bool
instance : Inhabited PRow := ⟨⟨[], 0, false, false, false, 0, false⟩⟩
def rowsL:List PRow:=[⟨[114,101,116],1,true,false,false,0,false⟩,⟨[115,101,116],1,true,false,false,1,true⟩,⟨[109,111,118,101],1,true,true,false,0,true⟩,
 ⟨[97,100,100],1,true,true,true,0,true⟩,⟨[115,117,98],1,true,true,true,0,true⟩,⟨[109,117,108],3,true,true,true,0,true⟩,⟨[100,105,118],8,true,true,true,0,true⟩,
 ⟨[114,101,109],8,true,true,true,0,true⟩,⟨[108,101,115,115],1,true,true,true,0,true⟩,⟨[101,113,117,97,108],1,true,true,true,0,true⟩,⟨[110,111,116],1,true,true,false,0,true⟩,
 ⟨[108,111,97,100],2,true,true,false,1,true⟩,⟨[115,116,111,114,101],2,true,true,false,1,false⟩,⟨[99,104,101,99,107],1,true,false,false,3,false⟩,⟨[106,117,109,112],1,false,false,false,2,false⟩,
 ⟨[105,102],1,true,false,false,2,false⟩,⟨[117,110,108,101,115,115],1,true,false,false,2,false⟩,⟨[99,111,117,110,116],1,true,true,false,2,false⟩,⟨[115,116,101,112],1,true,false,false,2,true⟩,
 ⟨[99,97,108,108],4,true,true,false,4,true⟩]
def rowAt (k:Nat):PRow:=rowsL.getD k default
def knownB (op:Int):Bool:=decide (0<=op)&&decide (op<20)
/-- the first function of a name; -1: none -/
def findZ (fs:List PFunc) (s:ByteArray):Int:=match fs.findIdx? (fun f=>f.name.toList==s.toList)with|some i=>i|none => -1
theorem findZ_some (fs:List PFunc) (s:ByteArray) (k:Nat) (hk:k<fs.length) (h:(fs.getD k default).name.toList==s.toList) (hb:∀ i,i<k->((fs.getD i default).name.toList==s.toList)=false):findZ fs s=k:=by
 unfold findZ;have:fs.findIdx? (fun f=>f.name.toList==s.toList)=some k:=by
  rw[List.findIdx?_eq_some_iff_getElem];refine⟨hk,by simpa[List.getD_eq_getElem?_getD,List.getElem?_eq_getElem hk]using h,fun j hj=>?_⟩;have:=hb j hj;simp only[List.getD_eq_getElem?_getD,List.getElem?_eq_getElem (show j<fs.length by omega),Option.getD_some]at this;simp[this]
 rw[this]
theorem findZ_none (fs:List PFunc) (s:ByteArray) (hb:∀ i,i<fs.length->((fs.getD i default).name.toList==s.toList)=false):findZ fs s = -1:=by
 unfold findZ;have:fs.findIdx? (fun f=>f.name.toList==s.toList)=none:=by
  rw[List.findIdx?_eq_none_iff];intro x hx;obtain⟨i,hi,rfl⟩:=List.getElem_of_mem hx;have:=hb i hi;simpa only[List.getD_eq_getElem?_getD,List.getElem?_eq_getElem hi,Option.getD_some]using this
 rw[this]
theorem findZ_bd (fs:List PFunc) (s:ByteArray) : -1<=findZ fs s/\findZ fs s<fs.length:=by
 unfold findZ;split
 ·rename_i i h;rw[List.findIdx?_eq_some_iff_getElem]at h;obtain⟨h,_⟩:=h;omega
 ·omega
/-- the first place of a list where p holds -/
theorem first_some {α:Type}[Inhabited α] (l:List α) (p:α->Bool) (k:Nat) (hk:k<l.length) (h:p (l.getD k default)=true) (hb:∀ i,i<k->p (l.getD i default)=false):l.findIdx? p=some k:=by
 rw[List.findIdx?_eq_some_iff_getElem];refine⟨hk,by simpa[List.getD_eq_getElem?_getD,List.getElem?_eq_getElem hk]using h,fun j hj=>?_⟩;have:=hb j hj;simp only[List.getD_eq_getElem?_getD,List.getElem?_eq_getElem (show j<l.length by omega),Option.getD_some]at this;simp[this]
theorem first_none {α:Type}[Inhabited α] (l:List α) (p:α->Bool) (hb:∀ i,i<l.length->p (l.getD i default)=false):l.findIdx? p=none:=by
 rw[List.findIdx?_eq_none_iff];intro x hx;obtain⟨i,hi,rfl⟩:=List.getElem_of_mem hx;have:=hb i hi;simpa only[List.getD_eq_getElem?_getD,List.getElem?_eq_getElem hi,Option.getD_some]using this
theorem getD_eq {α:Type}[Inhabited α] (l:List α) (k:Nat) (h:k<l.length):l.getD k default=l[k]:=by
 simp[List.getD_eq_getElem?_getD,List.getElem?_eq_getElem h]
def emptyB (p:PSpan):Bool:=decide (p.hi<p.lo)
def wholeTail (regs words:Int) (np nc:Nat):Int×Int :=
 if regs<1\/64<regs\/regs<np then(95,0)else if words<0\/4096<words then(96,0)else if nc=0\/1024<nc then(97,0)else(0,0)
/-- what is wrong with function number f, as a whole; k: the first one of its name -/
def wholeQ (x:PFunc) (k f:Int):Int×Int :=
 if isNameB x.name=false then(8,0)else if k<f then(9,0)else if 8<x.params.length then(3,8)else
 match x.params.findIdx? emptyB with
 | some i=>((40:Int),(i:Int))
 | none=>wholeTail x.regs x.words x.params.length x.code.length
def wholeP (m:PMod) (f:Nat):Int×Int:=wholeQ (m.funcs.getD f default) (findZ m.funcs (m.funcs.getD f default).name) f
theorem wholeQ_many (x:PFunc) (k f:Int) (h:isNameB x.name=true) (h2:¬k<f) (h3:8<x.params.length):wholeQ x k f=(3,8):=by
 unfold wholeQ;rw[if_neg (by simp[h]),if_neg h2,if_pos h3]
theorem wholeQ_empty (x:PFunc) (k f:Int) (i:Nat) (h:isNameB x.name=true) (h2:¬k<f) (h3:¬8<x.params.length) (h4:x.params.findIdx? emptyB=some i):wholeQ x k f=((40:Int),(i:Int)):=by
 unfold wholeQ;rw[if_neg (by simp[h]),if_neg h2,if_neg h3,h4]
theorem wholeQ_tail (x:PFunc) (k f:Int) (h:isNameB x.name=true) (h2:¬k<f) (h3:¬8<x.params.length) (h4:x.params.findIdx? emptyB=none):wholeQ x k f=wholeTail x.regs x.words x.params.length x.code.length:=by
 unfold wholeQ;rw[if_neg (by simp[h]),if_neg h2,if_neg h3,h4]
/-- what is wrong with a field -/
def fieldP (has:Bool) (r regs:Int):Int:=if has=false/\r≠0 then 62 else if has=true/\(r<0\/regs<=r)then 61 else 0
def kindP (nf np:Int->Int) (n regs nc b N:Int):Int :=
 if n=0 then(if N≠0 then 62 else 0)else if n=2 then(if N<0\/nc<=N then 63 else 0)else if n=3 then(if N<1\/4096<N then 2 else 0)else
 if n=4 then(if N<0\/nf 0<=N\/regs<b+np N then 65 else 0)else 0
theorem kindP_call (nf np:Int->Int) (regs nc b N:Int) (h0:¬N<0) (h1:¬nf 0<=N):kindP nf np 4 regs nc b N=if regs<b+np N then 65 else 0:=by
 simp only[kindP,h0,h1,false_or];simp
def paramsOf (m:PMod) (N:Int):Int:=(m.funcs.getD N.toNat default).params.length
/-- what is wrong with an instruction of a function of so many registers and instructions -/
def rowP (m:PMod) (regs nc:Int) (R:PRow) (x:PIns):Int :=
 if fieldP R.a x.a regs≠0 then fieldP R.a x.a regs else if fieldP R.b x.b regs≠0 then fieldP R.b x.b regs else if fieldP R.c x.c regs≠0 then fieldP R.c x.c regs else kindP (fun _=>m.funcs.length) (paramsOf m) R.n regs nc x.b x.n
def instrP (m:PMod) (regs nc:Int) (x:PIns):Int:=if knownB x.op=false then 60 else rowP m regs nc (rowAt x.op.toNat) x
def fieldAt (R:PRow) (x:PIns) (regs:Int) (k:Nat):Int:=if k=0 then fieldP R.a x.a regs else if k=1 then fieldP R.b x.b regs else fieldP R.c x.c regs
theorem rowP_field (m:PMod) (regs nc:Int) (R:PRow) (x:PIns) (k:Nat) (hk:k<3) (h:∀ i,i<k->fieldAt R x regs i=0) (h2:fieldAt R x regs k≠0):rowP m regs nc R x=fieldAt R x regs k:=by
 have h0:=h 0;have h1:=h 1;unfold fieldAt at *;unfold rowP;rcases(show k=0\/k=1\/k=2 by omega)with rfl|rfl|rfl<;>simp_all
theorem rowP_kind (m:PMod) (regs nc:Int) (R:PRow) (x:PIns) (h:∀ i,i<3->fieldAt R x regs i=0):rowP m regs nc R x=kindP (fun _=>m.funcs.length) (paramsOf m) R.n regs nc x.b x.n:=by
 have h0:=h 0;have h1:=h 1;have h2:=h 2;unfold fieldAt at *;unfold rowP
 simp_all
theorem rowN (k:Nat):0<=(rowAt k).n/\(rowAt k).n<=4:=by
 by_cases h:k<20
 ·revert h;revert k;decide
 ·have:rowAt k=default:=by unfold rowAt;rw[List.getD_eq_getElem?_getD,List.getElem?_eq_none (by simp[rowsL];omega)];rfl
  rw[this];decide
/-- the first number below n where p holds -/
def firstI (n:Nat) (p:Nat->Bool):Option Nat:=(List.range n).find? p
theorem firstI_some (n:Nat) (p:Nat->Bool) (k:Nat) (hk:k<n) (h:p k=true) (hb:∀ i,i<k->p i=false):firstI n p=some k:=by
 unfold firstI;rw[List.find?_range_eq_some];exact⟨h,List.mem_range.2 hk,fun j hj=>by simp[hb j hj]⟩
theorem firstI_none (n:Nat) (p:Nat->Bool) (hb:∀ i,i<n->p i=false):firstI n p=none:=by
 unfold firstI;rw[List.find?_range_eq_none];intro i hi;simp[hb i hi]
theorem firstI_spec {n:Nat}{p:Nat->Bool}{k:Nat}(h:firstI n p=some k):k<n/\p k=true/\∀ i,i<k->p i=false:=by
 unfold firstI at h;rw[List.find?_range_eq_some]at h;exact⟨List.mem_range.1 h.2.1,h.1,fun j hj=>by simpa using h.2.2 j hj⟩
theorem firstI_no {n:Nat}{p:Nat->Bool}(h:firstI n p=none):∀ i,i<n->p i=false:=by
 unfold firstI at h;rw[List.find?_range_eq_none]at h;intro i hi;simpa using h i hi
def thrBad (thr:List Int) (i:Nat):Bool:=decide (1<=i)&&decide (thr.getD i 0<=thr.getD (i-1) 0)
/-- what is wrong with the code of a function -/
def bodyI (m:PMod) (x:PFunc) (i:Nat):Int:=instrP m x.regs x.code.length (x.code.getD i default)
def lastOp (x:PFunc):Int:=(x.code.getD (x.code.length-1) default).op
def bodyP (m:PMod) (x:PFunc):Int×Int :=
 match firstI x.code.length (fun i=>decide (bodyI m x i≠0))with
 | some i=>(bodyI m x i,(i:Int))
 | none=>if lastOp x=0\/lastOp x=14\/lastOp x=18 then(0,0)else(64,(x.code.length:Int)-1)
structure PFault where
 e:Int
 f:Int
 at_:Int
def mayFuncs (m:PMod):PFault :=
 match firstI m.funcs.length (fun f=>decide ((bodyP m (m.funcs.getD f default)).1≠0))with
 | some f=>⟨(bodyP m (m.funcs.getD f default)).1,f,(bodyP m (m.funcs.getD f default)).2⟩
 | none=>⟨0,0,0⟩
def mayWholes (m:PMod):PFault :=
 match firstI m.funcs.length (fun f=>decide ((wholeP m f).1≠0))with
 | some f=>⟨(wholeP m f).1,f,(wholeP m f).2⟩
 | none=>mayFuncs m
/-- what is wrong first with a module -/
def mayP (m:PMod):PFault :=
 if 16<m.thr.length then⟨3,0,16⟩else
 match firstI m.thr.length (thrBad m.thr)with
 | some i=>⟨66,0,i⟩
 | none=>if 32<m.funcs.length then⟨3,32,0⟩else mayWholes m
theorem wholeTail_ok {regs words:Int}{np nc:Nat}(h:(wholeTail regs words np nc).1=0):1<=regs/\regs<=64/\np<=regs/\0<=words/\words<=4096/\1<=nc/\nc<=1024:=by
 unfold wholeTail at h;grind
theorem wholeP_ok {m:PMod}{f:Nat}(h:(wholeP m f).1=0) :
 isNameB (m.funcs.getD f default).name=true/\(f:Int)<=findZ m.funcs (m.funcs.getD f default).name/\(m.funcs.getD f default).params.length<=8/\1<=(m.funcs.getD f default).regs/\(m.funcs.getD f default).regs<=64/\(m.funcs.getD f default).params.length<=(m.funcs.getD f default).regs /\
 0<=(m.funcs.getD f default).words/\(m.funcs.getD f default).words<=4096/\1<=(m.funcs.getD f default).code.length/\(m.funcs.getD f default).code.length<=1024/\(m.funcs.getD f default).params.findIdx? emptyB=none:=by
 unfold wholeP at h;generalize m.funcs.getD f default=x at *;unfold wholeQ at h;split at h
 ·simp at h
 ·split at h
  ·simp at h
  ·split at h
   ·simp at h
   ·split at h
    ·simp at h
    ·have:=wholeTail_ok h;rename_i h1 h2 h3 _ h4;exact⟨by simpa using h1,oz,oz,this.1,this.2.1,this.2.2.1,this.2.2.2.1,this.2.2.2.2.1,this.2.2.2.2.2.1,this.2.2.2.2.2.2,h4⟩
def In64 (n:Int):Prop := -9223372036854775808<=n/\n<=9223372036854775807
/-- below block B the cells of w' are those of w -/
def Same (B:Nat) (w w':World):Prop:=∀ b o,b<B->w'.cell? ⟨b,o,none⟩=w.cell? ⟨b,o,none⟩
theorem Same.refl (B:Nat) (w:World):Same B w w:=fun _ _ _=>rfl
theorem Same.trans {B:Nat}{a b c:World}(h:Same B a b) (k:Same B b c):Same B a c:=fun x o hx=>(k x o hx).trans (h x o hx)
theorem Same.of {B:Nat}{w w':World}(h:Below w.heap.size w w') (hB:B<=w.heap.size):Same B w w':=fun b o hb=>h.cell (p:=⟨b,o,none⟩) (by simp;omega)
theorem Same.of' {B:Nat}{w w':World}(h:Below B w w'):Same B w w':=fun b o hb=>h.cell (p:=⟨b,o,none⟩) hb
theorem Same.alloc {B:Nat}{a w:World}(h:Same B a w) (hB:B<=w.heap.size) (o:Obj):Same B a (w.alloc o):=fun x i hx=>by
 rw[World.cell?_alloc_lt _ _ _ (by show x<_;omega)];exact h x i hx
theorem Same.setCell {B:Nat}{a w:World}(h:Same B a w) {p:Addr}(hp:B<=p.block) (u:Value):Same B a (w.setCell p u):=fun x i hx=>by
 rw[World.cell?_setCell_other _ _ _ _ (by intro e;subst e;simp at hp;omega)];exact h x i hx
theorem Below.drewN {B:Nat}{a w:World}(h:Below B a w) (n:Nat):Below B a (w.drewN n):=⟨h.os,h.tape,h.output,h.size,h.block⟩
theorem Same.drew {B:Nat}{a w:World}(h:Same B a w):Same B a w.drew:=h
theorem Same.drewN {B:Nat}{a w:World}(h:Same B a w) (n:Nat):Same B a (w.drewN n):=h
/-- old cells and marks read as before -/
theorem bcell {W w1:World}(hb:Below W.heap.size W w1):(∀ b o,b<W.heap.size->w1.cell? ⟨b,o,none⟩=W.cell? ⟨b,o,none⟩)/\(∀ b o,b<W.heap.size->w1.frozen? ⟨b,o,none⟩=W.frozen? ⟨b,o,none⟩) :=
 ⟨fun b o h=>hb.cell (p:=⟨b,o,none⟩) h,fun b o h=>hb.frozen (p:=⟨b,o,none⟩) h⟩
/-- a slice's base: n elements at b, o -/
def BaseAt (B:Nat) (a:Option Addr) (n b o:Nat):Prop:=0<n->a=some ⟨b,o,none⟩/\b<B
def NumsAt (B:Nat) (w:World) (a:Option Addr) (n:Nat) (zs:List Int):Prop :=
 zs.length=n/\n<=maxLen/\∃ b o,BaseAt B a n b o/\∀ i,i<n->w.cell? ⟨b,o+i,none⟩=some (.int .i64 (zs.getD i 0))/\In64 (zs.getD i 0)
def SpansAt (B:Nat) (w:World) (a:Option Addr) (n:Nat) (zs:List PSpan):Prop :=
 zs.length=n/\n<=maxLen/\∃ b o,BaseAt B a n b o/\∀ i,i<n->w.cell? ⟨b,o+i*2,none⟩=some (.int .i64 (zs.getD i default).lo)/\w.cell? ⟨b,o+i*2+1,none⟩=some (.int .i64 (zs.getD i default).hi) /\
  In64 (zs.getD i default).lo/\In64 (zs.getD i default).hi
def InsOk (x:PIns):Prop:=In64 x.op/\In64 x.a/\In64 x.b/\In64 x.c/\In64 x.n
def InsCells (w:World) (b o:Nat) (x:PIns):Prop :=
 w.cell? ⟨b,o,none⟩=some (.int .i64 x.op)/\w.cell? ⟨b,o+1,none⟩=some (.int .i64 x.a)/\w.cell? ⟨b,o+2,none⟩=some (.int .i64 x.b)/\w.cell? ⟨b,o+3,none⟩=some (.int .i64 x.c)/\w.cell? ⟨b,o+4,none⟩=some (.int .i64 x.n)
def InsVal (x:PIns):Value:=.agg #[.int .i64 x.op,.int .i64 x.a,.int .i64 x.b,.int .i64 x.c,.int .i64 x.n]
def CodeAt (B:Nat) (w:World) (a:Option Addr) (n:Nat) (zs:List PIns):Prop :=
 zs.length=n/\n<=maxLen/\∃ b o,BaseAt B a n b o/\∀ i,i<n->InsCells w b (o+i*5) (zs.getD i default)/\InsOk (zs.getD i default)
/-- the image of a function in five cells: its name, the slices' headers, the numbers -/
structure HF where
 pa:Option Addr
 pl:Nat
 pc:Nat
 ca:Option Addr
 cl:Nat
 cc:Nat
instance : Inhabited HF := ⟨⟨none, 0, 0, none, 0, 0⟩⟩
def FuncVal (h:HF) (f:PFunc):Value:=.agg #[.string f.name,.slice h.pa h.pl h.pc,.int .i64 f.regs,.int .i64 f.words,.slice h.ca h.cl h.cc]
def FuncOk (B:Nat) (w:World) (h:HF) (f:PFunc):Prop :=
 f.name.size<=maxLen/\SpansAt B w h.pa h.pl f.params/\CodeAt B w h.ca h.cl f.code/\In64 f.regs/\In64 f.words
def FuncCells (w:World) (b o:Nat) (h:HF) (f:PFunc):Prop :=
 w.cell? ⟨b,o,none⟩=some (.string f.name)/\w.cell? ⟨b,o+1,none⟩=some (.slice h.pa h.pl h.pc)/\w.cell? ⟨b,o+2,none⟩=some (.int .i64 f.regs)/\w.cell? ⟨b,o+3,none⟩=some (.int .i64 f.words)/\w.cell? ⟨b,o+4,none⟩=some (.slice h.ca h.cl h.cc)
def FuncsAt (B:Nat) (w:World) (a:Option Addr) (n:Nat) (fs:List PFunc):Prop :=
 fs.length=n/\n<=maxLen/\∃ b o,BaseAt B a n b o/\∃ H:Nat->HF,∀ i,i<n->FuncCells w b (o+i*5) (H i) (fs.getD i default)/\FuncOk B w (H i) (fs.getD i default)
def ModAt (B:Nat) (w:World) (v:Value) (m:PMod):Prop :=
 ∃ ta tl tc fa fl fc,v=.agg #[.slice ta tl tc,.slice fa fl fc]/\NumsAt B w ta tl m.thr/\FuncsAt B w fa fl m.funcs
theorem NumsAt.same {B:Nat}{w w':World}{a:Option Addr}{n:Nat}{zs:List Int}(h:NumsAt B w a n zs) (s:Same B w w'):NumsAt B w' a n zs:=by
 obtain⟨h1,h2,b,o,h3,h4⟩:=h;exact⟨h1,h2,b,o,h3,fun i hi=>⟨by rw[s _ _ (h3 (by omega)).2];exact(h4 i hi).1,(h4 i hi).2⟩⟩
theorem SpansAt.same {B:Nat}{w w':World}{a:Option Addr}{n:Nat}{zs:List PSpan}(h:SpansAt B w a n zs) (s:Same B w w'):SpansAt B w' a n zs:=by
 obtain⟨h1,h2,b,o,h3,h4⟩:=h;exact⟨h1,h2,b,o,h3,fun i hi=>⟨by rw[s _ _ (h3 (by omega)).2];exact(h4 i hi).1,by rw[s _ _ (h3 (by omega)).2];exact(h4 i hi).2.1,(h4 i hi).2.2⟩⟩
theorem InsCells.same {w w':World}{b o B:Nat}{x:PIns}(h:InsCells w b o x) (s:Same B w w') (hb:b<B):InsCells w' b o x:=by
 obtain⟨h0,h1,h2,h3,h4⟩:=h;exact⟨by rw[s _ _ hb];exact h0,by rw[s _ _ hb];exact h1,by rw[s _ _ hb];exact h2,by rw[s _ _ hb];exact h3,by rw[s _ _ hb];exact h4⟩
theorem CodeAt.same {B:Nat}{w w':World}{a:Option Addr}{n:Nat}{zs:List PIns}(h:CodeAt B w a n zs) (s:Same B w w'):CodeAt B w' a n zs:=by
 obtain⟨h1,h2,b,o,h3,h4⟩:=h;exact⟨h1,h2,b,o,h3,fun i hi=>⟨(h4 i hi).1.same s (h3 oz).2,(h4 i hi).2⟩⟩
theorem FuncOk.same {B:Nat}{w w':World}{h:HF}{f:PFunc}(k:FuncOk B w h f) (s:Same B w w'):FuncOk B w' h f:=by
 obtain⟨h1,h2,h3,h4,h5⟩:=k;exact⟨h1,h2.same s,h3.same s,h4,h5⟩
theorem FuncCells.same {w w':World}{b o B:Nat}{h:HF}{f:PFunc}(k:FuncCells w b o h f) (s:Same B w w') (hb:b<B):FuncCells w' b o h f:=by
 obtain⟨h0,h1,h2,h3,h4⟩:=k;exact⟨by rw[s _ _ hb];exact h0,by rw[s _ _ hb];exact h1,by rw[s _ _ hb];exact h2,by rw[s _ _ hb];exact h3,by rw[s _ _ hb];exact h4⟩
theorem FuncsAt.same {B:Nat}{w w':World}{a:Option Addr}{n:Nat}{fs:List PFunc}(h:FuncsAt B w a n fs) (s:Same B w w'):FuncsAt B w' a n fs:=by
 obtain⟨h1,h2,b,o,h3,H,h4⟩:=h;exact⟨h1,h2,b,o,h3,H,fun i hi=>⟨(h4 i hi).1.same s (h3 oz).2,(h4 i hi).2.same s⟩⟩
theorem ModAt.same {B:Nat}{w w':World}{v:Value}{m:PMod}(h:ModAt B w v m) (s:Same B w w'):ModAt B w' v m:=by
 obtain⟨ta,tl,tc,fa,fl,fc,rfl,h1,h2⟩:=h;exact⟨ta,tl,tc,fa,fl,fc,rfl,h1.same s,h2.same s⟩
/-- the table of operations lies in block 0 -/
def RowsAt (w:World):Prop:=0<w.heap.size/\∀ k,k<20->w.cell? ⟨0,k*7,none⟩=some (.string ⟨(rowAt k).word.toArray⟩)/\w.cell? ⟨0,k*7+1,none⟩=some (.int .i64 (rowAt k).weight)/\w.cell? ⟨0,k*7+2,none⟩=some (.bool (rowAt k).a) /\
 w.cell? ⟨0,k*7+3,none⟩=some (.bool (rowAt k).b)/\w.cell? ⟨0,k*7+4,none⟩=some (.bool (rowAt k).c)/\w.cell? ⟨0,k*7+5,none⟩=some (.int .i64 (rowAt k).n)/\w.cell? ⟨0,k*7+6,none⟩=some (.bool (rowAt k).writes)
theorem RowsAt.same {B:Nat}{w w':World}(h:RowsAt w) (s:Same B w w') (hB:0<B) (hs:w.heap.size<=w'.heap.size):RowsAt w':=by
 obtain⟨h0,h⟩:=h;refine⟨oz,fun k hk=>?_⟩;obtain⟨a,b,c,d,e,f,g⟩:=h k hk;exact⟨by rw[s _ _ hB];exact a,by rw[s _ _ hB];exact b,by rw[s _ _ hB];exact c,by rw[s _ _ hB];exact d,by rw[s _ _ hB];exact e,by rw[s _ _ hB];exact f,by rw[s _ _ hB];exact g⟩
/-- a block of the call's own: its cells, none of which is frozen -/
def Own (w:World) (k:Nat) (cs:List Value):Prop:=k<w.heap.size/\(∀ i v,cs[i]? = some v->w.cell? ⟨k,i,none⟩=some v)/\∀ i,w.frozen? ⟨k,i,none⟩=false
theorem Own.below {w w':World}{k:Nat}{cs:List Value}(h:Own w k cs) (hb:Below w.heap.size w w'):Own w' k cs :=
 ⟨Nat.lt_of_lt_of_le h.1 hb.size,fun i v hv=>by rw[hb.cell (p:=⟨k,i,none⟩) h.1];exact h.2.1 i v hv,fun i=>by rw[hb.frozen (p:=⟨k,i,none⟩) h.1];exact h.2.2 i⟩
theorem Own.alloc {w:World}{k:Nat}{cs:List Value}(h:Own w k cs) (o:Obj):Own (w.alloc o) k cs:=h.below ((Below.refl _ _).alloc lr o)
theorem Own.drew {w:World}{k:Nat}{cs:List Value}(h:Own w k cs):Own w.drew k cs:=h
theorem Own.drewN {w:World}{k:Nat}{cs:List Value}(h:Own w k cs) (n:Nat):Own (w.drewN n) k cs:=h
theorem Own.new (w:World) (c:List Value) (t:TypeId):Own (w.alloc (.cells c.toArray t)) w.heap.size c :=
 ⟨si,fun i v hv=>by simp[hv],fun i=>by simp⟩
theorem Own.new' (w:World) (c:List Value) (t:TypeId) (k:Nat) (hk:k=w.heap.size):Own (w.alloc (.cells c.toArray t)) k c:=by subst hk;exact Own.new w c t
theorem Own.set {w:World}{k:Nat}{cs:List Value}(h:Own w k cs) (i:Nat) (u:Value) (hi:i<cs.length):Own (w.setCell ⟨k,i,none⟩ u) k (cs.set i u):=by
 refine⟨by simpa using h.1,fun j v hv=>?_,fun j=>by simpa using h.2.2 j⟩;by_cases e:j=i
 ·subst e;rw[List.getElem?_set_self hi]at hv;rw[World.cell?_setCell_same _ _ _ (h.2.1 j _ (List.getElem?_eq_getElem hi))];exact hv
 ·rw[List.getElem?_set_ne (by omega)]at hv;rw[World.cell?_setCell_other _ _ _ _ (by intro x;injection x;omega)];exact h.2.1 j v hv
theorem Own.setOther {w:World}{k:Nat}{cs:List Value}(h:Own w k cs) {p:Addr}(u:Value) (hp:p.block≠k):Own (w.setCell p u) k cs:=by
 refine⟨by simpa using h.1,fun j v hv=>?_,fun j=>by simpa using h.2.2 j⟩;rw[World.cell?_setCell_other _ _ _ _ (by intro x;subst x;exact hp rfl)];exact h.2.1 j v hv
theorem own1 {w:World}{k:Nat}{a:Value}(h:Own w k [a]):k<w.heap.size/\w.cell? ⟨k,0,none⟩=some a/\w.frozen? ⟨k,0,none⟩=false:=⟨h.1,h.2.1 0 _ rfl,h.2.2 0⟩
theorem own2 {w:World}{k:Nat}{a b:Value}(h:Own w k [a,b]):k<w.heap.size/\w.cell? ⟨k,0,none⟩=some a/\w.cell? ⟨k,1,none⟩=some b/\w.frozen? ⟨k,0,none⟩=false/\w.frozen? ⟨k,1,none⟩=false :=
 ⟨h.1,h.2.1 0 _ rfl,h.2.1 1 _ rfl,h.2.2 0,h.2.2 1⟩
theorem own3 {w:World}{k:Nat}{a b c:Value}(h:Own w k [a,b,c]):k<w.heap.size/\w.cell? ⟨k,0,none⟩=some a/\w.cell? ⟨k,1,none⟩=some b/\w.cell? ⟨k,2,none⟩=some c/\w.frozen? ⟨k,0,none⟩=false/\w.frozen? ⟨k,1,none⟩=false/\w.frozen? ⟨k,2,none⟩=false :=
 ⟨h.1,h.2.1 0 _ rfl,h.2.1 1 _ rfl,h.2.1 2 _ rfl,h.2.2 0,h.2.2 1,h.2.2 2⟩
theorem own5 {w:World}{k:Nat}{a b c d e:Value}(h:Own w k [a,b,c,d,e]):k<w.heap.size/\w.cell? ⟨k,0,none⟩=some a/\w.cell? ⟨k,1,none⟩=some b/\w.cell? ⟨k,2,none⟩=some c/\w.cell? ⟨k,3,none⟩=some d/\w.cell? ⟨k,4,none⟩=some e /\
 w.frozen? ⟨k,0,none⟩=false/\w.frozen? ⟨k,1,none⟩=false/\w.frozen? ⟨k,2,none⟩=false/\w.frozen? ⟨k,3,none⟩=false/\w.frozen? ⟨k,4,none⟩=false :=
 ⟨h.1,h.2.1 0 _ rfl,h.2.1 1 _ rfl,h.2.1 2 _ rfl,h.2.1 3 _ rfl,h.2.1 4 _ rfl,h.2.2 0,h.2.2 1,h.2.2 2,h.2.2 3,h.2.2 4⟩
/-- a struct of three cells, written whole -/
theorem set3 {w:World}{k:Nat}{a b c:Value}(h:Own w k [a,b,c]) (x y z:Value) :
 (w.setCell ⟨k,0,none⟩ x).cell? ⟨k,0,none⟩=some x/\((w.setCell ⟨k,0,none⟩ x).setCell ⟨k,1,none⟩ y).cell? ⟨k,1,none⟩=some y /\
 (((w.setCell ⟨k,0,none⟩ x).setCell ⟨k,1,none⟩ y).setCell ⟨k,2,none⟩ z).cell? ⟨k,2,none⟩=some z:=by
 have h1:=h.set 0 x si;have h2:=h1.set 1 y si;have h3:=h2.set 2 z si;exact⟨h1.2.1 0 _ rfl,h2.2.1 1 _ rfl,h3.2.1 2 _ rfl⟩
/-- the walk of a drawn region's head in the order of the text, behind a name that does not unfold -/
@[irreducible] def WS (P:Program) (ops:Array Oper) (w:World) (Q:Act->Prop) (l:List Oper) (a:Act):Prop:=wpStill P ops w Q l a
theorem WS_nil {P:Program}{ops:Array Oper}{w:World}{Q:Act->Prop}{a:Act}(h:Q a):WS P ops w Q [] a:=by unfold WS;exact h
theorem WS_step {P:Program}{ops:Array Oper}{w:World}{Q:Act->Prop}{a:Act}{o:Oper}{rest:List Oper}
 (h:∀ K:Act->Prop,(∀ a,WS P ops w Q rest a->K a)->if Region.wanted o (yielded ops a.tmps)then o.still P a w K else K (a.put o.dst undef)):WS P ops w Q (o::rest) a:=by
 unfold WS at *;exact wpStill_step h
/-- a drawn region whose last operations come behind all others, these leaving the world alone -/
theorem wp_still {P:Program}{id:Nat}{Q:Exit->Act->World->Prop}{a:Act}{w:World}{l:List Oper}(n:Nat) (hm:P.follows .mixedOrders=true) (hB:Region.lexTailB .any l.toArray n=true)
 (h:WS P l.toArray w.drew (fun a'=>wpList P l.toArray Q (l.drop n) a' w.drew) (l.take n) a):(Code.region id l.toArray true).wp P Q a w:=by
 unfold WS at h;exact wp_region_still_tail n hm hB h
theorem ret_bool {a b:Bool}(h:a=b):Ending.returned (.bool a)=.returned (.bool b):=by rw[h]
theorem ret_int {k:IntKind}{a b:Int}(h:a=b):Ending.returned (.int k a)=.returned (.int k b):=by rw[h]
/-- words for what is said often: their proofs are looked for where they stand -/
theorem bel {B:Nat}{a w:World}(h:Below B a w:=by repeat(first|with_reducible exact Below.refl _ _|with_reducible assumption|with_reducible refine Below.drew ?_|with_reducible refine Below.drewN ?_ _|with_reducible refine Below.alloc ?_ (by first|omega|(simp<;>omega)|(simp at * <;> omega)) _|with_reducible refine Below.setCell ?_ (by first|omega|(simp<;>omega)|(simp at * <;> omega)) _|(with_reducible refine Below.trans ?_ (Below.mono (by first|with_reducible assumption|exact hF _) (by first|omega|(simp<;>omega)|(simp at * <;> omega)))))):Below B a w:=h
theorem samq {B:Nat}{a w:World}(h:Same B a w:=by repeat(first|with_reducible exact Same.refl _ _|with_reducible assumption|with_reducible refine Same.drew ?_|with_reducible refine Same.drewN ?_ _|with_reducible refine Same.alloc ?_ (by first|omega|(simp<;>omega)|(simp at * <;> omega)) _|with_reducible refine Same.setCell ?_ (by first|omega|(simp<;>omega)|(simp at * <;> omega)) _|(with_reducible refine Same.trans ?_ (Same.of (by assumption) (by first|omega|(simp<;>omega)|(simp at * <;> omega)))))):Same B a w:=h
theorem mkF {P:Program}:∀ (fn:Fn) (first cap:Array Value) (w:World),(Instr.makeFunc fn first cap).run P w=.ok (.func fn first cap) w:=fun _ _ _ _=>rfl
theorem own_four {w W:World}{c0 c1 c2 c3:List Value}{t0 t1 t2 t3:TypeId}(h:(((w.alloc (.cells c0.toArray t0)).alloc (.cells c1.toArray t1)).alloc (.cells c2.toArray t2)).alloc (.cells c3.toArray t3)=W) :
 Below w.heap.size w W/\Own W w.heap.size c0/\Own W (w.heap.size+1) c1/\Own W (w.heap.size+1+1) c2/\Own W (w.heap.size+1+1+1) c3/\w.heap.size+4<=W.heap.size:=by
 subst h;exact⟨bel,(((Own.new _ _ _).alloc _).alloc _).alloc _,((Own.new' _ _ _ _ si).alloc _).alloc _,(Own.new' _ _ _ _ si).alloc _,Own.new' _ _ _ _ si,si⟩
theorem own_three {w W:World}{c0 c1 c2:List Value}{t0 t1 t2:TypeId}(h:((w.alloc (.cells c0.toArray t0)).alloc (.cells c1.toArray t1)).alloc (.cells c2.toArray t2)=W) :
 Below w.heap.size w W/\Own W w.heap.size c0/\Own W (w.heap.size+1) c1/\Own W (w.heap.size+1+1) c2/\w.heap.size+3<=W.heap.size:=by
 subst h;exact⟨bel,((Own.new _ _ _).alloc _).alloc _,(Own.new' _ _ _ _ si).alloc _,Own.new' _ _ _ _ si,si⟩
theorem own_one {w W:World}{c0:List Value}{t0:TypeId}(h:w.alloc (.cells c0.toArray t0)=W):Below w.heap.size w W/\Own W w.heap.size c0/\w.heap.size+1<=W.heap.size:=by
 subst h;exact⟨bel,Own.new _ _ _,si⟩
end Go.Proofs.YteebpnbdihcfmaaGreatDoor
namespace Go.Proofs.YteebpnbdihcfmaaGreatDoor
open Go.ChangeShapes Go.WideShapes Go.ChangeAt Go.RowKit
theorem own:ownKnob Tryz.prog.godebug=none:=kr
theorem laidOut:laidOutB Tryz.prog=true:=kr
def laidL:List (String×DataW Unit):=[("soffit/code.rows",Rows.laid_soffit_code_rows)]
/-- The door's own heap meets the condition: three closed facts. -/
theorem door_met (os:Os) (args:Array Value):laidMetH Tryz.prog laidL ((World.doorLaid Tryz.prog 34 os).forCall (fun _ _=>0) ⟨#[],args,[]⟩).memory :=
 laidMetH_of_parts3 (fuel:=8) (laidMet_of_run' 8 kr kr) kr kr
theorem lt_of_cell? {w:World}{a:Addr}{v:Value}(h:w.cell? a=some v):a.block<w.heap.size:=by
 unfold World.cell? at h;split at h
 ·rename_i hb;exact(Array.getElem?_eq_some_iff.1 hb).1
 all_goals cases h
/-- one row of the table, read -/
theorem row_read {H:Type}{enc:TypeId×Value->H}{W:World}{base fuel:Nat}{sp:Nat->Bool}{hd:Bool}{cs:List Value}{x:DataW H×List MemPlace}(h:DataW.trod enc Tryz.prog W base sp hd fuel 154 cs=some x)
 {s:List UInt8}{wt n:Int}{a b c wr:Bool} (hx:x.1=.agg [.lit (.string s),.lit (.int .i64 wt),.lit (.bool a),.lit (.bool b),.lit (.bool c),.lit (.int .i64 n),.lit (.bool wr)]) :
 cs=[.string ⟨s.toArray⟩,.int .i64 wt,.bool a,.bool b,.bool c,.int .i64 n,.bool wr]:=by
 obtain⟨xs,m,rfl,rfl,hl,hlen,hf⟩:=DataW.trod_struct Tryz.underlying154 h;have c9:Tryz.prog.cellsOf 9=1:=kr
 have c2:Tryz.prog.cellsOf 2=1:=kr
 have c3:Tryz.prog.cellsOf 3=1:=kr
 have c4:Tryz.prog.cellsOf 4=1:=kr
 have c109:Tryz.prog.cellsOf 154=7:=kr
 rw[c109]at hl
 match cs,hl with
 | [q0,q1,q2,q3,q4,q5,q6],_ =>
  match xs,hlen with
  | [y0,y1,y2,y3,y4,y5,y6],_ =>
   have k0:DataW.trod enc Tryz.prog W base sp hd m 9 [q0]=some y0:=by have:=hf 0 _ rfl;simpa[c9]using this
   have k1:DataW.trod enc Tryz.prog W base sp hd m 2 [q1]=some y1:=by have:=hf 1 _ rfl;simpa[c2]using this
   have k2:DataW.trod enc Tryz.prog W base sp hd m 4 [q2]=some y2:=by have:=hf 2 _ rfl;simpa[c4]using this
   have k3:DataW.trod enc Tryz.prog W base sp hd m 4 [q3]=some y3:=by have:=hf 3 _ rfl;simpa[c4]using this
   have k4:DataW.trod enc Tryz.prog W base sp hd m 4 [q4]=some y4:=by have:=hf 4 _ rfl;simpa[c4]using this
   have k5:DataW.trod enc Tryz.prog W base sp hd m 3 [q5]=some y5:=by have:=hf 5 _ rfl;simpa[c3]using this
   have k6:DataW.trod enc Tryz.prog W base sp hd m 4 [q6]=some y6:=by have:=hf 6 _ rfl;simpa[c4]using this
   obtain⟨z0,e0,r0,_⟩:=DataW.trod_string Tryz.underlying9 k0;obtain⟨z1,e1,r1,_⟩:=DataW.trod_int Tryz.underlying2 k1;obtain⟨z2,e2,r2⟩:=DataW.trod_bool Tryz.underlying4 k2;obtain⟨z3,e3,r3⟩:=DataW.trod_bool Tryz.underlying4 k3;obtain⟨z4,e4,r4⟩:=DataW.trod_bool Tryz.underlying4 k4;obtain⟨z5,e5,r5,_⟩:=DataW.trod_int Tryz.underlying3 k5;obtain⟨z6,e6,r6⟩:=DataW.trod_bool Tryz.underlying4 k6;subst r0 r1 r2 r3 r4 r5 r6;simp only[List.cons.injEq,and_true]at e0 e1 e2 e3 e4 e5 e6;subst e0 e1 e2 e3 e4 e5 e6;simp only[List.map_cons,List.map_nil,DataW.agg.injEq,List.cons.injEq,DataW.lit.injEq,Lit.string.injEq,Lit.int.injEq,Lit.bool.injEq,true_and,and_true]at hx;obtain⟨rfl,rfl,rfl,rfl,rfl,rfl,rfl⟩:=hx;rfl
/-- what the condition gives the walks -/
theorem rows_of_laid {W:World}(h:laidMetH Tryz.prog laidL W):RowsAt W:=by
 rw[MakeChecks.laidMetH_plain _ _ _ (by kernel_rfl)]at h;obtain⟨ps,⟨g0,t0,cs0,f0,p0,q0,hg0,ht0,hv0,hd0,_,_⟩,_,_⟩:=h;obtain rfl:(0:Nat)=g0:=Option.some.inj ((show Tryz.prog.globalNamed "soffit/code.rows" = some 0 by kernel_rfl).symm.trans hg0);obtain rfl:155=t0:=Option.some.inj ((show(Tryz.prog.globals[0]?).map (·.type)=some 155 by kernel_rfl).symm.trans ht0);obtain⟨xs,m1,rfl,hx1,hlen,hn,hel⟩:=DataW.trod_array Tryz.underlying155 hd0;have c109:Tryz.prog.cellsOf 154=7:=kr
 rw[c109]at hel;simp only[Prod.mk.injEq]at hx1;have hx:=hx1.1;unfold Rows.laid_soffit_code_rows at hx;simp only[DataW.agg.injEq]at hx;have hcell:=fun i=>World.var?_cell hg0 hv0 i;have key:∀ k,k<20->((cs0.toList.drop (k*7)).take 7)=[.string ⟨(rowAt k).word.toArray⟩,.int .i64 (rowAt k).weight,.bool (rowAt k).a,.bool (rowAt k).b,.bool (rowAt k).c,.int .i64 (rowAt k).n,.bool (rowAt k).writes]:=by
  intro k hk;have hk2:=hel k hk;rw[List.getElem?_eq_getElem (by omega)]at hk2;refine row_read hk2 ?_;have h3:(xs.map (·.1))[k]? = some xs[k].1:=by simp[List.getElem?_eq_getElem (show k<xs.length by omega)]
  rw[<-hx]at h3;have h4:(rowsL.map fun R=>(DataW.agg [.lit (.string R.word),.lit (.int .i64 R.weight),.lit (.bool R.a),.lit (.bool R.b),.lit (.bool R.c),.lit (.int .i64 R.n),.lit (.bool R.writes)]:DataW Unit))[k]? = some xs[k].1:=h3;rw[List.getElem?_map]at h4;have h5:rowsL[k]? = some (rowAt k):=by
   unfold rowAt;rw[List.getD_eq_getElem?_getD,List.getElem?_eq_getElem (by exact hk)];rfl
  rw[h5]at h4;simpa using h4.symm
 have hc:∀ k j v,k<20->j<7->([.string ⟨(rowAt k).word.toArray⟩,.int .i64 (rowAt k).weight,.bool (rowAt k).a,.bool (rowAt k).b,.bool (rowAt k).c,.int .i64 (rowAt k).n,.bool (rowAt k).writes]:List Value)[j]? = some v->W.cell? ⟨0,k*7+j,none⟩=some v:=by
  intro k j v hk hj hv;rw[hcell,<-hv,<-key k hk,List.getElem?_take_of_lt hj,List.getElem?_drop];simp
 refine⟨?_,fun k hk=>⟨hc k 0 _ hk oz rfl,hc k 1 _ hk oz rfl,hc k 2 _ hk oz rfl,hc k 3 _ hk oz rfl,hc k 4 _ hk oz rfl,hc k 5 _ hk oz rfl,hc k 6 _ hk oz rfl⟩⟩;have:=lt_of_cell? (hc 0 0 _ oz oz rfl);simpa using this
end Go.Proofs.YteebpnbdihcfmaaGreatDoor
namespace Go.Proofs.YteebpnbdihcfmaaGreatDoor
open Go.ChangeShapes Go.WideShapes Go.ChangeAt Go.RowKit Go.Deep Go.Joins
theorem wf64 {n:Int}(h:(Lit.int .i64 n).wf=true):In64 n:=bounds_i64 h
theorem c2:Tryz.prog.cellsOf 2=1:=kr
theorem c3:Tryz.prog.cellsOf 3=1:=kr
theorem c9:Tryz.prog.cellsOf 9=1:=kr
theorem c49:Tryz.prog.cellsOf 39=1:=kr
theorem c48:Tryz.prog.cellsOf 40=1:=kr
theorem c74:Tryz.prog.cellsOf 47=2:=kr
theorem c47:Tryz.prog.cellsOf 55=5:=kr
theorem c51:Tryz.prog.cellsOf 42=5:=kr
/-- the address of a cell that is there -/
theorem at_spot {w:World}{a:Addr}{k:Nat}{v:Value}(h:w.cell? (a.add k)=some v):a=⟨a.block,a.off,none⟩\/0<k:=by
 by_cases hk:k=0
 ·subst hk;have h2:=World.cell?_spot h;obtain⟨b,o,s⟩:=a;simp[Addr.add]at h2;subst h2;exact .inl rfl
 ·exact .inr oz
theorem add_plain (b o k:Nat):(⟨b,o,none⟩:Addr).add k=⟨b,o+k,none⟩:=by
 unfold Addr.add;split
 ·rename_i h;simp[h]
 ·rfl
section
variable {H : Type} {enc : TypeId × Value -> H} {W : World} {base : Nat} {sp : Nat -> Bool} {hd : Bool}
theorem open_nums {fuel:Nat}{cs:List Value}{x:DataW H×List MemPlace}(h:DataW.trod enc Tryz.prog W base sp hd fuel 22 cs=some x):∃ a n c zs,cs=[.slice a n c]/\NumsAt W.heap.size W a n zs/\n<=c/\c<=maxLen:=by
 rcases open_slice1 Tryz.underlying22 c2 h with⟨rfl,_⟩|⟨a,len,cap,m,n,V,D,Pl,rfl,hb,hl,hm,hmm,_,hx⟩
 ·exact⟨none,0,0,[],rfl,⟨rfl,Nat.zero_le _,0,0,fun h=>absurd h (Nat.lt_irrefl 0),fun i h=>absurd h (Nat.not_lt_zero i)⟩,Nat.le_refl _,Nat.zero_le _⟩
 ·have hlm:len<=m:=by rw[hmm];split<;>omega
  obtain⟨Z,hZ⟩:=choose_lt (α:=Int) (n:=len) (p:=fun i z=>W.cell? (a.add i)=some (.int .i64 z)/\In64 z) (fun i hi=>by
   obtain⟨h1,h2⟩:=hx i oz;obtain⟨z,e1,_,e3⟩:=DataW.trod_int Tryz.underlying2 h2;simp only[List.cons.injEq,and_true]at e1;exact⟨z,by rw[h1,e1],wf64 e3⟩)
  refine⟨some a,len,cap,(List.range len).map Z,rfl,⟨si,oz,a.block,a.off,fun h0=>?_,fun i hi=>?_⟩,hl,hm⟩
  ·have h1:=(hZ 0 h0).1;refine⟨?_,?_⟩
   ·rcases at_spot h1 with e|e
    ·rw[<-e]
    ·omega
   ·have:=lt_of_cell? h1;simpa[Addr.add]using this
  ·have e:a=⟨a.block,a.off,none⟩:=by
    rcases at_spot (hZ 0 oz).1 with e|e
    ·exact e
    ·omega
   have h1:=hZ i hi;rw[e,add_plain]at h1;have e2:((List.range len).map Z).getD i 0=Z i:=by simp[List.getD_eq_getElem?_getD,List.getElem?_map,List.getElem?_range hi]
   rw[e2];exact h1
theorem open_span {fuel:Nat}{cs:List Value}{x:DataW H×List MemPlace}(h:DataW.trod enc Tryz.prog W base sp hd fuel 47 cs=some x):∃ p:PSpan,cs=[.int .i64 p.lo,.int .i64 p.hi]/\In64 p.lo/\In64 p.hi:=by
 obtain⟨y0,y1,n,_,hl,h0,h1⟩:=trod_struct2 Tryz.underlying47 h;rw[c74]at hl
 match cs,hl with
 | [q0,q1],_ =>
  have k0:DataW.trod enc Tryz.prog W base sp hd n 2 [q0]=some y0:=by simpa[c2]using h0
  have k1:DataW.trod enc Tryz.prog W base sp hd n 2 [q1]=some y1:=by simpa[c2]using h1
  obtain⟨z0,e0,_,w0⟩:=DataW.trod_int Tryz.underlying2 k0;obtain⟨z1,e1,_,w1⟩:=DataW.trod_int Tryz.underlying2 k1;exact⟨⟨z0,z1⟩,by simp_all,wf64 w0,wf64 w1⟩
theorem open_ins {fuel:Nat}{cs:List Value}{x:DataW H×List MemPlace}(h:DataW.trod enc Tryz.prog W base sp hd fuel 55 cs=some x):∃ p:PIns,cs=[.int .i64 p.op,.int .i64 p.a,.int .i64 p.b,.int .i64 p.c,.int .i64 p.n]/\InsOk p:=by
 obtain⟨xs,m,rfl,rfl,hl,hlen,hf⟩:=DataW.trod_struct Tryz.underlying55 h;rw[c47]at hl
 match cs,hl with
 | [q0,q1,q2,q3,q4],_ =>
  match xs,hlen with
  | [y0,y1,y2,y3,y4],_ =>
   have k0:DataW.trod enc Tryz.prog W base sp hd m 3 [q0]=some y0:=by have:=hf 0 _ rfl;simpa[c3]using this
   have k1:DataW.trod enc Tryz.prog W base sp hd m 3 [q1]=some y1:=by have:=hf 1 _ rfl;simpa[c3]using this
   have k2:DataW.trod enc Tryz.prog W base sp hd m 3 [q2]=some y2:=by have:=hf 2 _ rfl;simpa[c3]using this
   have k3:DataW.trod enc Tryz.prog W base sp hd m 3 [q3]=some y3:=by have:=hf 3 _ rfl;simpa[c3]using this
   have k4:DataW.trod enc Tryz.prog W base sp hd m 2 [q4]=some y4:=by have:=hf 4 _ rfl;simpa[c2]using this
   obtain⟨z0,e0,_,w0⟩:=DataW.trod_int Tryz.underlying3 k0;obtain⟨z1,e1,_,w1⟩:=DataW.trod_int Tryz.underlying3 k1;obtain⟨z2,e2,_,w2⟩:=DataW.trod_int Tryz.underlying3 k2;obtain⟨z3,e3,_,w3⟩:=DataW.trod_int Tryz.underlying3 k3;obtain⟨z4,e4,_,w4⟩:=DataW.trod_int Tryz.underlying2 k4;simp only[List.cons.injEq,and_true]at e0 e1 e2 e3 e4;subst e0 e1 e2 e3 e4;exact⟨⟨z0,z1,z2,z3,z4⟩,rfl,wf64 w0,wf64 w1,wf64 w2,wf64 w3,wf64 w4⟩
/-- a slice of elements of k cells: each element's cells -/
theorem open_elems {t e:TypeId}{k:Nat}(hk0:0<k) (ht:Tryz.prog.underlying t=some (.slice e)) (hc:Tryz.prog.cellsOf e=k) {α:Type}[Inhabited α] (q:α->List Value->Prop)
 (hq:∀ (n:Nat) (cs:List Value) (y:DataW H×List MemPlace),DataW.trod enc Tryz.prog W base sp hd n e cs=some y->∃ z,q z cs)
 {fuel:Nat}{cs:List Value}{x:DataW H×List MemPlace} (h:DataW.trod enc Tryz.prog W base sp hd fuel t cs=some x) :
 ∃ a n c,∃ zs:List α,cs=[.slice a n c]/\zs.length=n/\n<=maxLen/\∃ b o,BaseAt W.heap.size a n b o/\∀ i,i<n->∃ ce,ce.length=k/\q (zs.getD i default) ce/\∀ j,j<k->W.cell? ⟨b,o+i*k+j,none⟩=ce[j]? := by
 rcases open_slice ht h with⟨rfl,_⟩|⟨a,len,cap,m,n,D,Pl,rfl,hb,hl,hm,hmm,_,hx⟩
 ·exact⟨none,0,0,[],rfl,rfl,Nat.zero_le _,0,0,fun h=>absurd h (Nat.lt_irrefl 0),fun i h=>absurd h (Nat.not_lt_zero i)⟩
 ·have hlm:len<=m:=by rw[hmm];split<;>omega
  have hx2:∀ i,i<len->∃ z,∃ ce,ce.length=k/\q z ce/\∀ j,j<k->W.cell? ((a.add (i*k)).add j)=ce[j]? := by
   intro i hi;obtain⟨ce,h1,h2⟩:=hx i oz;rw[hc]at h1;obtain⟨_,hlen,hce⟩:=World.cells?_some h1;obtain⟨z,hz⟩:=hq _ _ _ h2;exact⟨z,ce,hlen,hz,hce⟩
  obtain⟨Z,hZ⟩:=choose_lt hx2;have ha:0<len->a=⟨a.block,a.off,none⟩/\a.block<W.heap.size:=by
   intro h0;obtain⟨ce,hcl,_,hce⟩:=hZ 0 h0;have h1:=hce 0 hk0;rw[List.getElem?_eq_getElem (by omega)]at h1;simp only[Nat.zero_mul]at h1;have e0:(a.add 0).add 0=a.add 0:=by simp[Addr.add]
   rw[e0]at h1;refine⟨?_,?_⟩
   ·rcases at_spot h1 with e|e
    ·exact e
    ·omega
   ·have:=lt_of_cell? h1;simpa[Addr.add]using this
  refine⟨some a,len,cap,(List.range len).map Z,rfl,si,oz,a.block,a.off,fun h0=>⟨by rw[<-(ha h0).1],(ha h0).2⟩,fun i hi=>?_⟩;obtain⟨ce,hcl,hz,hce⟩:=hZ i hi;have e2:((List.range len).map Z).getD i default=Z i:=by simp[List.getD_eq_getElem?_getD,List.getElem?_map,List.getElem?_range hi]
  rw[e2];refine⟨ce,hcl,hz,fun j hj=>?_⟩;have:=hce j hj;rw[(ha (by omega)).1,add_plain,add_plain]at this;exact this
theorem open_spans {fuel:Nat}{cs:List Value}{x:DataW H×List MemPlace}(h:DataW.trod enc Tryz.prog W base sp hd fuel 39 cs=some x):∃ a n c zs,cs=[.slice a n c]/\SpansAt W.heap.size W a n zs:=by
 obtain⟨a,n,c,zs,rfl,hl,hm,b,o,hb,hz⟩:=open_elems (k:=2) oz Tryz.underlying39 c74 (fun(p:PSpan) cs=>cs=[.int .i64 p.lo,.int .i64 p.hi]/\In64 p.lo/\In64 p.hi) (fun n cs y h=>open_span h) h;refine⟨a,n,c,zs,rfl,hl,hm,b,o,hb,fun i hi=>?_⟩;obtain⟨ce,_,⟨rfl,w0,w1⟩,hc⟩:=hz i hi;exact⟨hc 0 oz,hc 1 oz,w0,w1⟩
theorem open_code {fuel:Nat}{cs:List Value}{x:DataW H×List MemPlace}(h:DataW.trod enc Tryz.prog W base sp hd fuel 40 cs=some x):∃ a n c zs,cs=[.slice a n c]/\CodeAt W.heap.size W a n zs:=by
 obtain⟨a,n,c,zs,rfl,hl,hm,b,o,hb,hz⟩:=open_elems (k:=5) oz Tryz.underlying40 c47 (fun(p:PIns) cs=>cs=[.int .i64 p.op,.int .i64 p.a,.int .i64 p.b,.int .i64 p.c,.int .i64 p.n]/\InsOk p) (fun n cs y h=>open_ins h) h;refine⟨a,n,c,zs,rfl,hl,hm,b,o,hb,fun i hi=>?_⟩;obtain⟨ce,_,⟨rfl,w0⟩,hc⟩:=hz i hi;exact⟨⟨hc 0 oz,hc 1 oz,hc 2 oz,hc 3 oz,hc 4 oz⟩,w0⟩
theorem open_func {fuel:Nat}{cs:List Value}{x:DataW H×List MemPlace}(h:DataW.trod enc Tryz.prog W base sp hd fuel 42 cs=some x) :
 ∃ (f:PFunc) (k:HF),cs=[.string f.name,.slice k.pa k.pl k.pc,.int .i64 f.regs,.int .i64 f.words,.slice k.ca k.cl k.cc]/\FuncOk W.heap.size W k f:=by
 obtain⟨xs,m,rfl,rfl,hl,hlen,hf⟩:=DataW.trod_struct Tryz.underlying42 h;rw[c51]at hl
 match cs,hl with
 | [q0,q1,q2,q3,q4],_ =>
  match xs,hlen with
  | [y0,y1,y2,y3,y4],_ =>
   have k0:DataW.trod enc Tryz.prog W base sp hd m 9 [q0]=some y0:=by have:=hf 0 _ rfl;simpa[c9]using this
   have k1:DataW.trod enc Tryz.prog W base sp hd m 39 [q1]=some y1:=by have:=hf 1 _ rfl;simpa[c49]using this
   have k2:DataW.trod enc Tryz.prog W base sp hd m 3 [q2]=some y2:=by have:=hf 2 _ rfl;simpa[c3]using this
   have k3:DataW.trod enc Tryz.prog W base sp hd m 3 [q3]=some y3:=by have:=hf 3 _ rfl;simpa[c3]using this
   have k4:DataW.trod enc Tryz.prog W base sp hd m 40 [q4]=some y4:=by have:=hf 4 _ rfl;simpa[c48]using this
   obtain⟨z0,e0,_,w0⟩:=DataW.trod_string Tryz.underlying9 k0;obtain⟨pa,pl,pc,ps,e1,w1⟩:=open_spans k1;obtain⟨z2,e2,_,w2⟩:=DataW.trod_int Tryz.underlying3 k2;obtain⟨z3,e3,_,w3⟩:=DataW.trod_int Tryz.underlying3 k3;obtain⟨ca,cl,cc,zs,e4,w4⟩:=open_code k4;simp only[List.cons.injEq,and_true]at e0 e1 e2 e3 e4;subst e0 e1 e2 e3 e4;exact⟨⟨z0,ps,z2,z3,zs⟩,⟨pa,pl,pc,ca,cl,cc⟩,rfl,w0,w1,w4,wf64 w2,wf64 w3⟩
instance : Inhabited (PFunc × HF) := ⟨(default, default)⟩
theorem open_funcs {fuel:Nat}{cs:List Value}{x:DataW H×List MemPlace}(h:DataW.trod enc Tryz.prog W base sp hd fuel 23 cs=some x):∃ a n c zs,cs=[.slice a n c]/\FuncsAt W.heap.size W a n zs:=by
 obtain⟨a,n,c,zs,rfl,hl,hm,b,o,hb,hz⟩:=open_elems (k:=5) oz Tryz.underlying23 c51 (fun(p:PFunc×HF) cs=>cs=[.string p.1.name,.slice p.2.pa p.2.pl p.2.pc,.int .i64 p.1.regs,.int .i64 p.1.words,.slice p.2.ca p.2.cl p.2.cc]/\FuncOk W.heap.size W p.2 p.1)
  (fun n cs y h=>by obtain⟨f,k,e⟩:=open_func h;exact⟨(f,k),e⟩) h
 refine⟨a,n,c,zs.map (·.1),rfl,by simpa using hl,hm,b,o,hb,fun i=>(zs.getD i default).2,fun i hi=>?_⟩;obtain⟨ce,_,⟨rfl,w0⟩,hc⟩:=hz i hi;have e:(zs.map (·.1)).getD i default=(zs.getD i default).1:=by
  simp[List.getD_eq_getElem?_getD,List.getElem?_map,List.getElem?_eq_getElem (show i<zs.length by omega)]
 rw[e];exact⟨⟨hc 0 oz,hc 1 oz,hc 2 oz,hc 3 oz,hc 4 oz⟩,w0⟩
theorem open_mod {r:Reach}{b0:Nat}{v:Value}{d:DataW H}{p:List MemPlace}(hv:Value.okWide Tryz.prog W r b0 25 v) (h:DataW.Trod enc Tryz.prog W base sp hd 25 v d p):∃ m,ModAt W.heap.size W v m:=by
 obtain⟨v0,v1,y0,y1,n,rfl,_,_,h0,h1⟩:=open_agg2 Tryz.underlying25 kr kr hv h;obtain⟨ta,tl,tc,zs,e0,w0,_⟩:=open_nums h0;obtain⟨fa,fl,fc,fs,e1,w1⟩:=open_funcs h1;simp only[List.cons.injEq,and_true]at e0 e1;subst e0 e1;exact⟨⟨zs,fs⟩,ta,tl,tc,fa,fl,fc,rfl,w0,w1⟩
theorem open_numsV {v:Value}{d:DataW H}{p:List MemPlace}{r:Reach}{b0:Nat}(hv:Value.okWide Tryz.prog W r b0 22 v) (h:DataW.Trod enc Tryz.prog W base sp hd 22 v d p):∃ a n c zs,v=.slice a n c/\NumsAt W.heap.size W a n zs/\n<=c/\c<=maxLen:=by
 obtain⟨a0,n0,c0,rfl⟩:=okWide_slice Tryz.underlying22 hv;obtain⟨fuel,hf⟩:=h;obtain⟨a,n,c,zs,e,w0,w1⟩:=open_nums hf;simp[Value.cells]at e;obtain⟨rfl,rfl,rfl⟩:=e;exact⟨a0,n0,c0,zs,rfl,w0,w1⟩
end
end Go.Proofs.YteebpnbdihcfmaaGreatDoor
namespace Go.Proofs.YteebpnbdihcfmaaGreatDoor
open Go.RowKit
def spanV (p:PSpan):Value:=.agg #[.int .i64 p.lo,.int .i64 p.hi]
def joinP (a b:PSpan):PSpan:=if a.hi<a.lo then b else if b.hi<b.lo then a else⟨min a.lo b.lo,max a.hi b.hi⟩
def meetP (a b:PSpan):PSpan:=⟨max a.lo b.lo,min a.hi b.hi⟩
theorem snone_any (a:PSpan) (w:World):Calls Tryz.prog 55 #[spanV a] w fun e w'=>e=.returned (.bool (emptyB a))/\Below w.heap.size w w':=by
 obtain⟨lo,hi⟩:=a;unfold spanV emptyB;dsimp only;go_enter Tryz.func55,Tryz.ntmps55;go_wp2;go_ret;go_light;exact⟨rfl,bel⟩
theorem shas_any (a:PSpan) (n:Int) (w:World):Calls Tryz.prog 114 #[spanV a,.int .i64 n] w fun e w'=>e=.returned (.bool (decide (a.lo<=n)&&decide (n<=a.hi)))/\Below w.heap.size w w':=by
 obtain⟨lo,hi⟩:=a;unfold spanV;dsimp only;by_cases h1:lo<=n
 ·have d1:decide (lo<=n)=true:=by simpa using h1
  go_enter Tryz.func114,Tryz.ntmps114;go_wp2;go_ret;go_light
  first|exact⟨rfl,bel⟩|exact⟨by simp[d1],bel⟩
 ·have d1:decide (lo<=n)=false:=by simpa using h1
  go_enter Tryz.func114,Tryz.ntmps114;go_wp2;go_ret;go_light
  first|exact⟨rfl,bel⟩|exact⟨by simp[d1],bel⟩
theorem set2 {w:World}{k:Nat}{a b:Value}(h:Own w k [a,b]) (x y:Value):(w.setCell ⟨k,0,none⟩ x).cell? ⟨k,0,none⟩=some x/\((w.setCell ⟨k,0,none⟩ x).setCell ⟨k,1,none⟩ y).cell? ⟨k,1,none⟩=some y :=
 ⟨(h.set 0 x si).2.1 0 _ rfl,((h.set 0 x si).set 1 y si).2.1 1 _ rfl⟩
theorem ret2 {a b a' b':Int}(h:a=a') (h':b=b'):Ending.returned (.agg #[.int .i64 a,.int .i64 b])=.returned (.agg #[.int .i64 a',.int .i64 b']):=by rw[h,h']
theorem join_end (Q:Ending->World->Prop) (T:Array Value) (W:World) (k:Nat) (lo hi:Int) (ho:Own W k [.int .i64 lo,.int .i64 hi]) (hT:T[4]? = some (.pointer (some ⟨k,0,none⟩))) (ex:Exit) (hx:ex=.ret\/ex=.normal)
 (hq:Q (.returned (.agg #[.int .i64 lo,.int .i64 hi])) W):bodyPost Tryz.prog Tryz.f19 Q ex { tmps:=T,defers:=[] } W:=by
 obtain⟨_,r0,r1,_⟩:=own2 ho;have hr:(results Tryz.f19 T).run Tryz.prog W=.ok (.agg #[.int .i64 lo,.int .i64 hi]) W:=by
  simp[results,Tryz.results19,go_sem,hT,r0,r1]
 rcases hx with rfl|rfl
 ·exact bodyPost_ret hr rfl hq
 ·exact⟨rfl,_,hr,hq⟩
theorem sjoin_any (a b:PSpan) (w:World):Calls Tryz.prog 19 #[spanV a,spanV b] w fun e w'=>e=.returned (spanV (joinP a b))/\Below w.heap.size w w':=by
 have HA:=qd (fun w=>snone_any a w);have HB:=qd (fun w=>snone_any b w);obtain⟨lo,hi⟩:=a;obtain⟨lo2,hi2⟩:=b;unfold spanV emptyB at HA HB;unfold spanV joinP;dsimp only at *;by_cases h1:hi<lo
 ·have d1:decide (hi<lo)=true:=by simpa using h1
  rw[if_pos h1];rw[d1]at HA;go_enter Tryz.func19,Tryz.ntmps19;go_wp2_with (first|(go_at_call 55;refine(HA.out _).mono ?_;rintro e w1 ⟨rfl,hb1⟩;have qa:=own2 ((((Own.new w [.int .i64 lo,.int .i64 hi] 47).alloc (.cells #[.int .i64 lo2,.int .i64 hi2] 47)).alloc (.cells #[.int .i64 0,.int .i64 0] 47)).below hb1);have qb:=own2 (((Own.new' (w.alloc (.cells #[.int .i64 lo,.int .i64 hi] 47)) [.int .i64 lo2,.int .i64 hi2] 47 (w.heap.size+1) si).alloc (.cells #[.int .i64 0,.int .i64 0] 47)).below hb1);have hr1:=(Own.new' ((w.alloc (.cells #[.int .i64 lo,.int .i64 hi] 47)).alloc (.cells #[.int .i64 lo2,.int .i64 hi2] 47)) [.int .i64 0,.int .i64 0] 47 (w.heap.size+1+1) si).below hb1;have qr:=own2 hr1;have sr:=set2 hr1;have hz1:=hb1.size)|fail)
  refine join_end _ _ _ (w.heap.size+1+1) lo2 hi2 ((hr1.set 0 _ si).set 1 _ si) rfl _ si ⟨rfl,bel⟩
 ·have d1:decide (hi<lo)=false:=by simpa using h1
  rw[if_neg h1];rw[d1]at HA;by_cases h2:hi2<lo2
  ·have d2:decide (hi2<lo2)=true:=by simpa using h2
   rw[if_pos h2];rw[d2]at HB;go_enter Tryz.func19,Tryz.ntmps19;go_wp2_with (first|(go_at_call 55;refine(HA.out _).mono ?_;rintro e w1 ⟨rfl,hb1⟩;have qa:=own2 ((((Own.new w [.int .i64 lo,.int .i64 hi] 47).alloc (.cells #[.int .i64 lo2,.int .i64 hi2] 47)).alloc (.cells #[.int .i64 0,.int .i64 0] 47)).below hb1);have hq1:=(Own.new' (w.alloc (.cells #[.int .i64 lo,.int .i64 hi] 47)) [.int .i64 lo2,.int .i64 hi2] 47 (w.heap.size+1) si).alloc (.cells #[.int .i64 0,.int .i64 0] 47);have qb:=own2 (hq1.below hb1);have hr1:=(Own.new' ((w.alloc (.cells #[.int .i64 lo,.int .i64 hi] 47)).alloc (.cells #[.int .i64 lo2,.int .i64 hi2] 47)) [.int .i64 0,.int .i64 0] 47 (w.heap.size+1+1) si).below hb1;have hp1:=((((Own.new w [.int .i64 lo,.int .i64 hi] 47).alloc (.cells #[.int .i64 lo2,.int .i64 hi2] 47)).alloc (.cells #[.int .i64 0,.int .i64 0] 47)).below hb1);have hz1:=hb1.size;clear HA)|(go_at_call 55;refine(HB.out _).mono ?_;rintro e w2 ⟨rfl,hb2⟩;have qa2:=own2 (hp1.below (hb2.mono (by first|omega|(simp<;>omega)|(simp at * <;> omega))));have qb2:=own2 ((hq1.below hb1).below (hb2.mono (by first|omega|(simp<;>omega)|(simp at * <;> omega))));have hr2:=hr1.below (hb2.mono (by first|omega|(simp<;>omega)|(simp at * <;> omega)));have qr2:=own2 hr2;have sr2:=set2 hr2;have hz2:=hb2.size;have hb3:=hb1.trans (hb2.mono (by first|omega|(simp<;>omega)|(simp at * <;> omega)));clear HB)|fail)
   refine join_end _ _ _ (w.heap.size+1+1) lo hi ((hr2.set 0 _ si).set 1 _ si) rfl _ si ⟨rfl,bel⟩
  ·have d2:decide (hi2<lo2)=false:=by simpa using h2
   rw[if_neg h2];rw[d2]at HB;go_enter Tryz.func19,Tryz.ntmps19;go_wp2_with (first|(go_at_call 55;refine(HA.out _).mono ?_;rintro e w1 ⟨rfl,hb1⟩;have qa:=own2 ((((Own.new w [.int .i64 lo,.int .i64 hi] 47).alloc (.cells #[.int .i64 lo2,.int .i64 hi2] 47)).alloc (.cells #[.int .i64 0,.int .i64 0] 47)).below hb1);have hq1:=(Own.new' (w.alloc (.cells #[.int .i64 lo,.int .i64 hi] 47)) [.int .i64 lo2,.int .i64 hi2] 47 (w.heap.size+1) si).alloc (.cells #[.int .i64 0,.int .i64 0] 47);have qb:=own2 (hq1.below hb1);have hr1:=(Own.new' ((w.alloc (.cells #[.int .i64 lo,.int .i64 hi] 47)).alloc (.cells #[.int .i64 lo2,.int .i64 hi2] 47)) [.int .i64 0,.int .i64 0] 47 (w.heap.size+1+1) si).below hb1;have hp1:=((((Own.new w [.int .i64 lo,.int .i64 hi] 47).alloc (.cells #[.int .i64 lo2,.int .i64 hi2] 47)).alloc (.cells #[.int .i64 0,.int .i64 0] 47)).below hb1);have hz1:=hb1.size;clear HA)|(go_at_call 55;refine(HB.out _).mono ?_;rintro e w2 ⟨rfl,hb2⟩;have qa2:=own2 (hp1.below (hb2.mono (by first|omega|(simp<;>omega)|(simp at * <;> omega))));have qb2:=own2 ((hq1.below hb1).below (hb2.mono (by first|omega|(simp<;>omega)|(simp at * <;> omega))));have hr2:=hr1.below (hb2.mono (by first|omega|(simp<;>omega)|(simp at * <;> omega)));have qr2:=own2 hr2;have sr2:=set2 hr2;have hz2:=hb2.size;have hb3:=hb1.trans (hb2.mono (by first|omega|(simp<;>omega)|(simp at * <;> omega)));clear HB)|fail)
   all_goals refine join_end _ _ _ (w.heap.size+1+1) _ _ ((hr2.set 0 _ si).set 1 _ si) rfl _ si ⟨ret2 oz oz,bel⟩
def allP:PSpan:=⟨-9223372036854775808,9223372036854775807⟩
def hasP (a:PSpan) (n:Int):Bool:=decide (a.lo<=n)&&decide (n<=a.hi)
theorem ret_ib {a a':Int}{b b':Bool}{k:IntKind}(h:a=a') (h':b=b'):Ending.returned (.tuple #[.int k a,.bool b])=.returned (.tuple #[.int k a',.bool b']):=by rw[h,h']
theorem ret_sb {a b a' b':Int}{c c':Bool}(h:a=a') (h':b=b') (h2:c=c'):Ending.returned (.tuple #[.agg #[.int .i64 a,.int .i64 b],.bool c])=.returned (.tuple #[.agg #[.int .i64 a',.int .i64 b'],.bool c']):=by rw[h,h',h2]
theorem own_set2 {w:World}{k:Nat}{a b x y:Value}(h:Own w k [a,b]):Own ((w.setCell ⟨k,0,none⟩ x).setCell ⟨k,1,none⟩ y) k [x,y]:=(h.set 0 x si).set 1 y si
theorem ownbq {w:World}{k:Nat}{cs:List Value}(h:Own w k cs:=by repeat(first|with_reducible assumption|(with_reducible apply own_set2)|(with_reducible refine Own.new' _ [_,_] _ _ ?hk;case hk=>(simp;done))|with_reducible refine Own.drew ?_|with_reducible refine Own.drewN ?_ _|with_reducible refine Own.alloc ?_ _|with_reducible refine Own.below ?_ (by with_reducible assumption)|(with_reducible refine Own.setOther ?_ _ ?hk;case hk=>(first|(simp;done)|(simp;omega))))):Own w k cs:=h
/-- a result of two cells -/
theorem span_end {F:Func}{i:Nat}{Q:Ending->World->Prop}{T:Array Value}{W:World}{k:Nat}{lo hi:Int}(hF:F.results=#[.cell i 47]) (hT:T[i]? = some (.pointer (some ⟨k,0,none⟩))) (ho:Own W k [.int .i64 lo,.int .i64 hi]) {ex:Exit}(hx:ex=.ret\/ex=.normal)
 (hq:Q (.returned (.agg #[.int .i64 lo,.int .i64 hi])) W):bodyPost Tryz.prog F Q ex { tmps:=T,defers:=[] } W:=by
 obtain⟨_,r0,r1,_⟩:=own2 ho;have hr:(results F T).run Tryz.prog W=.ok (.agg #[.int .i64 lo,.int .i64 hi]) W:=by
  simp[results,hF,go_sem,hT,r0,r1]
 rcases hx with rfl|rfl
 ·exact bodyPost_ret hr rfl hq
 ·exact⟨rfl,_,hr,hq⟩
/-- a result of two cells, and a flag -/
theorem flag_end {F:Func}{i j:Nat}{Q:Ending->World->Prop}{T:Array Value}{W:World}{k:Nat}{lo hi:Int}{b:Bool}(hF:F.results=#[.cell i 47,.tmp j]) (hT:T[i]? = some (.pointer (some ⟨k,0,none⟩))) (hT2:T[j]? = some (.bool b)) (ho:Own W k [.int .i64 lo,.int .i64 hi]) {ex:Exit}(hx:ex=.ret\/ex=.normal)
 (hq:Q (.returned (.tuple #[.agg #[.int .i64 lo,.int .i64 hi],.bool b])) W):bodyPost Tryz.prog F Q ex { tmps:=T,defers:=[] } W:=by
 obtain⟨_,r0,r1,_⟩:=own2 ho;have hr:(results F T).run Tryz.prog W=.ok (.tuple #[.agg #[.int .i64 lo,.int .i64 hi],.bool b]) W:=by
  simp[results,hF,go_sem,hT,hT2,r0,r1]
 rcases hx with rfl|rfl
 ·exact bodyPost_ret hr rfl hq
 ·exact⟨rfl,_,hr,hq⟩
theorem sall_any (w:World):Calls Tryz.prog 88 #[] w fun e w'=>e=.returned (spanV allP)/\Below w.heap.size w w':=by
 unfold spanV allP;go_enter Tryz.func88,Tryz.ntmps88;go_wp2;refine span_end (by rfl) (by rfl) ownbq si ?_;exact⟨rfl,bel⟩
def lengthP (a b:PSpan):Int:=if b.hi<=a.lo then 0 else IntKind.u64.wrap (IntKind.u64.wrap b.hi-IntKind.u64.wrap a.lo)
theorem slength_any (a b:PSpan) (w:World):Calls Tryz.prog 25 #[spanV a,spanV b] w fun e w'=>e=.returned (.int .u64 (lengthP a b))/\Below w.heap.size w w':=by
 obtain⟨lo,hi⟩:=a;obtain⟨lo2,hi2⟩:=b;unfold spanV lengthP;dsimp only;by_cases h1:hi2<=lo
 ·rw[if_pos h1];go_enter Tryz.func25,Tryz.ntmps25;go_wp2;go_ret;go_light;exact⟨rfl,bel⟩
 ·rw[if_neg h1];go_enter Tryz.func25,Tryz.ntmps25;go_wp2;go_ret;go_light;exact⟨rfl,bel⟩
def exactP (a b:Int):Int×Bool:=(wrap64 (a+b),decide (a<wrap64 (a+b))==decide (0<b))
def lessP (a b:Int):Int×Bool:=(wrap64 (a-b),decide (wrap64 (a-b)<a)==decide (0<b))
theorem sexact_any (a b:Int) (w:World):Calls Tryz.prog 107 #[.int .i64 a,.int .i64 b] w fun e w'=>e=.returned (.tuple #[.int .i64 (exactP a b).1,.bool (exactP a b).2])/\w'=w:=by
 unfold exactP;go_enter Tryz.func107,Tryz.ntmps107;go_wp2;go_ret2;exact⟨rfl,rfl⟩
theorem sless_any (a b:Int) (w:World):Calls Tryz.prog 109 #[.int .i64 a,.int .i64 b] w fun e w'=>e=.returned (.tuple #[.int .i64 (lessP a b).1,.bool (lessP a b).2])/\w'=w:=by
 unfold lessP;go_enter Tryz.func109,Tryz.ntmps109;go_wp2;go_ret2;exact⟨rfl,rfl⟩
theorem u64_wrap (x:Int):IntKind.u64.wrap x=x%18446744073709551616:=by unfold IntKind.wrap IntKind.signed IntKind.bits;simp
theorem sdist_any (a:Int) (w:World) (ha:In64 a):Calls Tryz.prog 121 #[.int .i64 a] w fun e w'=>e=.returned (.int .u64 a.natAbs)/\w'=w:=by
 unfold In64 at ha;by_cases h1:a<0
 ·go_enter Tryz.func121,Tryz.ntmps121;go_wp2;go_ret;go_light;refine⟨ret_int ?_,rfl⟩;rw[u64_wrap];rw[u64_wrap];omega
 ·go_enter Tryz.func121,Tryz.ntmps121;go_wp2;go_ret;go_light;refine⟨ret_int ?_,rfl⟩;show a=_;omega
def meetQ (a b:PSpan):PSpan×Bool:=if(meetP a b).hi<(meetP a b).lo then(⟨0,0⟩,false)else(meetP a b,true)
theorem smeet_any (a b:PSpan) (w:World):Calls Tryz.prog 84 #[spanV a,spanV b] w fun e w'=>e=.returned (.tuple #[spanV (meetQ a b).1,.bool (meetQ a b).2])/\Below w.heap.size w w':=by
 have HA:=qd (fun x y w=>snone_any ⟨x,y⟩ w);unfold meetQ;obtain⟨lo,hi⟩:=a;obtain⟨lo2,hi2⟩:=b;unfold meetP at *;unfold spanV emptyB at HA ;unfold spanV;dsimp only at *;by_cases h1:min hi hi2<max lo lo2
 ·rw[if_pos h1];go_enter Tryz.func84,Tryz.ntmps84;go_wp2_with (first|(go_at_call 55;refine(HA.out _ _ _).mono ?_;rintro e w1 ⟨rfl,hb1⟩;have hc1:=bcell hb1;have hz1:=hb1.size)|fail)
  all_goals first|(exfalso;grind)|(refine flag_end (by rfl) (by rfl) (by rfl) ownbq si ?_;exact⟨rfl,bel⟩)
 ·rw[if_neg h1];go_enter Tryz.func84,Tryz.ntmps84;go_wp2_with (first|(go_at_call 55;refine(HA.out _ _ _).mono ?_;rintro e w1 ⟨rfl,hb1⟩;have hc1:=bcell hb1;have hz1:=hb1.size)|fail)
  all_goals first|(exfalso;grind)|(refine flag_end (by rfl) (by rfl) (by rfl) ownbq si ?_;exact⟨ret_sb (by grind) (by grind) rfl,bel⟩)
section
section
variable {P : Program} {ops : Array Oper} {md : Region.Mode} {C : World -> Prop}
def wpLC (P:Program) (md:Region.Mode) (ops:Array Oper) (C:World->Prop) (n:Nat) (L:Array Bool->Act->Prop):Nat->Array Bool->Act->Prop
 | 0,listed,a=>L listed a
 | f+1,listed,a =>
  Region.ready md ops listed≠[]/\∀ i∈Region.ready md ops listed,i<n/\qOp P ops C i (wpLC P md ops C n L f (listed.setIfInBounds i true)) a
theorem wpAny_of_headC {n g:Nat}{L:Array Bool->Act->Prop}{Q':Exit->Act->World->Prop}(hL:∀ listed a w,C w->L listed a->wpAny P md ops Q' g listed a w) :
 ∀ (f:Nat) (listed:Array Bool) (a:Act) (w:World),C w->wpLC P md ops C n L f listed a->wpAny P md ops Q' (f+g) listed a w
 | 0,listed,a,w,hw,h=>by rw[Nat.zero_add];exact hL _ _ _ hw h
 | f+1,listed,a,w,hw,h=>by
  rw[show f+1+g=(f+g)+1 by omega];exact⟨fun h0=>absurd h0 h.1,fun i hi=>wpOp_of_qOp hw (fun a' w' hw' h'=>wpAny_of_headC hL f _ a' w' hw' h') (h.2 i hi).2⟩
theorem wpLC_first {n i:Nat}{oi:Oper}{v:Value}{L:Array Bool->Act->Prop}(hi:ops[i]? = some oi) (hsel:∀ (j:Nat) (o:Oper) cs b,ops[j]? = some o->o.op≠.select cs b)
 (hs:Region.sinkB md ops n=true) (hc:Region.chainB md ops n=true) (hn:n<ops.size) (hin:i<n)
 (hdone:∀ listed a,L listed a->∀ j∈Region.ready md ops listed,n<=j) :
 ∀ (f:Nat) (listed:Array Bool) (a:Act),HeadInv md ops n listed ->
  (∀ j oj,ops[j]? = some oj->j≠i->listed.getD j true=false->(∀ e∈oj.after,Region.binds md e=true->e.on≠i)->oi.apart ops oj=true) ->
  i∈Region.ready md ops listed->YieldsIn P ops C oi v a ->
  wpLC P md ops C n L f (listed.setIfInBounds i true) (a.put oi.dst v)->wpLC P md ops C n L (f+1) listed a:=by
 intro f
 induction f with
 | zero =>
  intro listed a inv _ hr hy H;have hun:=(mem_ready.1 hr).1;refine⟨fun h=>(by rw[h]at hr;cases hr),fun j hj=>?_⟩;have hjn:j<n:=by
   rcases Nat.lt_or_ge j n with h|h
   ·exact h
   ·exact absurd hj (tail_waits hs hc hn inv _ i rfl hin hun j h)
  refine⟨hjn,?_⟩;by_cases hji:j=i
  ·subst hji;exact hy.qOp hi H
  ·have:=hdone _ _ H j (ready_mono hj hji);omega
 | succ f ih =>
  intro listed a inv hfree hr hy H;have hun:=(mem_ready.1 hr).1;refine⟨fun h=>(by rw[h]at hr;cases hr),fun j hj=>?_⟩;have hjn:j<n:=by
   rcases Nat.lt_or_ge j n with h|h
   ·exact h
   ·exact absurd hj (tail_waits hs hc hn inv _ i rfl hin hun j h)
  refine⟨hjn,?_⟩;by_cases hji:j=i
  ·subst hji;exact hy.qOp hi H
  ·have h1:=(H.2 j (ready_mono hj hji)).2;obtain⟨hjun,oj,hoj,hall⟩:=mem_ready.1 hj;have hnot:∀ e∈oj.after,Region.binds md e=true->e.on≠i:=fun e he hb heq=>by
    have h1:=hall e he hb;rw[heq,getD_both hun]at h1;cases h1
   have h2:=qOp_put hoj (hfree j oj hoj hji hjun hnot) (fun cs b=>hsel i oi cs b hi) (fun cs b=>hsel j oj cs b hoj) hy h1;have hfree':∀ k ok,ops[k]? = some ok->k≠i->(listed.setIfInBounds j true).getD k true=false ->
    (∀ e∈ok.after,Region.binds md e=true->e.on≠i)->oi.apart ops ok=true:=fun k ok hk hki hun hno=>by
    refine hfree k ok hk hki ?_ hno;by_cases hjk:j=k
    ·subst hjk;exact hjun
    ·rw[getD_set_ne true hjk]at hun;exact hun
   refine qOp_mono (fun a' h3=>ih (listed.setIfInBounds j true) a' (inv.set hj hjn) hfree' (ready_mono hr (Ne.symm hji)) h3.1 ?_) h2;rw[Array.setIfInBounds_comm _ _ hji];exact h3.2
theorem wpLC_lex {n g:Nat}{Lq:Act->Prop}(hsel:Region.noSelect ops=true) (hs:Region.sinkB md ops n=true) (hc:Region.chainB md ops n=true) (hn:n<ops.size) :
 ∀ (l:List Oper) (k:Nat) (listed:Array Bool) (a:Act),(∀ j,j<l.length->l[j]? = ops[k+j]?)->k+l.length=n->HeadInv md ops n listed ->
 Region.lexHead md ops g l.length k listed=true->wpQuiet P ops C Lq l a ->
 wpLC P md ops C n (fun listed' a'=>Region.seqB md ops g n listed'=true/\Lq a') l.length listed a
 | [],k,listed,a,_,hk,_,hB,h=>by
  have:k=n:=by simpa using hk
  subst this;exact⟨by simpa[Region.lexHead]using hB,h⟩
 | o::l,k,listed,a,hl,hk,inv,hB,h=>by
  have h0:ops[k]? = some o:=by simpa using (hl 0 si).symm
  simp only[List.length_cons,Region.lexHead,Bool.and_eq_true]at hB;obtain⟨⟨hr,hf⟩,hB'⟩:=hB;have hkn:k<n:=by simp only[List.length_cons]at hk;omega
  have hr':k∈Region.ready md ops listed:=by simpa using hr
  have hst:qOp P ops C k (wpQuiet P ops C Lq l) a:=by unfold qOp;simp only[h0];exact h
  obtain⟨v,hy,hK⟩:=yieldsIn_of_qOp h0 hst;exact wpLC_first h0 (Region.noSelect_spec hsel) hs hc hn hkn (fun listed' a' hL=>seqB_ready hL.1) l.length listed a inv (Region.free_spec h0 hf) hr' hy
   (wpLC_lex hsel hs hc hn l (k+1) _ _ (fun j hj=>by have:=hl (j+1) (by simp;omega);simpa[Nat.add_assoc,Nat.add_comm 1 j]using this) (by simp only[List.length_cons]at hk;omega) (inv.set hr' hkn) hB' hK)
theorem wp_region_quiet_tail {id:Nat}{Q:Exit->Act->World->Prop}{a:Act}{w:World}{l:List Oper}(n:Nat) (hm:P.follows .mixedOrders=true) (hB:Region.lexTailB .any l.toArray n=true) (hC:C w.drew)
 (h:wpQuiet P l.toArray C (fun a'=>∀ w',C w'->wpList P l.toArray Q (l.drop n) a' w') (l.take n) a):(Code.region id l.toArray true).wp P Q a w:=by
 simp only[Region.lexTailB,Bool.and_eq_true,decide_eq_true_eq]at hB;obtain⟨⟨⟨⟨hsel,hn⟩,hs⟩,hc⟩,hlex⟩:=hB;have hn':n<l.length:=by simpa using hn
 have htl:(l.take n).length=n:=by simp;omega
 have hdl:(l.drop n).length=l.toArray.size-n:=si
 have inv0:HeadInv .any l.toArray n (Array.replicate l.toArray.size false) :=
  ⟨si,fun j oj _ hl=>(by rw[getD_replicate_false]at hl;cases hl),fun t _ ht=>getD_in (by simpa using ht) (getD_replicate_false _ _)⟩
 have H:=wpLC_lex (md:=.any) (g:=l.toArray.size-n) hsel hs hc hn (l.take n) 0 _ a (fun j hj=>by
  have hj':j<n:=by rw[htl]at hj;exact hj
  simp[hj']) (by simpa using htl) inv0 (by rw[htl];exact hlex) h
 refine wp_region_any hm ?_;have:=wpAny_of_headC (Q':=Q) (g:=l.toArray.size-n) (fun listed a' w' hw' hL=>by
  have:=wpAny_of_seq (md:=.any) (Q':=Q) (l.drop n) n listed a' w' (fun j=>by simp[List.getElem?_drop]) (by rw[hdl];exact hL.1) (hL.2 w' hw')
  rwa [hdl]at this) _ _ _ _ hC H
 rw[htl,show n+(l.toArray.size-n)=l.toArray.size by omega]at this;exact this
/-! an operation that panics, in whatever world of the class -/
end
/-! the class of the worlds below which nothing has turned, its worlds named by a family -/
@[irreducible] def WQ (P:Program) (ops:Array Oper) (C:World->Prop) (Q:Act->Prop) (l:List Oper) (a:Act):Prop:=wpQuiet P ops C Q l a
theorem WQ_nil {P:Program}{ops:Array Oper}{C:World->Prop}{Q:Act->Prop}{a:Act}(h:Q a):WQ P ops C Q [] a:=by unfold WQ;exact h
theorem WQ_step {P:Program}{ops:Array Oper}{C:World->Prop}{Q:Act->Prop}{a:Act}{o:Oper}{rest:List Oper}
 (h:∀ K:Act->Prop,(∀ a,WQ P ops C Q rest a->K a)->if Region.wanted o (yielded ops a.tmps)then o.quiet P a C K else K (a.put o.dst undef)):WQ P ops C Q (o::rest) a:=by
 unfold WQ at *;exact wpQuiet_step h
theorem wp_below_tail {P:Program}{id:Nat}{Q:Exit->Act->World->Prop}{a:Act}{w:World}{l:List Oper}(n:Nat) (hm:P.follows .mixedOrders=true) (hB:Region.lexTailB .any l.toArray n=true)
 (h:∀ (T:Type) (F:T->World),(∀ t,Below w.heap.size w (F t))->(∀ w',Below w.heap.size w w'->∃ t,w'=F t) ->
   WQ P l.toArray (fun w'=>∃ t,w'=F t) (fun a'=>∀ t,wpList P l.toArray Q (l.drop n) a' (F t)) (l.take n) a):(Code.region id l.toArray true).wp P Q a w:=by
 have h1:=h { w':World // Below w.heap.size w w' } Subtype.val (fun t=>t.2) (fun w' hw'=>⟨⟨w',hw'⟩,rfl⟩);unfold WQ at h1;refine wp_region_quiet_tail (C:=fun w'=>∃ t:{ w':World // Below w.heap.size w w' },w'=t.1) n hm hB ⟨⟨w.drew,(Below.refl _ _).drew⟩,rfl⟩ ?_;have:(fun a'=>∀ w',(∃ t:{ w':World // Below w.heap.size w w' },w'=t.1)->wpList P l.toArray Q (l.drop n) a' w')=(fun a'=>∀ t:{ w':World // Below w.heap.size w w' },wpList P l.toArray Q (l.drop n) a' t.1):=by
  funext a';apply propext;exact⟨fun h t=>h _ ⟨t,rfl⟩,fun h w' ⟨t,ht⟩=>ht▸h t⟩
 rw[this];exact h1
/-- a callee's contract, met in a world of the family -/
theorem calls_family {P:Program}{f:FuncId}{args:Array Value}{T:Type}{F:T->World}{w W:World}{v:Value}(hF:Below W.heap.size W w) (hall:∀ w',Below W.heap.size W w'->∃ t,w'=F t)
 (h:Calls P f args w fun e w'=>e=.returned v/\Below w.heap.size w w'):Calls P f args w fun e w''=>e=.returned v/\∃ t,w''=F t :=
 h.mono fun _ _ ⟨he,hb⟩=>⟨he,hall _ (hF.trans (hb.mono hF.size))⟩
end
theorem same_calls {P:Program}{f:FuncId}{args:Array Value}{w:World}{v:Ending}(h:Calls P f args w fun e w'=>e=v/\w'=w):Calls P f args w fun e w'=>e=v/\Below w.heap.size w w':=h.mono fun _ _ ⟨a,b⟩=>⟨a,b▸Below.refl _ _⟩
theorem mx_mask (a:Nat) (ha:a<18446744073709551616):bits .and .u64 (a:Int) 4294967295=((a%4294967296:Nat):Int):=by
 have h:=bits_and_u64_nat a 4294967295 ha oz;have e:a &&& 4294967295=a%4294967296:=Nat.and_two_pow_sub_one_eq_mod a 32;rw[e]at h;exact h
theorem mx_div (a:Nat):(a:Int) / 4294967296=((a / 4294967296:Nat):Int):=oz
theorem mx_mul (a b:Nat):(a:Int)*(b:Int)=((a*b:Nat):Int):=(Int.natCast_mul a b).symm
theorem mx_add (a b:Nat):(a:Int)+(b:Int)=((a+b:Nat):Int):=(Int.natCast_add a b).symm
theorem mx_wrap (a:Nat) (ha:a<18446744073709551616):IntKind.u64.wrap (a:Int)=(a:Int):=by rw[u64_wrap];omega
theorem mx_wrapM (a:Nat):IntKind.u64.wrap (a:Int)=((a%18446744073709551616:Nat):Int):=by rw[u64_wrap];omega
theorem mul64_any (x y:Nat) (hx:x<18446744073709551616) (hy:y<18446744073709551616) (w:World) :
 Calls Tryz.prog 120 #[.int .u64 x,.int .u64 y] w fun e w'=>e=.returned (.tuple #[.int .u64 ((x*y / 18446744073709551616:Nat):Int),.int .u64 ((x*y%18446744073709551616:Nat):Int)])/\w'=w:=by
 obtain⟨bd,bt,bw,hhi⟩:=Lib.mul64_hi x y hx hy;have ba:=Lib.half_mul_le (a:=x / 4294967296) (b:=y / 4294967296) oz oz;have bb:=Lib.half_mul_le (a:=x / 4294967296) (b:=y%4294967296) oz oz;have bc:=Lib.half_mul_le (a:=x%4294967296) (b:=y / 4294967296) oz oz;have ba':x / 4294967296*(y / 4294967296)<18446744073709551616:=oz
 have bb':x / 4294967296*(y%4294967296)<18446744073709551616:=oz
 have bc':x%4294967296*(y / 4294967296)<18446744073709551616:=oz
 have bh1:x / 4294967296*(y / 4294967296)+(x / 4294967296*(y%4294967296)+x%4294967296*(y%4294967296) / 4294967296) / 4294967296<18446744073709551616:=oz
 have bh:x / 4294967296*(y / 4294967296)+(x / 4294967296*(y%4294967296)+x%4294967296*(y%4294967296) / 4294967296) / 4294967296+((x / 4294967296*(y%4294967296)+x%4294967296*(y%4294967296) / 4294967296)%4294967296+x%4294967296*(y / 4294967296)) / 4294967296<18446744073709551616:=oz
 go_enter Tryz.func120,Tryz.ntmps120;go_wp2;simp only[mx_mask x hx,mx_mask y hy,mx_div,mx_mul,mx_add,mx_wrap _ bd,mx_wrap _ bb',mx_wrap _ bt,mx_mask _ bt,mx_wrap _ bc',mx_wrap _ bw,mx_wrap _ ba',mx_wrap _ bh1,mx_wrap _ bh,mx_wrapM (x*y)];rw[hhi];go_ret2;exact⟨rfl,rfl⟩
/-- a product, and whether it is what it would be without end -/
def timesP (a b:Int):Int×Bool:=(wrap64 (a*b),decide (-9223372036854775808<=a*b)&&decide (a*b<=9223372036854775807))
theorem natAbs_sign (a b:Int):a*b=if(decide (a<0)!=decide (b<0))=true then -((a.natAbs*b.natAbs:Nat):Int)else((a.natAbs*b.natAbs:Nat):Int):=by
 have e:((a.natAbs*b.natAbs:Nat):Int)=(a.natAbs:Int)*(b.natAbs:Int):=Int.natCast_mul _ _;rw[e];by_cases h1:a<0<;>by_cases h2:b<0
 ·rw[show(a.natAbs:Int) = -a by omega,show(b.natAbs:Int) = -b by omega];simp[h1,h2,Int.neg_mul,Int.mul_neg]
 ·rw[show(a.natAbs:Int) = -a by omega,show(b.natAbs:Int)=b by omega];simp[h1,h2,Int.neg_mul,Int.mul_neg]
 ·rw[show(a.natAbs:Int)=a by omega,show(b.natAbs:Int) = -b by omega];simp[h1,h2,Int.neg_mul,Int.mul_neg]
 ·rw[show(a.natAbs:Int)=a by omega,show(b.natAbs:Int)=b by omega];simp[h1,h2,Int.neg_mul,Int.mul_neg]
theorem stimes_any (a b:Int) (w:World) (ha:In64 a) (hb:In64 b):Calls Tryz.prog 110 #[.int .i64 a,.int .i64 b] w fun e w'=>e=.returned (.tuple #[.int .i64 (timesP a b).1,.bool (timesP a b).2])/\w'=w:=by
 have HA:=qd (fun w=>sdist_any a w ha);have HB:=qd (fun w=>sdist_any b w hb);unfold In64 at ha hb;have hna:a.natAbs<18446744073709551616:=oz
 have hnb:b.natAbs<18446744073709551616:=oz
 have HM:=qd (fun w=>mul64_any a.natAbs b.natAbs hna hnb w);unfold timesP;rw[natAbs_sign a b];generalize a.natAbs*b.natAbs=p at HM ⊢;by_cases h1:(decide (a<0)!=decide (b<0))=true
 all_goals have HS:=qd h1
 ·rw[if_pos h1];go_enter Tryz.func110,Tryz.ntmps110;go_wp2_with (first|(go_at_call 121;refine(HA.out _).mono ?_;rintro e w1 ⟨rfl,rfl⟩;clear HA)|(go_at_call 121;refine(HB.out _).mono ?_;rintro e w1 ⟨rfl,rfl⟩;clear HB)|(go_at_call 120;refine(HM.out _).mono ?_;rintro e w1 ⟨rfl,rfl⟩)|fail)
  all_goals first|(exfalso;clear HM HA HB;grind)|(exfalso;clear HM;grind)|skip
  all_goals go_ret2
  all_goals refine⟨ret_ib ?_ ?_,rfl⟩
  all_goals first|(clear HM HS;unfold wrap64;omega)|(clear HM HS;rw[Bool.eq_iff_iff];simp only[Bool.and_eq_true,decide_eq_true_eq,Bool.false_eq_true,false_iff];omega)
 ·rw[if_neg h1];go_enter Tryz.func110,Tryz.ntmps110;go_wp2_with (first|(go_at_call 121;refine(HA.out _).mono ?_;rintro e w1 ⟨rfl,rfl⟩;clear HA)|(go_at_call 121;refine(HB.out _).mono ?_;rintro e w1 ⟨rfl,rfl⟩;clear HB)|(go_at_call 120;refine(HM.out _).mono ?_;rintro e w1 ⟨rfl,rfl⟩)|fail)
  all_goals first|(exfalso;clear HM HA HB;grind)|(exfalso;clear HM;grind)|skip
  all_goals go_ret2
  all_goals refine⟨ret_ib ?_ ?_,rfl⟩
  all_goals first|(clear HM HS;unfold wrap64;omega)|(clear HM HS;rw[Bool.eq_iff_iff];simp only[Bool.and_eq_true,decide_eq_true_eq,Bool.false_eq_true,false_iff];omega)
def truthP (y n:Bool):PSpan:=if y then⟨1,1⟩else if n then⟨0,0⟩else⟨0,1⟩
theorem struth_any (y n:Bool) (w:World):Calls Tryz.prog 113 #[.bool y,.bool n] w fun e w'=>e=.returned (spanV (truthP y n))/\Below w.heap.size w w':=by
 unfold spanV truthP;cases y<;>cases n
 all_goals simp only[if_true,if_false,Bool.false_eq_true]
 all_goals go_enter Tryz.func113,Tryz.ntmps113
 all_goals go_wp2
 all_goals refine span_end (by rfl) (by rfl) ownbq si ?_
 all_goals exact⟨rfl,bel⟩
def leftM (b:PSpan):Int:=wrap64 (IntKind.u64.wrap (max (b.lo.natAbs:Int) (b.hi.natAbs:Int)-1))
def leftP (a b:PSpan):PSpan:=⟨if a.lo<0 then max a.lo (wrap64 (-leftM b))else 0,if 0<a.hi then min a.hi (leftM b)else 0⟩
theorem sleft_any (a b:PSpan) (w:World) (h1:In64 b.lo) (h2:In64 b.hi):Calls Tryz.prog 111 #[spanV a,spanV b] w fun e w'=>e=.returned (spanV (leftP a b))/\Below w.heap.size w w':=by
 have HA:=qd (fun w=>sdist_any b.lo w h1);have HB:=qd (fun w=>sdist_any b.hi w h2);unfold spanV leftP leftM;obtain⟨lo,hi⟩:=a;obtain⟨lo2,hi2⟩:=b;dsimp only at *;go_enter Tryz.func111,Tryz.ntmps111;go_wp2;refine wp_below_tail 9 kr kr (fun T F hF hall=>?_);simp only[TD];have hFc:=fun t=>(bcell (hF t)).1;have hFf:=fun t=>(bcell (hF t)).2;have hFs:=fun t=>(hF t).size;have hNE:Nonempty T:=(hall _ (Below.refl _ _)).elim fun t _=>⟨t⟩;repeat(refine WQ_step (fun K hK=>?_);go_simp;refine hK _ ?_;clear hK K)
 (refine WQ_step (fun K hK=>?_);go_simp;refine⟨_,fun t=>calls_family (hF t) hall (same_calls (HA.out (F t))),hK _ ?_⟩;clear hK K)
 repeat(refine WQ_step (fun K hK=>?_);go_simp;refine hK _ ?_;clear hK K)
 (refine WQ_step (fun K hK=>?_);go_simp;refine⟨_,fun t=>calls_family (hF t) hall (same_calls (HB.out (F t))),hK _ ?_⟩;clear hK K)
 repeat(refine WQ_step (fun K hK=>?_);go_simp;refine hK _ ?_;clear hK K)
 refine WQ_nil (fun t=>?_);have hft:=hF t;obtain⟨W2,hW2⟩:∃ W2,W2=F t:=⟨_,rfl⟩
 rw[<-hW2]at hft ⊢;clear hW2 hF hall hFc hFf hFs hNE;have hcf:=bcell hft;have hzf:=hft.size;have q0:=own2 (show Own W2 w.heap.size [.int .i64 lo,.int .i64 hi] by exact ownbq);have q1:=own2 (show Own W2 (w.heap.size+1) [.int .i64 lo2,.int .i64 hi2] by exact ownbq);have q2:Own W2 (w.heap.size+1+1) [.int .i64 0,.int .i64 0]:=ownbq;have q3:=own2 q2;have q4:=set2 q2;clear hcf hzf;go_wp2
 all_goals refine span_end (by rfl) (by rfl) ownbq si ?_
 all_goals refine⟨?_,bel⟩
 all_goals clear q0 q1 q2 q3 q4 HA HB hft h1 h2
 all_goals refine ret2 ?_ ?_
 all_goals grind
section
section
variable {P : Program} (w : World)
theorem run_append2 (t ty e:TypeId) (i:TypeInfo) (z:Value) (size bytes:Nat) (ht:P.underlying t=some (.slice e)) (hi:P.info? e=some i) (hz:i.zero=some z)
 (hsize:i.size=size) (hby:i.bytes=bytes) (hzs:z.cells.size=size) (hsz:0<size)
 (v:Value) (n:Nat) (xs:List Value) (hown:w.ownsRow 0 e size v n xs)
 (a:Addr) (m c:Nat) (news:List Value) (hl:news.length=m*size) (hnews:∀ j u,news[j]? = some u->w.cell? (a.add j)=some u) (h1:∀ u∈news,u.oneCell'=true)
 (h63:n+m<=maxLen) (hbytes:(n+m)*bytes<=140737488355328) :
 ∃ v' w',(Builtin.append_ #[t,t] ty #[v,.slice (some a) m c]).run P w=.ok v' w'/\w'.ownsRow 0 e size v' (n+m) (xs++news)/\w.grownBy w' v.ownBlock /\
  (v'.ownBlock=v.ownBlock\/(v'.ownBlock=some w.heap.size/\Below w.heap.size w w')):=by
 obtain⟨v',w',hr,h2,h3,_⟩:=run_append_own (P:=P) w 0 t ty e i z size bytes ht hi hz hsize hby hzs hsz v n xs hown a m c news hl hnews h1 h63 hbytes (Nat.zero_le _);refine⟨v',w',hr,h2,h3,?_⟩;subst hsize hby;have hsmall:n+m<=9223372036854775807:=by simp only[maxLen]at h63;omega
 rcases hown.2 with⟨rfl,rfl⟩|⟨g,cap,cur,rfl,hbg,hg,hnc,hcm,hcs,htake⟩
 ·have hx:xs=[]:=List.eq_nil_of_length_eq_zero (by simpa using hown.1);subst hx;by_cases hm:m=0
  ·subst hm;have hn:news=[]:=List.eq_nil_of_length_eq_zero (by simpa using hl);subst hn;left;have hr2:(Builtin.append_ #[t,t] ty #[.slice none 0 0,.slice (some a) 0 c]).run P w=.ok (.slice none 0 0) w:=by
    simp[Builtin.append_,run_underlying ht,sizeOf,typeInfo,hi,Builtin.lenOf,Builtin.firstCells,loadCells,loadCellsFrom]
   rw[hr2]at hr;cases hr;rfl
  ·right;have hr2:=run_append_nil (P:=P) w t ty e i z ht hi hz a m c news hl hnews oz oz (by have hb:=hbytes;simp only[Nat.zero_add]at hb;omega);rw[hr2]at hr;cases hr;exact⟨rfl,(Below.drew (Below.refl _ _)).alloc lr _⟩
 ·by_cases hroom:n+m<=cap
  ·left;have hfit:n*i.size+news.length<=cur.size:=by rw[hl,hcs,<-Nat.add_mul];exact Nat.mul_le_mul_right _ hroom
   have hr2:=run_append_room (P:=P) w t ty e i ht hi g n cap cur hg a m c news hl hnews h1 hroom hfit;rw[hr2]at hr;cases hr;rfl
  ·right;have holds:∀ j u,xs[j]? = some u->w.cell? ((⟨g,0,none⟩:Addr).add j)=some u:=hown.cells (g:=g) rfl;have hr2:=run_append_grow (P:=P) w t ty e i z ht hi hz ⟨g,0,none⟩ n cap xs hown.1 holds a m c news hl hnews oz oz (growslice_fits oz hbytes);rw[hr2]at hr;cases hr;exact⟨rfl,(Below.drew (Below.refl _ _)).alloc lr _⟩
theorem wp_append2 {o:Oper}{a:Act}{K:Act->World->Prop}{Q:Exit->Act->World->Prop}(s x:Operand) (t:TypeId)
 (ho:o.op=.call { callee:=.builtin .append,args:=#[s,x],argTypes:=#[t,t] })
 (e:TypeId) (i:TypeInfo) (z:Value) (size bytes:Nat) (ht:P.underlying t=some (.slice e)) (hi:P.info? e=some i) (hz:i.zero=some z)
 (hsize:i.size=size) (hby:i.bytes=bytes) (hzs:z.cells.size=size) (hsz:0<size)
 (v:Value) (n:Nat) (xs:List Value) (hs:a.eval s=v) (hown:w.ownsRow 0 e size v n xs)
 (ad:Addr) (m c:Nat) (news:List Value) (hx:a.eval x=.slice (some ad) m c) (hl:news.length=m*size) (hnews:∀ j u,news[j]? = some u->w.cell? (ad.add j)=some u) (h1:∀ u∈news,u.oneCell'=true)
 (h63:n+m<=maxLen) (hbytes:(n+m)*bytes<=140737488355328)
 (h:∀ v' w',w'.ownsRow 0 e size v' (n+m) (xs++news)->w.grownBy w' v.ownBlock->(v'.ownBlock=v.ownBlock\/(v'.ownBlock=some w.heap.size/\Below w.heap.size w w'))->K (a.put o.dst v') w'):o.wp P a w K Q:=by
 obtain⟨v',w',hr,h2,h3,h4⟩:=run_append2 (P:=P) w t o.type e i z size bytes ht hi hz hsize hby hzs hsz v n xs hown ad m c news hl hnews h1 h63 hbytes;unfold Oper.wp execOp;simp only[ho,resolve,invoke,builtin,Sem.run_bind,Sem.run_pure,Result.andThen_ok,List.map_toArray,List.map_cons,List.map_nil,hs,hx,hr];exact h v' w' h2 h3 h4
theorem wpList_append2 {ops:Array Oper}{rest:List Oper}{o:Oper}{a:Act}{Q:Exit->Act->World->Prop}(hgd:o.guard=none) (s x:Operand) (t:TypeId)
 (ho:o.op=.call { callee:=.builtin .append,args:=#[s,x],argTypes:=#[t,t] })
 (e:TypeId) (i:TypeInfo) (z:Value) (size bytes:Nat) (ht:P.underlying t=some (.slice e)) (hi:P.info? e=some i) (hz:i.zero=some z)
 (hsize:i.size=size) (hby:i.bytes=bytes) (hzs:z.cells.size=size) (hsz:0<size)
 (v:Value) (n:Nat) (xs:List Value) (hs:a.eval s=v) (hown:w.ownsRow 0 e size v n xs)
 (ad:Addr) (m c:Nat) (news:List Value) (hx:a.eval x=.slice (some ad) m c) (hl:news.length=m*size) (hnews:∀ j u,news[j]? = some u->w.cell? (ad.add j)=some u) (h1:∀ u∈news,u.oneCell'=true)
 (h63:n+m<=maxLen) (hbytes:(n+m)*bytes<=140737488355328)
 (h:∀ v' w',w'.ownsRow 0 e size v' (n+m) (xs++news)->w.grownBy w' v.ownBlock->(v'.ownBlock=v.ownBlock\/(v'.ownBlock=some w.heap.size/\Below w.heap.size w w'))->wpList P ops Q rest (a.put o.dst v') w'):wpList P ops Q (o::rest) a w :=
 wpList_plain hgd fun _ hK=>wp_append2 w s x t ho e i z size bytes ht hi hz hsize hby hzs hsz v n xs hs hown ad m c news hx hl hnews h1 h63 hbytes fun v' w' h2 h3 h4=>hK _ _ (h v' w' h2 h3 h4)
end
end
end Go.Proofs.YteebpnbdihcfmaaGreatDoor
