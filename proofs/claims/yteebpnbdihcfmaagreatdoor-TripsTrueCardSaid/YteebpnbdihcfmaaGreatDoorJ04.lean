/- The contracts of package code; The contracts of package code, continued; Package flow; The machine of the code, as a plain function on lists; What stays true of a run; The plain forms of package bounds; Sums of the first numbers of a row; Package bounds -/
import Derived.Test.YteebpnbdihcfmaaGreatDoorJ01
import Derived.Test.YteebpnbdihcfmaaGreatDoorJ02
import Derived.Deep.CutBlock
import Derived.Test.YteebpnbdihcfmaaGreatDoorJ03
import Derived.WalkKit
set_option linter.unusedVariables false
set_option linter.unusedSimpArgs false
set_option maxRecDepth 100000
set_option maxHeartbeats 20000000
namespace Go.Proofs.YteebpnbdihcfmaaGreatDoor
open Go.RowKit
theorem nameTo_succ (s:ByteArray) (k:Nat) (h:k<s.size) (hn:nameTo s k) (hk:(97<=(s[k].toNat:Int)/\(s[k].toNat:Int)<=122)\/(¬k=0/\48<=(s[k].toNat:Int)/\(s[k].toNat:Int)<=57)):nameTo s (k+1):=by
 intro i hi;by_cases e:i=k
 ·subst e;unfold nameAt letterB digitB;rw[getD_byte s i h];grind
 ·exact hn i oz
theorem nameTo_not (s:ByteArray) (k:Nat) (h:k<s.size) (hk:¬((97<=(s[k].toNat:Int)/\(s[k].toNat:Int)<=122)\/(¬k=0/\48<=(s[k].toNat:Int)/\(s[k].toNat:Int)<=57))):isNameB s=false:=by
 have:nameAt s k=false:=by unfold nameAt letterB digitB;rw[getD_byte s k h];grind
 unfold isNameB;have:(List.range s.size).all (nameAt s)=false:=by
  rw[List.all_eq_false];exact⟨k,List.mem_range.2 h,by rw[this];decide⟩
 simp[this]
theorem nameTo_end (s:ByteArray) (k:Nat) (h:¬k<s.size) (hk:k<=s.size) (hn:nameTo s k):(List.range s.size).all (nameAt s)=true:=by
 rw[List.all_eq_true];intro i hi;exact hn i (by simp at hi;omega)
theorem toList_len (s:ByteArray):s.toList.length=s.size:=by rw[ByteArray.toList_eq];simp
theorem name_empty (s:ByteArray) (h:s.toList=[]):isNameB s=false:=by
 have e:=toList_len s;rw[h]at e;unfold isNameB;simp at e;grind
theorem name_fin (s:ByteArray) (h:(List.range s.size).all (nameAt s)=true):isNameB s=(!s.toList.isEmpty&&decide ((s.size:Int)<=16)):=by
 have e:=toList_len s;unfold isNameB;rw[h];cases h2:s.toList<;>rw[h2]at e<;>grind
theorem isName_any (s:ByteArray) (w:World) (hs:s.size<=maxLen) :
 Calls Tryz.prog 104 #[.string s] w fun e w'=>e=.returned (.bool (isNameB s))/\w'=w:=by
 unfold maxLen at hs;go_enter Tryz.func104,Tryz.ntmps104;go_wp2
 go_loop [7] (fun i=>∃ k:Nat,k<=s.size/\i=.int .i64 k/\nameTo s k) (fun i=>s.size-(intOf i).toNat)
 case atStart=>exact⟨0,Nat.zero_le _,rfl,by intro i h;omega⟩
 case round =>
  obtain⟨k,hk,rfl,hn⟩:=hrel;have HE:=nameTo_end s k;have HS:=nameTo_succ s k;have HN:=nameTo_not s k;go_wp2
  all_goals first
   | (go_ret;go_light;refine⟨?_,rfl⟩;refine ret_bool ?_;first|(rw[HN (by assumption) (by grind)])|exact(name_empty s (by assumption)).symm|(rw[name_fin s (HE (by assumption) hk hn)]))
   | (go_round
      case rel=>go_light;exact⟨k+1,by grind,by grind,HS (by assumption) hn (by grind)⟩
      case measure=>go_light;simp[intOf];grind)
   | skip
theorem find1_any (nm s:ByteArray) (pa ca:Option Addr) (pl pc cl cc:Nat) (r wd:Int) (b o:Nat) (w:World) (hc:w.cell? ⟨b,o,none⟩=some (.string s)) (hb:b<w.heap.size) :
 Calls Tryz.prog 119 #[.agg #[.string nm,.slice pa pl pc,.int .i64 r,.int .i64 wd,.slice ca cl cc],.pointer (some ⟨b,o,none⟩)] w fun e w'=>e=.returned (.bool (nm.toList==s.toList))/\Below w.heap.size w w':=by
 go_enter Tryz.func119,Tryz.ntmps119;go_wp2;go_ret;go_light;exact⟨rfl,bel⟩
theorem index_any (B:Nat) (s:ByteArray) (fa:Option Addr) (fl fc:Nat) (fs:List PFunc) (b o:Nat) (w:World) (hB:B<=w.heap.size) (hf:FuncsAt B w fa fl fs) (hc:w.cell? ⟨b,o,none⟩=some (.string s)) (hb:b<w.heap.size) :
 Calls Tryz.prog 118 #[.slice fa fl fc,.func (.func 119) #[] #[.pointer (some ⟨b,o,none⟩)]] w fun e w'=>e=.returned (.int .i64 (findZ fs s))/\Below w.heap.size w w':=by
 obtain⟨hfl,hlen,fb,fo,hfa,H,hcs⟩:=hf;unfold maxLen at hlen;subst hfl;go_enter Tryz.func118,Tryz.ntmps118;go_wp2_with fail;go_loopw [8] (fun i wr=>∃ k:Nat,k<=fs.length/\i=.int .i64 k/\Below w.heap.size w wr/\Hid (∀ j,j<k->((fs.getD j default).name.toList==s.toList)=false)) (fun i _=>fs.length-(intOf i).toNat)
 case atStart=>exact⟨0,Nat.zero_le _,rfl,Below.refl _ _,by intro j h;omega⟩
 case round =>
  obtain⟨k,hk,rfl,hbel,hn⟩:=hrel;by_cases hlt:k<fs.length
  ·obtain⟨rfl,hfb⟩:=hfa oz;obtain⟨⟨q0,q1,q2,q3,q4⟩,_⟩:=hcs k hlt;obtain⟨hc1,_⟩:=bcell hbel;have hz:w.heap.size<=wr.heap.size:=hbel.size;have hcw:wr.cell? ⟨b,o,none⟩=some (.string s):=by rw[hc1 _ _ hb];exact hc
   have hx:=qd hcs;clear hcs;have hfw:fb<w.heap.size:=oz
   go_wp2_with (go_at_call 119;refine(find1_any _ _ _ _ _ _ _ _ _ _ _ _ _ hcw oz).mono ?_;rintro e w1 ⟨rfl,hb1⟩)
   all_goals first
    | (go_roundw
       case rel=>go_light;exact⟨k+1,oz,by go_num,bel,by grind [Hid]⟩
       case measure=>go_light;simp[intOf];omega)
    | (go_ret;go_light;exact⟨ret_int (findZ_some fs s k hlt (by grind) hn.out).symm,bel⟩)
  ·have hx:=qd hcs;clear hcs;go_wp2;go_ret;go_light;exact⟨ret_int (findZ_none fs s (fun i hi=>hn.out i oz)).symm,hbel⟩
theorem find_any (B:Nat) (v:Value) (m:PMod) (s:ByteArray) (w:World) (hB:B<=w.heap.size) (hm:ModAt B w v m) :
 Calls Tryz.prog 105 #[v,.string s] w fun e w'=>e=.returned (.int .i64 (findZ m.funcs s))/\Below w.heap.size w w':=by
 obtain⟨ta,tl,tc,fa,fl,fc,rfl,ht,hf⟩:=hm;have hmf:=@mkF Tryz.prog;go_enter Tryz.func105,Tryz.ntmps105;go_wp2_with (go_at_call 118;refine(index_any B s _ _ _ _ _ _ _ ?_ (hf.same ?_) ?_ ?_).mono ?_)
 ·exact(by first|omega|(simp<;>omega)|(simp at * <;> omega))
 ·exact samq
 ·simp
 ·simp
 ·rintro e w1 ⟨rfl,hb1⟩;go_wp2;go_ret;go_light;exact⟨rfl,bel⟩
theorem known_any (op:Int) (w:World) :
 Calls Tryz.prog 82 #[.int .i64 op] w fun e w'=>e=.returned (.bool (knownB op))/\w'=w:=by
 go_enter Tryz.func82,Tryz.ntmps82;go_wp2
 all_goals(go_ret;go_light;refine⟨ret_bool ?_,rfl⟩;unfold knownB;grind)
theorem ret_int2 {a b c d:Int}(h:(a,b)=(c,d)):Ending.returned (.tuple #[.int .i64 a,.int .i64 b])=.returned (.tuple #[.int .i64 c,.int .i64 d]):=by
 rw[Prod.mk.injEq]at h;rw[h.1,h.2]
theorem whole_any (B:Nat) (v:Value) (m:PMod) (f:Nat) (w:World) (hB:B<=w.heap.size) (hm:ModAt B w v m) (hfl:f<m.funcs.length) :
 Calls Tryz.prog 78 #[v,.int .i64 f] w fun e w'=>e=.returned (.tuple #[.int .i64 (wholeP m f).1,.int .i64 (wholeP m f).2])/\Below w.heap.size w w':=by
 have hm0:=hm;obtain⟨ta,tl,tc,fa,fl,fc,rfl,ht,hf⟩:=hm;obtain⟨hfl',hlen,fb,fo,hfa,H,hcs⟩:=hf;subst hfl';obtain⟨rfl,hfb⟩:=hfa oz;obtain⟨⟨q0,q1,q2,q3,q4⟩,hnm,⟨hpl,hpm,pb,po,hpa,hps⟩,⟨hcl,hcm,_⟩,hr,hwd⟩:=hcs f hfl;clear hcs;unfold wholeP;rw[getD_eq _ _ hfl]at *;have hbd:=findZ_bd m.funcs m.funcs[f].name;obtain⟨k,hk⟩:∃ k,k=findZ m.funcs m.funcs[f].name:=⟨_,rfl⟩
 rw[<-hk]at hbd ⊢;have Hk:=qd hk;clear hk;generalize hx:m.funcs[f]=x at *;generalize H f=hh at *;obtain⟨pa,pl,pc,ca,cl,cc⟩:=hh;dsimp only at *;unfold maxLen at hlen hnm hpm hcm;subst hpl hcl;have hfb':fb<w.heap.size:=oz
 have Hx:=qd hx;clear hx;have Hp:=qd hps;clear hps;by_cases hN:isNameB x.name=false
 ·have HX:wholeQ x k f=(8,0):=by simp[wholeQ,hN]
  have HY:=qd HX;clear HX;go_enter Tryz.func78,Tryz.ntmps78;go_wp2_with (go_at_call 104;refine(isName_any _ _ hnm).mono ?_;rintro e w1 ⟨rfl,rfl⟩)
  go_ret2;go_light;exact⟨ret_int2 HY.out.symm,bel⟩
 ·have hN1:isNameB x.name=true:=by simpa using hN
  clear hN;by_cases h1:k<f
  ·have HX:wholeQ x k f=(9,0):=by simp[wholeQ,hN1,h1]
   have HY:=qd HX;clear HX;go_enter Tryz.func78,Tryz.ntmps78;go_wp2_with (first|(go_at_call 104;refine(isName_any _ _ hnm).mono ?_;rintro e w1 ⟨rfl,rfl⟩)|(go_at_call 105;refine(find_any B _ m _ _ ?_ (hm0.same ?_)).mono ?_))
   ·exact(by first|omega|(simp<;>omega)|(simp at * <;> omega))
   ·exact samq
   rw[<-Hk.out];rintro e w1 ⟨rfl,hb1⟩;go_wp2;go_ret2;go_light;exact⟨ret_int2 HY.out.symm,bel⟩
  ·go_enter Tryz.func78,Tryz.ntmps78;go_wp2_with (first|(go_at_call 104;refine(isName_any _ _ hnm).mono ?_;rintro e w1 ⟨rfl,rfl⟩)|(go_at_call 105;refine(find_any B _ m _ _ ?_ (hm0.same ?_)).mono ?_))
   ·exact(by first|omega|(simp<;>omega)|(simp at * <;> omega))
   ·exact samq
   rw[<-Hk.out];rintro e w1 ⟨rfl,hb1⟩;obtain⟨hc1,_⟩:=bcell hb1;have hz1:w.heap.size+2<=w1.heap.size:=by have:=hb1.size;simp at this;omega
   go_wp2
   ·have HX:=wholeQ_many x k f hN1 oz oz;go_ret2;go_light;exact⟨ret_int2 HX.symm,bel⟩
   ·have hp8:¬8<x.params.length:=oz
    go_loopw [31] (fun i wr=>∃ j:Nat,j<=x.params.length/\i=.int .i64 j/\Below w1.heap.size w1 wr/\Hid (∀ i,i<j->emptyB (x.params.getD i default)=false)) (fun i _=>x.params.length-(intOf i).toNat)
    case atStart=>exact⟨0,Nat.zero_le _,rfl,Below.refl _ _,by intro j h;omega⟩
    case round =>
     obtain⟨j,hj,rfl,hbel,hn⟩:=hrel;obtain⟨hd1,_⟩:=bcell hbel;have hz2:w1.heap.size<=wr.heap.size:=hbel.size;have hz3:w.heap.size+1<w1.heap.size:=oz
     by_cases hlt:j<x.params.length
     ·obtain⟨rfl,hpb⟩:=hpa oz;obtain⟨s0,s1,_,_⟩:=Hp.out j hlt;rw[getD_eq _ _ hlt]at s0 s1;have hpb':pb<w.heap.size/\pb<w.heap.size+1/\pb<w.heap.size+1+1/\pb<w1.heap.size:=oz
      go_wp2
      all_goals first
       | (have HX:=wholeQ_empty x k f j hN1 oz oz (first_some _ _ _ hlt (by go_light;rw[getD_eq _ _ hlt];unfold emptyB;grind) hn.out)
          go_ret2;go_light;exact⟨ret_int2 HX.symm,bel⟩)
       | (go_roundw
          case rel =>
           go_light;refine⟨j+1,oz,by go_num,bel,?_⟩;intro i hi;by_cases e:i=j
           ·subst e;rw[getD_eq _ _ hlt];unfold emptyB;grind
           ·exact hn.out i oz
          case measure=>go_light;simp[intOf];omega)
       | skip
      go_ways
     ·have HX:=wholeQ_tail x k f hN1 oz oz (first_none _ _ (fun i hi=>hn.out i oz));have HY:=qd HX;clear HX;go_wp2
      all_goals first|(go_ret2;go_light;refine⟨ret_int2 ?_,bel⟩;rw[HY.out];unfold wholeTail;grind)|skip
      go_ways
/-- where an instruction leads, as raw numbers -/
def rawN (x:PIns) (at_:Int):List Int :=
 if x.op=0 then[]else if x.op=14\/x.op=18 then[x.n]else if x.op=15\/x.op=16\/x.op=17 then[at_+1,x.n]else if knownB x.op then[at_+1]else[]
def keepN (len:Int) (l:List Int) (i:Nat):Bool:=decide (0<=l.getD i 0)&&decide (l.getD i 0<len)&&(decide (i=0)||decide (l.getD i 0≠l.getD 0 0))
def nextTo (len:Int) (l:List Int) (k:Nat):List Int:=((List.range k).filter (keepN len l)).map (fun i=>l.getD i 0)
def nextP (f:PFunc) (at_:Nat):List Int:=nextTo f.code.length (rawN (f.code.getD at_ default) at_) (rawN (f.code.getD at_ default) at_).length
theorem nextTo_succ (len:Int) (l:List Int) (k:Nat):nextTo len l (k+1)=nextTo len l k++(if keepN len l k then[l.getD k 0]else[]):=by
 unfold nextTo;rw[List.range_succ,List.filter_append,List.map_append];congr 1;by_cases h:keepN len l k<;>simp[h]
theorem rawN_len (x:PIns) (a:Int):(rawN x a).length<=2:=by unfold rawN;repeat(first|split|simp)
/-- a list of numbers in memory of its own -/
def FreshI (w:World) (l:List Int) (e:Ending) (w':World):Prop:=∃ v,e=.returned v/\Below w.heap.size w w'/\w'.ownsRow 0 3 1 v l.length (Nums l)/\(∀ k,v.ownBlock=some k->w.heap.size<=k)/\(l=[]->v=.slice none 0 0)
theorem next_any (B:Nat) (hh:HF) (f:PFunc) (at_:Nat) (w:World) (hB:B<=w.heap.size) (hf:FuncOk B w hh f) (hat:at_<f.code.length):Calls Tryz.prog 46 #[FuncVal hh f,.int .i64 at_] w (FreshI w (nextP f at_)):=by
 obtain⟨pa,pl,pc,ca,cl,cc⟩:=hh;obtain⟨h1,h2,⟨hcl,hcm,cb,co,hcb,hcells⟩,h4,h5⟩:=hf;dsimp only at *;subst hcl;have hcm':f.code.length<=9223372036854775807:=hcm;obtain⟨rfl,hcB⟩:=hcb oz;have hcbl:cb<w.heap.size:=oz
 obtain⟨⟨g0,g1,g2,g3,g4⟩,ok⟩:=hcells at_ hat;clear hcells h2;unfold nextP FuncVal;have hL:=rawN_len (f.code.getD at_ default) at_;generalize hx:f.code.getD at_ default=x at *;clear hx;obtain⟨fn,fps,fregs,fwords,fcode⟩:=f;dsimp only at *;obtain⟨op,xa,xb,xc,xn⟩:=x;dsimp only at *;have i1:(at_:Int)<(fcode.length:Int):=oz
 have i2:¬(at_:Int)<0:=oz
 go_enter Tryz.func46,Tryz.ntmps46;go_upto_block 0 with(fail)
 generalize hW0:World.alloc _ _=W0;have hb0:Below w.heap.size w W0:=by rw[<-hW0];exact bel
 have OB:Own W0 w.heap.size [.string fn,.slice pa pl pc,.int .i64 fregs,.int .i64 fwords,.slice (some ⟨cb,co,none⟩) fcode.length cc]:=by rw[<-hW0];exact(Own.new _ _ _).alloc _
 have OX:Own W0 (w.heap.size+1) [.int .i64 op,.int .i64 xa,.int .i64 xb,.int .i64 xc,.int .i64 xn]:=by rw[<-hW0];exact Own.new' _ _ _ _ si
 clear hW0 g0 g1 g2 g3 g4;have x5:=own5 OX;have hz0:=hb0.size;have hwa:IntKind.i64.wrap ((at_:Int)+1)=(at_:Int)+1:=IntWalk.i64_in _ oz;have HR:rawN ⟨op,xa,xb,xc,xn⟩ at_=rawN ⟨op,xa,xb,xc,xn⟩ at_:=rfl;generalize hRL:rawN ⟨op,xa,xb,xc,xn⟩ at_=L at *;clear HR;have HRL:=qd hRL;clear hRL;go_cut [6] (fun v wx=>∃ (la:Option Addr) (lc:Nat),v=.slice la L.length lc/\Below W0.heap.size W0 wx/\(∀ k,v.ownBlock=some k->W0.heap.size<=k)/\Hid (wx.ownsRow 0 2 1 v L.length (Nums L)))
 case first =>
  go_wp2_with (first|(go_at_call 82;refine(known_any _ _).mono ?_;rintro e w1 ⟨rfl,rfl⟩)|fail)
  all_goals go_meet
  all_goals(
   have hl:=HRL.out;unfold rawN at hl;clear hL x5 hwa h1 hcb ok)
  all_goals(try simp only[beq_iff_eq,beq_eq_false_iff_ne,ne_eq]at *)
  all_goals repeat' split at hl
  all_goals first
   | (exfalso;omega)
   | (exfalso;simp_all;done)
   | (subst hl;exact⟨none,0,rfl,Below.refl _ _,by simp[Value.ownBlock],qd (World.ownsRow_nil _ _ _ _)⟩)
   | (subst hl;exact⟨_,_,rfl,bel,by intro k hk;simp[Value.ownBlock]at hk;omega,qd (World.ownsRow_lit _ _ _ (Nat.zero_le _) dc rfl)⟩)
 case rest =>
  obtain⟨la,lc,rfl,hbc,hvl,hrow⟩:=hcut;have OB2:=OB.below hbc;have b5:=own5 OB2;have hzc:=hbc.size;go_wp2;go_loopw [7,51] (fun v i wr=>∃ k:Nat,k<=L.length/\i=.int .i64 k/\Below wc.heap.size wc wr/\(∀ j,v.ownBlock=some j->wc.heap.size<=j)/\Hid (nextTo fcode.length L k=[]->v=.slice none 0 0)/\Hid (wr.ownsRow 0 3 1 v (nextTo fcode.length L k).length (Nums (nextTo fcode.length L k)))) (fun v i _=>L.length-(intOf i).toNat)
  case atStart=>exact⟨0,Nat.zero_le _,rfl,Below.refl _ _,by simp[Value.ownBlock],qd (fun _=>rfl),qd (World.ownsRow_nil _ _ _ _)⟩
  case round =>
   obtain⟨k,hk,rfl,hbr,hvb,hvn,hv⟩:=hrel;have bc:=bcell hbr;have hzr:=hbr.size;have hL63:L.length<=9223372036854775807:=oz
   by_cases hlt:k<L.length
   ·have d2:(k:Int)<(L.length:Int):=oz
    have hwk:IntKind.i64.wrap ((k:Int)+1)=(k:Int)+1:=IntWalk.i64_in _ oz;obtain⟨lg,lc',hlv,-,-,hlg⟩:=row_pos hrow.out oz;cases hlv;have hgd:∀ j,j<L.length->wr.cell? ⟨lg,j,none⟩=some (.int .i64 (L.getD j 0)):=fun j hj=>by
     rw[bc.1 lg j hlg];exact row_cell hrow.out (Nums_some (by rw[List.getD_eq_getElem?_getD,List.getElem?_eq_getElem hj];rfl))
    have l0:=hgd k hlt;have l1:=hgd 0 oz;have b6:=own5 (OB2.below hbr);clear hgd bc b5;have HT:=qd (nextTo_succ fcode.length L k);have hkd:keepN fcode.length L k=keepN fcode.length L k:=rfl;generalize hK:keepN fcode.length L k=K at *;have HKD:=qd hK;clear hK hkd;have HKF:=qd (show keepN fcode.length L k=(decide (0<=L.getD k 0)&&decide (L.getD k 0<fcode.length)&&(decide (k=0)||decide (L.getD k 0≠L.getD 0 0)))from rfl);have hNT:(nextTo fcode.length L k).length<=k:=by
     unfold nextTo;rw[List.length_map];exact Nat.le_trans (List.length_filter_le _ _) si
    have HK0:k=0->L.getD k 0=L.getD 0 0:=fun e=>by rw[e]
    have HK1:=qd HK0;clear HK0;generalize L.getD k 0=x at *;generalize L.getD 0 0=x0 at *;by_cases e1:0<=x
    ·by_cases e2:x<(fcode.length:Int)
     ·by_cases e3:k=0
      ·have hK:K=true:=by rw[<-HKD.out,HKF.out];simp[e1,e2,e3]
       have HK:=qd hK;clear hK;have hxx:=HK1.out e3;subst hxx;subst e3;go_wp2_with (first|(at_builtin;refine wpList_app rfl (.tmp 76) (.tmp 78) 50 3 1 8 (.int .i64 0) rfl Tryz.underlying50 Tryz.infoI rfl dc _ _ _ rfl (row_below bel hv.out) ⟨wr.heap.size,0,none⟩ 1 1 (Nums [x]) rfl rfl (src_own (Own.new' _ _ _ _ si)) (Nums_one _) (by unfold maxLen;omega) oz dc ?_;intro g2 cap2 w4 hb4 hc4 hg4)|fail)
       have hc5:Chg (fun j=>u7.ownBlock=some j) wr w4:=(Chg.of (by exact bel)).trans hc4;refine⟨⟨0+1,oz,si,hbr.trans (hc5.below _ hbr.size (fun j hj e=>by have:=hvb j e;omega)),?_,qd ?_,qd ?_⟩,?_⟩
       ·intro j hj;have hj':g2=j:=by simpa[Value.ownBlock]using hj
        subst hj';rcases hg4 with h|h
        ·exact hvb _ h
        ·have:=hbr.size;simp at h;omega
       ·intro e;exfalso;rw[HT.out,HK.out,if_pos rfl]at e;simp at e
       ·rw[HT.out,HK.out,if_pos rfl,List.length_append,Nums_append];exact hb4
       ·go_light;exact ml
      ·have e4:¬(k:Int)=0:=oz
       by_cases e5:x=x0
       ·have hK:K=false:=by rw[<-HKD.out,HKF.out];simp[e1,e2,e3,e5]
        have HK:=qd hK;clear hK;subst e5;go_wp2_with fail
        all_goals refine⟨⟨k+1,oz,si,hbr,hvb,qd (by rw[HT.out,HK.out];simpa using hvn.out),qd (by rw[HT.out,HK.out];simpa using hv.out)⟩,?_⟩
        all_goals(go_light;exact ml)
       ·have hbx:(x != x0)=true:=by simpa using e5
        have hbx2:(x==x0)=false:=by simpa using e5
        have hK:K=true:=by rw[<-HKD.out,HKF.out];simp[e1,e2,e3,e5]
        have HK:=qd hK;clear hK;go_wp2_with (first|(at_builtin;refine wpList_app rfl (.tmp 76) (.tmp 78) 50 3 1 8 (.int .i64 0) rfl Tryz.underlying50 Tryz.infoI rfl dc _ _ _ rfl (row_below bel hv.out) ⟨wr.heap.size,0,none⟩ 1 1 (Nums [x]) rfl rfl (src_own (Own.new' _ _ _ _ si)) (Nums_one _) (by unfold maxLen;omega) oz dc ?_;intro g2 cap2 w4 hb4 hc4 hg4)|fail)
        have hc5:Chg (fun j=>u7.ownBlock=some j) wr w4:=(Chg.of (by exact bel)).trans hc4;refine⟨⟨k+1,oz,si,hbr.trans (hc5.below _ hbr.size (fun j hj e=>by have:=hvb j e;omega)),?_,qd ?_,qd ?_⟩,?_⟩
        ·intro j hj;have hj':g2=j:=by simpa[Value.ownBlock]using hj
         subst hj';rcases hg4 with h|h
         ·exact hvb _ h
         ·have:=hbr.size;simp at h;omega
        ·intro e;exfalso;rw[HT.out,HK.out,if_pos rfl]at e;simp at e
        ·rw[HT.out,HK.out,if_pos rfl,List.length_append,Nums_append];exact hb4
        ·go_light;exact ml
     ·have hK:K=false:=by rw[<-HKD.out,HKF.out];simp[e1,e2]
      have HK:=qd hK;clear hK;go_wp2_with fail
      all_goals refine⟨⟨k+1,oz,si,hbr,hvb,qd (by rw[HT.out,HK.out];simpa using hvn.out),qd (by rw[HT.out,HK.out];simpa using hv.out)⟩,?_⟩
      all_goals(go_light;exact ml)
    ·have hK:K=false:=by rw[<-HKD.out,HKF.out];simp[e1]
     have HK:=qd hK;clear hK;go_wp2_with fail
     all_goals refine⟨⟨k+1,oz,si,hbr,hvb,qd (by rw[HT.out,HK.out];simpa using hvn.out),qd (by rw[HT.out,HK.out];simpa using hv.out)⟩,?_⟩
     all_goals(go_light;exact ml)
   ·have hkk:k=L.length:=oz
    subst hkk;have d2:¬(L.length:Int)<(L.length:Int):=oz
    go_wp2;go_ret;go_light;exact⟨_,rfl,bel,hv.out,(fun j hj=>by have:=hvb j hj;omega),hvn.out⟩
/-- what the operations of two registers make -/
def numV (op a b:Int):Int :=
 if op=3 then wrap64 (a+b)else if op=4 then wrap64 (a-b)else if op=5 then wrap64 (a*b)else if op=6 then wrap64 (a.tdiv b)else
 if op=7 then a.tmod b else if op=8 then(if a<b then 1 else 0)else(if a=b then 1 else 0)
/-- a call that has not ended -/
structure PFr where
 fn:Nat
 at_:Int
 into:Int
 regs:List Int
 words:List Int
/-- a run: the frames, the innermost apart; the words in use; the most frames and words -/
structure PSt where
 rest:List PFr
 top:PFr
 use:Int
 mf:Int
 mw:Int
instance : Inhabited PFr := ⟨⟨0, 0, 0, [], []⟩⟩
def PFr.rg (f:PFr) (i:Int):Int:=f.regs.getD i.toNat 0
def PFr.put (f:PFr) (i v:Int):PFr:={ f with regs:=f.regs.set i.toNat v }
def PFr.goto (f:PFr) (n:Int):PFr:={ f with at_:=n }
def fnAt (m:PMod) (k:Nat):PFunc:=m.funcs.getD k default
def zeros (n:Int):List Int:=List.replicate n.toNat 0
def sizeOfFn (m:PMod) (k:Nat):Int:=(fnAt m k).regs+(fnAt m k).words
def PSt.depth (s:PSt):Int:=(s.rest.length:Int)+1
def PSt.pass (s:PSt):PSt:={ s with top:=s.top.goto (s.top.at_+1) }
structure FnFine (m:PMod) (f:PFunc):Prop where
 r1:1<=f.regs
 r2:f.regs<=64
 np:(f.params.length:Int)<=f.regs
 np8:f.params.length<=8
 w0:0<=f.words
 w1:f.words<=4096
 c1:1<=f.code.length
 c2:f.code.length<=1024
structure InsFine (m:PMod) (f:PFunc) (x:PIns):Prop where
 op0:0<=x.op
 op1:x.op<20
 a0:0<=x.a
 a1:x.a<f.regs
 b0:0<=x.b
 b1:x.b<f.regs
 c0:0<=x.c
 c1:x.c<f.regs
 tgt:14<=x.op->x.op<=18->0<=x.n/\x.n<f.code.length
 call:x.op=19->0<=x.n/\x.n<m.funcs.length/\x.b+(fnAt m x.n.toNat).params.length<=f.regs
/-- a module with which nothing is wrong -/
structure Fine (m:PMod):Prop where
 few:m.funcs.length<=32
 fn:∀ k,k<m.funcs.length->FnFine m (fnAt m k)
 ins:∀ k i,k<m.funcs.length->i<(fnAt m k).code.length->InsFine m (fnAt m k) ((fnAt m k).code.getD i default)
 last:∀ k i,k<m.funcs.length->i+1=(fnAt m k).code.length->((fnAt m k).code.getD i default).op=0\/((fnAt m k).code.getD i default).op=14\/((fnAt m k).code.getD i default).op=18
theorem fieldP_ok {has:Bool}{r regs:Int}(hr:1<=regs) (h:fieldP has r regs=0):0<=r/\r<regs:=by
 unfold fieldP at h;cases has<;>simp at h<;>grind
theorem insFine {m:PMod}{f:PFunc}{x:PIns}(hr:1<=f.regs) (h:instrP m f.regs f.code.length x=0):InsFine m f x:=by
 unfold instrP at h;have hk:knownB x.op=true:=by
  cases hk:knownB x.op
  ·rw[hk]at h;simp at h
  ·rfl
 rw[hk]at h;simp only[Bool.true_eq_false,if_false]at h;unfold rowP at h;have hk2:0<=x.op/\x.op<20:=by simpa[knownB]using hk
 split at h
 ·rename_i h1;exact absurd h h1
 ·rename_i h1;split at h
  ·rename_i h2;exact absurd h h2
  ·rename_i h2;split at h
   ·rename_i h3;exact absurd h h3
   ·rename_i h3;have fa:=fieldP_ok hr (Decidable.not_not.1 h1);have fb:=fieldP_ok hr (Decidable.not_not.1 h2);have fc:=fieldP_ok hr (Decidable.not_not.1 h3);refine⟨hk2.1,hk2.2,fa.1,fa.2,fb.1,fb.2,fc.1,fc.2,fun l1 l2=>?_,fun l=>?_⟩
    ·have hn:(rowAt x.op.toNat).n=2:=by
      rcases(show x.op=14\/x.op=15\/x.op=16\/x.op=17\/x.op=18 by omega)with e|e|e|e|e<;>rw[e]<;>rfl
     rw[hn]at h;unfold kindP at h
     grind
    ·have hn:(rowAt x.op.toNat).n=4:=by rw[l];rfl
     rw[hn]at h;unfold kindP paramsOf at h;unfold fnAt
     grind
theorem fine_of {m:PMod}(h:(mayP m).e=0):Fine m:=by
 unfold mayP at h;split at h
 ·simp at h
 ·split at h
  ·simp at h
  ·split at h
   ·simp at h
   ·rename_i h32;unfold mayWholes at h;split at h
    ·rename_i f hf;have:=(firstI_spec hf).2.1;simp at this;exact absurd h this
    ·rename_i hw;have hw2:=firstI_no hw;have hwh:∀ k,k<m.funcs.length->(wholeP m k).1=0:=fun k hk=>by simpa using hw2 k hk
     unfold mayFuncs at h;split at h
     ·rename_i f hf;have:=(firstI_spec hf).2.1;simp at this;exact absurd h this
     ·rename_i hb;have hb2:=firstI_no hb;have hbo:∀ k,k<m.funcs.length->(bodyP m (fnAt m k)).1=0:=fun k hk=>by unfold fnAt;simpa using hb2 k hk
      have hbody:∀ k,k<m.funcs.length->(∀ i,i<(fnAt m k).code.length->bodyI m (fnAt m k) i=0)/\(lastOp (fnAt m k)=0\/lastOp (fnAt m k)=14\/lastOp (fnAt m k)=18):=by
       intro k hk;have:=hbo k hk;unfold bodyP at this;split at this
       ·rename_i i hi;have h2:=(firstI_spec hi).2.1;simp at h2;exact absurd this h2
       ·rename_i hi;refine⟨fun i hlt=>by simpa using firstI_no hi i hlt,?_⟩;split at this
        ·assumption
        ·simp at this
      have hfn:∀ k,k<m.funcs.length->FnFine m (fnAt m k):=fun k hk=>by
       have:=wholeP_ok (hwh k hk);unfold fnAt;exact⟨this.2.2.2.1,this.2.2.2.2.1,this.2.2.2.2.2.1,this.2.2.1,this.2.2.2.2.2.2.1,this.2.2.2.2.2.2.2.1,this.2.2.2.2.2.2.2.2.1,this.2.2.2.2.2.2.2.2.2.1⟩
      refine⟨oz,hfn,fun k i hk hi=>insFine (hfn k hk).r1 ((hbody k hk).1 i hi),fun k i hk hi=>?_⟩;have:=(hbody k hk).2;unfold lastOp at this;rw[<-hi]at this;simpa using this
/-- a frame is one of the module's -/
structure FrOk (m:PMod) (f:PFr):Prop where
 fn:f.fn<m.funcs.length
 at0:0<=f.at_
 at1:f.at_<(fnAt m f.fn).code.length
 rl:(f.regs.length:Int)=(fnAt m f.fn).regs
 wl:(f.words.length:Int)=(fnAt m f.fn).words
 r64:∀ v∈f.regs,In64 v
 w64:∀ v∈f.words,In64 v
def frKey (f:PFr):Int×Nat:=(f.into,f.regs.length)
def Links (l:List (Int×Nat)):Prop:=∀ i a b,l[i]? = some a->l[i+1]? = some b->0<=b.1/\b.1<a.2
theorem Links.left {l k:List (Int×Nat)}(h:Links (l++k)):Links l:=fun i a b ha hb=>by
 have h1:=(List.getElem?_eq_some_iff.1 ha).1;have h2:=(List.getElem?_eq_some_iff.1 hb).1;exact h i a b (by rw[List.getElem?_append_left h1];exact ha) (by rw[List.getElem?_append_left h2];exact hb)
def useOf (m:PMod) (l:List PFr):Int:=(l.map fun f=>sizeOfFn m f.fn).sum
structure StOk (m:PMod) (s:PSt):Prop where
 rest:∀ f∈s.rest,FrOk m f
 top:FrOk m s.top
 links:Links ((s.rest++[s.top]).map frKey)
 use:s.use=useOf m (s.rest++[s.top])
theorem useOf_bd {m:PMod}(hm:Fine m):∀ (l:List PFr),(∀ f∈l,f.fn<m.funcs.length)->0<=useOf m l/\useOf m l<=4160*l.length
 | [],_=>by simp[useOf]
 | f::l,h=>by
  have ih:=useOf_bd hm l (fun g hg=>h g (by simp[hg]));have k:=hm.fn _ (h f si);have e:useOf m (f::l)=sizeOfFn m f.fn+useOf m l:=by simp[useOf]
  rw[e];unfold sizeOfFn;have:=k.r1;have:=k.r2;have:=k.w0;have:=k.w1;simp only[List.length_cons];omega
theorem StOk.bd {m:PMod}(hm:Fine m) {s:PSt}(h:StOk m s):0<=s.use/\s.use<=4160*s.rest.length+4160:=by
 have:=useOf_bd hm (s.rest++[s.top]) (fun f hf=>by
  rcases List.mem_append.1 hf with k|k
  ·exact(h.rest f k).fn
  ·rw[List.mem_singleton.1 k];exact h.top.fn)
 rw[h.use];simp at this;omega
theorem set64 {l:List Int}(h:∀ v∈l,In64 v) (i:Nat) {u:Int}(hu:In64 u):∀ v∈l.set i u,In64 v:=fun v hv=>by
 rcases List.mem_or_eq_of_mem_set hv with k|k
 ·exact h v k
 ·rw[k];exact hu
theorem wrap64_In (n:Int):In64 (wrap64 n):=by unfold In64 wrap64;omega
theorem StOk.keep {m:PMod}{s:PSt}(h:StOk m s) {t:PFr}(ht:FrOk m t) (hk:frKey t=frKey s.top) (hf:t.fn=s.top.fn):StOk m { s with top:=t }:=by
 refine⟨h.rest,ht,?_,?_⟩
 ·have:=h.links;simp only[List.map_append,List.map_cons,List.map_nil]at this ⊢;rw[hk];exact this
 ·have:=h.use;simp only[useOf,List.map_append,List.map_cons,List.map_nil]at this ⊢;rw[hf];exact this
theorem FrOk.put {m:PMod}{f:PFr}(h:FrOk m f) (i v:Int) (hv:In64 v):FrOk m (f.put i v) :=
 ⟨h.fn,h.at0,h.at1,by simpa[PFr.put]using h.rl,h.wl,set64 h.r64 _ hv,h.w64⟩
theorem FrOk.goto {m:PMod}{f:PFr}(h:FrOk m f) (n:Int) (h0:0<=n) (h1:n<(fnAt m f.fn).code.length):FrOk m (f.goto n):=⟨h.fn,h0,h1,h.rl,h.wl,h.r64,h.w64⟩
def SpOk (a:PSpan):Prop:=In64 a.lo/\In64 a.hi/\a.lo<=a.hi
def without0P (a:PSpan):PSpan×Bool:=(⟨if a.lo=0 then 1 else a.lo,if a.hi=0 then -1 else a.hi⟩,decide ((if a.lo=0 then 1 else a.lo)<=(if a.hi=0 then -1 else a.hi)))
def wordsHi (n many:Int):Int:=if n<0/\wrap64 (wrap64 (many-1)-n)<wrap64 (-n)/\0<many then 9223372036854775807 else wrap64 (wrap64 (many-1)-n)
def wordsP (n many:Int):PSpan×Bool:=if n = -9223372036854775808 then(⟨0,0⟩,false)else(⟨wrap64 (-n),wordsHi n many⟩,decide (wrap64 (-n)<=wordsHi n many))
def meetR (r:List PSpan) (i:Nat) (a:PSpan):List PSpan×Bool:=(r.set i (meetQ (r.getD i default) a).1,(meetQ (r.getD i default) a).2)
/-- the parameters' ranges are met, one after the other; none: one of them isn't -/
def meetsTo (r:List PSpan) (b:Nat) (ps:List PSpan):Nat->Option (List PSpan)
 | 0=>some r
 | k+1=>(meetsTo r b ps k).bind fun q=>if(meetR q (b+k) (ps.getD k default)).2 then some (meetR q (b+k) (ps.getD k default)).1 else none
def optB (x:List PSpan×Bool):Option (List PSpan):=if x.2 then some x.1 else none
def spAt (r:List PSpan) (i:Int):PSpan:=r.getD i.toNat default
def spSet (r:List PSpan) (i:Int) (a:PSpan):List PSpan:=r.set i.toNat a
def paramsAt (m:PMod) (n:Int):List PSpan:=(m.funcs.getD n.toNat default).params
def opWay (x:PIns) (r:List PSpan):Option (List PSpan) :=
 if(spanDo x.op (spAt r x.b) (spAt r x.c)).2 then some (spSet (if x.op=6\/x.op=7 then spSet r x.c (without0P (spAt r x.c)).1 else r) x.a (spanDo x.op (spAt r x.b) (spAt r x.c)).1)else none
def memWay (x:PIns) (words:Int) (r:List PSpan):Option (List PSpan) :=
 if(wordsP x.n words).2=false then none else
 if(meetR r x.b.toNat (wordsP x.n words).1).2 then some (if x.op=11 then spSet (meetR r x.b.toNat (wordsP x.n words).1).1 x.a allP else(meetR r x.b.toNat (wordsP x.n words).1).1)else none
def ifWay (x:PIns) (far one:Bool) (r:List PSpan):Option (List PSpan) :=
 if one then some r else if far=decide (x.op=16)then optB (meetR r x.a.toNat ⟨0,0⟩)else
 if(without0P (spAt r x.a)).2 then some (spSet r x.a (without0P (spAt r x.a)).1)else none
def countWay (x:PIns) (far one:Bool) (r:List PSpan):Option (List PSpan) :=
 if one then some r else if x.a=x.b then(if far then some r else none)else
 if far then(if(spAt r x.b).lo<=(spAt r x.a).hi then some (spSet r x.a ⟨max (spAt r x.a).lo (spAt r x.b).lo,(spAt r x.a).hi⟩)else none)else
 if(belowP (spAt r x.a) (spAt r x.b)).2.2 then some (spSet r x.a (belowP (spAt r x.a) (spAt r x.b)).1)else none
/-- behind an instruction, on a way; far: the way is its target's, one: its target is the next one -/
def insWay (m:PMod) (words:Int) (x:PIns) (far one:Bool) (r:List PSpan):Option (List PSpan) :=
 if x.op=1 then some (spSet r x.a ⟨x.n,x.n⟩)
 else if x.op=2 then some (spSet r x.a (spAt r x.b))
 else if 3<=x.op/\x.op<=10 then opWay x r
 else if x.op=18 then some (spSet r x.a (spanDo 3 (spAt r x.a) ⟨1,1⟩).1)
 else if x.op=11\/x.op=12 then memWay x words r
 else if x.op=13 then optB (meetR r x.a.toNat ⟨0,wrap64 (x.n-1)⟩)
 else if x.op=19 then(meetsTo r x.b.toNat (paramsAt m x.n) (paramsAt m x.n).length).map fun q=>spSet q x.a allP
 else if x.op=15\/x.op=16 then ifWay x far one r
 else if x.op=17 then countWay x far one r
 else some r
def wayP (m:PMod) (f:PFunc) (frm:Nat) (tt:Int) (r:List PSpan):Option (List PSpan) :=
 insWay m f.words (f.code.getD frm default) (decide (tt=(f.code.getD frm default).n)&&decide ((f.code.getD frm default).n≠(frm:Int)+1)) (decide ((f.code.getD frm default).n=(frm:Int)+1)) r
/-- what stands at the instructions; nothing came as yet: no spans -/
structure PBS where
 inn:List (List PSpan)
 chg:List (List Int)
 mrk:List Bool
 jn:List Int
def growB (old next:PSpan):Bool := !eqP (joinP old next) old
def jnNext (s:PBS) (tt:Nat):Int:=wrap64 (s.jn.getD tt 0+1)
def mergeOne (thr:List Int) (j:Int) (old next:PSpan):PSpan:=if 4<j then widenP old next thr else joinP old next
def chgNext (old next:List PSpan) (c:List Int):List Int:=(List.range c.length).map fun i=>if i<old.length/\growB (old.getD i default) (next.getD i default)=true then wrap64 (c.getD i 0+1)else c.getD i 0
def innNext (thr:List Int) (j:Int) (old next:List PSpan):List PSpan:=(List.range old.length).map fun i=>mergeOne thr j (old.getD i default) (next.getD i default)
def someB (old next:List PSpan):Bool:=(List.range old.length).any fun i=>growB (old.getD i default) (next.getD i default)
def mergeP (thr:List Int) (s:PBS) (tt:Nat) (next:List PSpan):PBS :=
 if s.inn.getD tt []=[]then { s with inn:=s.inn.set tt next,mrk:=s.mrk.set tt true }
 else if someB (s.inn.getD tt []) next then
  { inn:=s.inn.set tt (innNext thr (jnNext s tt) (s.inn.getD tt []) next),chg:=s.chg.set tt (chgNext (s.inn.getD tt []) next (s.chg.getD tt [])),mrk:=s.mrk.set tt true,jn:=s.jn.set tt (jnNext s tt) }
 else s
def wayS (m:PMod) (f:PFunc) (at_:Nat) (inn:List PSpan) (s:PBS) (tt:Int):PBS :=
 match wayP m f at_ tt inn with
 | some out=>mergeP m.thr s tt.toNat out
 | none=>s
def stepS (m:PMod) (f:PFunc) (s:PBS) (at_:Nat):PBS :=
 if s.mrk.getD at_ false then(nextP f at_).foldl (wayS m f at_ (s.inn.getD at_ [])) { s with mrk:=s.mrk.set at_ false } else s
def passS (m:PMod) (f:PFunc) (s:PBS):PBS:=(List.range f.code.length).foldl (stepS m f) s
def beginP (f:PFunc):List PSpan:=f.params++List.replicate (f.regs.toNat-f.params.length) ⟨0,0⟩
def startS (f:PFunc):PBS :=
 { inn:=(List.replicate f.code.length []).set 0 (beginP f),chg:=List.replicate f.code.length (List.replicate f.regs.toNat 0),mrk:=(List.replicate f.code.length false).set 0 true,jn:=List.replicate f.code.length 0 }
/-- all is gone through, again and again, until no mark is left -/
inductive RunsS (m:PMod) (f:PFunc):PBS->PBS->Prop
 | stop (s:PBS):s.mrk.contains true=false->RunsS m f s s
 | pass (s t:PBS):s.mrk.contains true=true->RunsS m f (passS m f s) t->RunsS m f s t
theorem RunsS.uniq {m:PMod}{f:PFunc}{s t u:PBS}(h:RunsS m f s t) (h2:RunsS m f s u):t=u:=by
 induction h with
 | stop s hs=>cases h2 with
  | stop _ _=>rfl
  | pass _ _ h3 _=>rw[hs]at h3;cases h3
 | pass s t hs _ ih=>cases h2 with
  | stop _ h3=>rw[hs]at h3;cases h3
  | pass _ _ _ h4=>exact ih h4
def sumN:Nat->(Nat->Nat)->Nat
 | 0,_=>0
 | n+1,f=>sumN n f+f n
theorem sumN_congr {f g:Nat->Nat}:∀ n,(∀ k,k<n->f k=g k)->sumN n f=sumN n g
 | 0,_=>rfl
 | n+1,h=>by unfold sumN;rw[sumN_congr n (fun k hk=>h k (by omega)),h n (by omega)]
theorem sumN_zero {f:Nat->Nat}:∀ n,sumN n f=0->∀ k,k<n->f k=0
 | 0,_,k,hk=>by omega
 | n+1,h,k,hk=>by
  unfold sumN at h;by_cases e:k=n
  ·subst e;omega
  ·exact sumN_zero n oz k oz
theorem sumN_of_zero {f:Nat->Nat}:∀ n,(∀ k,k<n->f k=0)->sumN n f=0
 | 0,_=>rfl
 | n+1,h=>by unfold sumN;rw[sumN_of_zero n (fun k hk=>h k (by omega)),h n (by omega)]
theorem sumN_upd {f g:Nat->Nat}{u:Nat}:∀ n,u<n->(∀ k,k≠u->f k=g k)->sumN n f+g u=sumN n g+f u
 | 0,h,_=>by omega
 | n+1,h,hk=>by
  unfold sumN;by_cases e:u=n
  ·subst e;have:=sumN_congr u (fun k hk2=>hk k oz);omega
  ·have:=sumN_upd n oz hk;have:=hk n oz;omega
theorem sumN_le {f:Nat->Nat}{m:Nat}:∀ n,(∀ k,k<n->f k<=m)->sumN n f<=n*m
 | 0,_=>by simp[sumN]
 | n+1,h=>by
  have:=sumN_le n (fun k hk=>h k oz);have:=h n oz;unfold sumN;rw[Nat.succ_mul];omega
theorem sumN_mono {f g:Nat->Nat}:∀ n,(∀ k,k<n->f k<=g k)->sumN n f<=sumN n g
 | 0,_=>Nat.le_refl _
 | n+1,h=>by
  have:=sumN_mono n (fun k hk=>h k oz);have:=h n oz;unfold sumN;omega
theorem sumN_lt {f g:Nat->Nat}{u:Nat}:∀ n,u<n->(∀ k,k<n->f k<=g k)->f u<g u->sumN n f<sumN n g
 | 0,h,_,_=>by omega
 | n+1,h,hk,hu=>by
  unfold sumN;have h2:=hk n oz;by_cases e:u=n
  ·subst e;have:=sumN_mono u (fun k hk2=>hk k oz);omega
  ·have:=sumN_lt n oz (fun k hk2=>hk k oz) hu;omega
section
theorem spok_join {a b:PSpan}(ha:SpOk a) (hb:SpOk b):SpOk (joinP a b)/\(joinP a b).lo=min a.lo b.lo/\(joinP a b).hi=max a.hi b.hi:=by
 obtain⟨a1,a2,a3⟩:=ha;obtain⟨b1,b2,b3⟩:=hb;have e:joinP a b=⟨min a.lo b.lo,max a.hi b.hi⟩:=by unfold joinP;rw[if_neg (by omega),if_neg (by omega)]
 rw[e];refine⟨⟨?_,?_,?_⟩,rfl,rfl⟩
 ·unfold In64 at *;dsimp only;omega
 ·unfold In64 at *;dsimp only;omega
 ·dsimp only;omega
theorem upTo_le (x:Int):∀ (thr:List Int) (acc:Int),acc<=x->thr.foldl (upTo x) acc<=x/\acc<=thr.foldl (upTo x) acc
 | [],acc,h=>⟨h,Int.le_refl _⟩
 | t::thr,acc,h=>by
  have h2:upTo x acc t<=x/\acc<=upTo x acc t:=by unfold upTo;split<;>omega
  have:=upTo_le x thr _ h2.1;exact⟨this.1,by rw[List.foldl_cons];omega⟩
theorem onFrom_ge (x:Int):∀ (thr:List Int) (acc:Int),x<=acc->x<=thr.foldl (onFrom x) acc/\thr.foldl (onFrom x) acc<=acc
 | [],acc,h=>⟨h,Int.le_refl _⟩
 | t::thr,acc,h=>by
  have h2:x<=onFrom x acc t/\onFrom x acc t<=acc:=by unfold onFrom;split<;>omega
  have:=onFrom_ge x thr _ h2.1;exact⟨this.1,by rw[List.foldl_cons];omega⟩
theorem spok_widen {a b:PSpan}(thr:List Int) (ha:SpOk a) (hb:SpOk b):SpOk (widenP a b thr)/\(widenP a b thr).lo<=min a.lo b.lo/\max a.hi b.hi<=(widenP a b thr).hi:=by
 obtain⟨⟨j1,j2,j3⟩,e1,e2⟩:=spok_join ha hb;obtain⟨a1,a2,a3⟩:=ha;obtain⟨b1,b2,b3⟩:=hb;have u1:=upTo_le (joinP a b).lo thr (-9223372036854775808) j1.1;have u2:=onFrom_ge (joinP a b).hi thr 9223372036854775807 j2.2;unfold widenP;dsimp only;unfold In64 at *;refine⟨⟨?_,?_,?_⟩,?_,?_⟩
 ·unfold In64;dsimp only;split<;>omega
 ·unfold In64;dsimp only;split<;>omega
 ·dsimp only;split<;>split<;>omega
 ·split<;>omega
 ·split<;>omega
theorem spok_one {a b:PSpan}(thr:List Int) (j:Int) (ha:SpOk a) (hb:SpOk b):SpOk (mergeOne thr j a b)/\(mergeOne thr j a b).lo<=min a.lo b.lo/\max a.hi b.hi<=(mergeOne thr j a b).hi:=by
 unfold mergeOne;split
 ·exact spok_widen thr ha hb
 ·have:=spok_join ha hb;exact⟨this.1,oz,oz⟩
def potS (a:PSpan):Nat:=(a.lo+9223372036854775808).toNat+(9223372036854775807-a.hi).toNat
def potL (regs:Nat) (l:List PSpan):Nat:=if l=[]then regs*36893488147419103232+1 else sumN l.length fun i=>potS (l.getD i default)
theorem potS_le {a:PSpan}(h:SpOk a):potS a<=36893488147419103232:=by
 obtain⟨h1,h2,h3⟩:=h;unfold In64 at *;unfold potS;omega
theorem potS_one {a b:PSpan}(thr:List Int) (j:Int) (ha:SpOk a) (hb:SpOk b):potS (mergeOne thr j a b)<=potS a:=by
 obtain⟨⟨h1,h2,h3⟩,h4,h5⟩:=spok_one thr j ha hb;obtain⟨a1,a2,a3⟩:=ha;unfold In64 at *;unfold potS;omega
theorem potS_grow {a b:PSpan}(thr:List Int) (j:Int) (ha:SpOk a) (hb:SpOk b) (hg:growB a b=true):potS (mergeOne thr j a b)<potS a:=by
 obtain⟨⟨h1,h2,h3⟩,h4,h5⟩:=spok_one thr j ha hb;obtain⟨_,e1,e2⟩:=spok_join ha hb;have hg2:¬((joinP a b).lo=a.lo/\(joinP a b).hi=a.hi):=fun⟨g1,g2⟩=>by
  unfold growB eqP at hg;rw[g1,g2]at hg;simp at hg
 obtain⟨a1,a2,a3⟩:=ha;obtain⟨b1,b2,b3⟩:=hb;unfold In64 at *;unfold potS;omega
def LOk (regs:Nat) (l:List PSpan):Prop:=l.length=regs/\∀ i,i<regs->SpOk (l.getD i default)
structure SOk (n regs:Nat) (s:PBS):Prop where
 li:s.inn.length=n
 lc:s.chg.length=n
 lm:s.mrk.length=n
 lj:s.jn.length=n
 inn:∀ v,v<n->s.inn.getD v []=[]\/LOk regs (s.inn.getD v [])
 chg:∀ v,v<n->(s.chg.getD v []).length=regs
def potT (n regs:Nat) (s:PBS):Nat:=2*sumN n (fun v=>potL regs (s.inn.getD v []))+sumN n fun v=>if s.mrk.getD v false then 1 else 0
theorem getD_set {α:Type}(l:List α) (i j:Nat) (a d:α) (hi:i<l.length):(l.set i a).getD j d=if j=i then a else l.getD j d:=by
 simp only[List.getD_eq_getElem?_getD];by_cases e:j=i
 ·subst e;rw[if_pos rfl,List.getElem?_set_self hi];rfl
 ·rw[if_neg e,List.getElem?_set_ne (by omega)]
theorem getD_mapR {α:Type}(n:Nat) (g:Nat->α) (i:Nat) (d:α) (hi:i<n):((List.range n).map g).getD i d=g i:=by
 simp[List.getD_eq_getElem?_getD,hi]
section
variable {n regs : Nat} {s : PBS} {tt : Nat} {next : List PSpan} {thr : List Int}
theorem innNext_ok {old:List PSpan}(j:Int) (ho:LOk regs old) (hx:LOk regs next):LOk regs (innNext thr j old next):=by
 refine⟨by simp[innNext,ho.1],fun i hi=>?_⟩;unfold innNext;rw[getD_mapR _ _ _ _ (by rw[ho.1];exact hi)];exact(spok_one thr j (ho.2 i hi) (hx.2 i hi)).1
theorem mergeP_ok (h:SOk n regs s) (hto:tt<n) (hx:LOk regs next):SOk n regs (mergeP thr s tt next):=by
 unfold mergeP;split
 ·refine⟨by simp[h.li],h.lc,by simp[h.lm],h.lj,fun v hv=>?_,h.chg⟩;dsimp only;rw[getD_set _ _ _ _ _ (by rw[h.li];exact hto)];split
  ·exact .inr hx
  ·exact h.inn v hv
 ·split
  ·rename_i h1 h2;have ho:LOk regs (s.inn.getD tt []):=(h.inn tt hto).resolve_left h1;refine⟨by simp[h.li],by simp[h.lc],by simp[h.lm],by simp[h.lj],fun v hv=>?_,fun v hv=>?_⟩
   ·dsimp only;rw[getD_set _ _ _ _ _ (by rw[h.li];exact hto)];split
    ·exact .inr (innNext_ok _ ho hx)
    ·exact h.inn v hv
   ·dsimp only;rw[getD_set _ _ _ _ _ (by rw[h.lc];exact hto)];split
    ·unfold chgNext;rw[List.length_map,List.length_range];exact h.chg tt hto
    ·exact h.chg v hv
  ·exact h
theorem potL_next {old:List PSpan}(hr:0<regs) (j:Int) (ho:LOk regs old) (hx:LOk regs next) (hs:someB old next=true):potL regs (innNext thr j old next)<potL regs old:=by
 have hl:(innNext thr j old next).length=old.length:=by simp[innNext]
 have ne1:old≠[]:=fun e=>by have:=ho.1;rw[e]at this;simp at this;omega
 have ne2:innNext thr j old next≠[]:=fun e=>by rw[e]at hl;have:=ho.1;simp at hl;omega
 unfold potL;rw[if_neg ne1,if_neg ne2,hl];unfold someB at hs;rw[List.any_eq_true]at hs;obtain⟨i,hi,hg⟩:=hs;have hi:=List.mem_range.1 hi;have he:∀ k,k<old.length->(innNext thr j old next).getD k default=mergeOne thr j (old.getD k default) (next.getD k default):=fun k hk=>by
  unfold innNext;rw[getD_mapR _ _ _ _ hk]
 refine sumN_lt (u:=i) _ hi (fun k hk=>?_) ?_
 ·rw[he k hk];exact potS_one thr j (ho.2 k (by rw[<-ho.1];exact hk)) (hx.2 k (by rw[<-ho.1];exact hk))
 ·rw[he i hi];exact potS_grow thr j (ho.2 i (by rw[<-ho.1];exact hi)) (hx.2 i (by rw[<-ho.1];exact hi)) hg
theorem potL_first (hr:0<regs) (hx:LOk regs next):potL regs next<potL regs []:=by
 have ne1:next≠[]:=fun e=>by have:=hx.1;rw[e]at this;simp at this;omega
 unfold potL;rw[if_neg ne1,if_pos rfl,hx.1];have:=sumN_le (f:=fun i=>potS (next.getD i default)) (m:=36893488147419103232) regs (fun k hk=>potS_le (hx.2 k hk));omega
theorem pot_set {inn:List (List PSpan)}{mrk:List Bool}{l:List PSpan}(li:inn.length=n) (lm:mrk.length=n) (hto:tt<n) (hl:potL regs l<potL regs (inn.getD tt [])) :
 2*sumN n (fun v=>potL regs ((inn.set tt l).getD v []))+sumN n (fun v=>if(mrk.set tt true).getD v false then 1 else 0)<2*sumN n (fun v=>potL regs (inn.getD v []))+sumN n (fun v=>if mrk.getD v false then 1 else 0):=by
 have h1:=sumN_upd (f:=fun v=>potL regs ((inn.set tt l).getD v [])) (g:=fun v=>potL regs (inn.getD v [])) n hto (fun k hk=>by rw[getD_set _ _ _ _ _ (by rw[li];exact hto),if_neg hk]);have h2:=sumN_upd (f:=fun v=>if(mrk.set tt true).getD v false then 1 else 0) (g:=fun v=>if mrk.getD v false then 1 else 0) n hto (fun k hk=>by rw[getD_set _ _ _ _ _ (by rw[lm];exact hto),if_neg hk]);rw[getD_set _ _ _ _ _ (by rw[li];exact hto),if_pos rfl]at h1;rw[getD_set _ _ _ _ _ (by rw[lm];exact hto),if_pos rfl]at h2;simp only[if_true]at h2;split at h2<;>omega
theorem mergeP_pot (hr:0<regs) (h:SOk n regs s) (hto:tt<n) (hx:LOk regs next):potT n regs (mergeP thr s tt next)<=potT n regs s:=by
 unfold mergeP;split
 ·rename_i h1;refine Nat.le_of_lt (pot_set h.li h.lm hto ?_);rw[h1];exact potL_first hr hx
 ·split
  ·rename_i h1 h2;have ho:LOk regs (s.inn.getD tt []):=(h.inn tt hto).resolve_left h1;exact Nat.le_of_lt (pot_set h.li h.lm hto (potL_next hr _ ho hx h2))
  ·exact Nat.le_refl _
end
end
end Go.Proofs.YteebpnbdihcfmaaGreatDoor
