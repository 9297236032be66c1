/- R08; R08 -/
import Derived.Test.YteebpnbdihcfmaaGreatDoorJ05
import Derived.Test.YteebpnbdihcfmaaGreatDoorJ01
set_option linter.unusedVariables false
set_option linter.unusedSimpArgs false
set_option maxRecDepth 100000
set_option maxHeartbeats 20000000
namespace Go.Proofs.YteebpnbdihcfmaaGreatDoor
open Go.RowKit
theorem rsum_any (x n:Int) (w:World) (hx:In64 x) (hn:In64 n) (B:Bool) (hB:B=(decide (-9223372036854775808<=x+n)&&decide (x+n<=9223372036854775807))):Calls Tryz.prog 77 #[.int .i64 x,.int .i64 n] w fun e w'=>e=.returned (.tuple #[.int .i64 (if B then x+n else 0),.bool B])/\w'=w:=by
 unfold In64 at hx hn;have i0:¬n<n:=oz
 by_cases h1:0<n
 ·have w1:IntKind.i64.wrap (9223372036854775807-n)=9223372036854775807-n:=IntWalk.i64_in _ oz;by_cases h2:9223372036854775807-n<x
  ·obtain rfl:B=false:=by rw[hB];simp;omega
   clear hB;go_enter Tryz.func77,Tryz.ntmps77;go_wp2
   try rw[Exit.noGoto_ret]
   go_ret2;exact⟨rfl,rfl⟩
  ·obtain rfl:B=true:=by rw[hB];simp;omega
   clear hB;have h3:¬n<0:=oz
   have w2:IntKind.i64.wrap (x+n)=x+n:=IntWalk.i64_in _ oz;go_enter Tryz.func77,Tryz.ntmps77;go_wp2
   try rw[Exit.noGoto_ret]
   go_ret2;exact⟨rfl,rfl⟩
 ·by_cases h4:n<0
  ·have w1:IntKind.i64.wrap (-9223372036854775808-n) = -9223372036854775808-n:=IntWalk.i64_in _ oz;by_cases h2:x < -9223372036854775808-n
   ·obtain rfl:B=false:=by rw[hB];simp;omega
    clear hB;go_enter Tryz.func77,Tryz.ntmps77;go_wp2
    try rw[Exit.noGoto_ret]
    go_ret2;exact⟨rfl,rfl⟩
   ·obtain rfl:B=true:=by rw[hB];simp;omega
    clear hB;have w2:IntKind.i64.wrap (x+n)=x+n:=IntWalk.i64_in _ oz;go_enter Tryz.func77,Tryz.ntmps77;go_wp2
    try rw[Exit.noGoto_ret]
    go_ret2;exact⟨rfl,rfl⟩
  ·obtain rfl:B=true:=by rw[hB];simp;omega
   clear hB;have w2:IntKind.i64.wrap (x+n)=x+n:=IntWalk.i64_in _ oz;go_enter Tryz.func77,Tryz.ntmps77;go_wp2
   try rw[Exit.noGoto_ret]
   go_ret2;exact⟨rfl,rfl⟩
theorem rhits_any (x n words:Int) (w:World) (hx:In64 x) (hn:In64 n) (hw:words<=4096):Calls Tryz.prog 43 #[.int .i64 x,.int .i64 n,.int .i64 words] w fun e w'=>e=.returned (.bool (hitsP x n words))/\w'=w:=by
 obtain⟨B,hB⟩:∃ B,B=(decide (-9223372036854775808<=x+n)&&decide (x+n<=9223372036854775807)):=⟨_,rfl⟩
 have HS:=qd (fun w=>rsum_any x n w hx hn B hB);obtain⟨R,hR⟩:∃ R,hitsP x n words=R:=⟨_,rfl⟩
 rw[hR];unfold hitsP at hR;cases B with
 | false =>
  obtain rfl:R=false:=by
   rw[<-hR];have h:=hB.symm;simp only[Bool.and_eq_false_iff,decide_eq_false_iff_not]at h ⊢;omega
  clear hB hR;simp only[Bool.false_eq_true,if_false]at HS;go_enter Tryz.func43,Tryz.ntmps43;go_wp2_with (first|(go_at_call 77;refine(HS.out _).mono ?_;rintro e w1 ⟨rfl,rfl⟩)|fail)
  try rw[Exit.noGoto_ret]
  go_ret
  first|exact⟨rfl,rfl⟩|exact⟨by simp;omega,rfl⟩
 | true =>
  simp only[if_true]at HS;clear hB;generalize x+n=y at *;by_cases h1:0<=y
  ·by_cases h2:y<words
   ·obtain rfl:R=true:=by rw[<-hR];simp[h1,h2]
    clear hR;go_enter Tryz.func43,Tryz.ntmps43;go_wp2_with (first|(go_at_call 77;refine(HS.out _).mono ?_;rintro e w1 ⟨rfl,rfl⟩)|fail)
    try rw[Exit.noGoto_ret]
    go_ret
    first|exact⟨rfl,rfl⟩|exact⟨by simp;omega,rfl⟩
   ·obtain rfl:R=false:=by rw[<-hR];simp[h1,h2]
    clear hR;go_enter Tryz.func43,Tryz.ntmps43;go_wp2_with (first|(go_at_call 77;refine(HS.out _).mono ?_;rintro e w1 ⟨rfl,rfl⟩)|fail)
    try rw[Exit.noGoto_ret]
    go_ret
    first|exact⟨rfl,rfl⟩|exact⟨by simp;omega,rfl⟩
  ·obtain rfl:R=false:=by rw[<-hR];simp[h1]
   clear hR;go_enter Tryz.func43,Tryz.ntmps43;go_wp2_with (first|(go_at_call 77;refine(HS.out _).mono ?_;rintro e w1 ⟨rfl,rfl⟩)|fail)
   try rw[Exit.noGoto_ret]
   go_ret
   first|exact⟨rfl,rfl⟩|exact⟨by simp;omega,rfl⟩
theorem rop_any (op x y:Int) (w:World) (h3:3<=op) (h10:op<=10) (hx:In64 x) (hy:In64 y):Calls Tryz.prog 42 #[.int .i64 op,.int .i64 x,.int .i64 y] w fun e w'=>e=.returned (.tuple #[.int .i64 ((opR op x y).getD 0),.bool (opR op x y).isSome])/\w'=w:=by
 obtain⟨R,hR⟩:∃ R,opR op x y=R:=⟨_,rfl⟩
 rw[hR];rcases(show op=3\/op=4\/op=5\/op=6\/op=7\/op=8\/op=9\/op=10 by omega)with rfl|rfl|rfl|rfl|rfl|rfl|rfl|rfl
 ·obtain rfl:some (wrap64 (x+y))=R:=by simpa[opR,numV]using hR
  clear hR h3 h10;go_enter Tryz.func42,Tryz.ntmps42;go_wp2
  try rw[Exit.noGoto_ret]
  go_ret2;exact⟨rfl,rfl⟩
 ·obtain rfl:some (wrap64 (x-y))=R:=by simpa[opR,numV]using hR
  clear hR h3 h10;go_enter Tryz.func42,Tryz.ntmps42;go_wp2
  try rw[Exit.noGoto_ret]
  go_ret2;exact⟨rfl,rfl⟩
 ·obtain rfl:some (wrap64 (x*y))=R:=by simpa[opR,numV]using hR
  clear hR h3 h10;go_enter Tryz.func42,Tryz.ntmps42;go_wp2
  try rw[Exit.noGoto_ret]
  go_ret2;exact⟨rfl,rfl⟩
 ·by_cases h0:y=0
  ·subst h0;obtain rfl:none=R:=by simpa[opR,numV]using hR
   clear hR h3 h10;go_enter Tryz.func42,Tryz.ntmps42;go_wp2
   try rw[Exit.noGoto_ret]
   go_ret2;exact⟨rfl,rfl⟩
  ·obtain rfl:some (wrap64 (x.tdiv y))=R:=by simpa[opR,numV,h0]using hR
   have h1:(y==0)=false:=by simpa using h0
   clear hR h3 h10;go_enter Tryz.func42,Tryz.ntmps42;go_wp2
   try rw[Exit.noGoto_ret]
   go_ret2;exact⟨rfl,rfl⟩
 ·by_cases h0:y=0
  ·subst h0;obtain rfl:none=R:=by simpa[opR,numV]using hR
   clear hR h3 h10;go_enter Tryz.func42,Tryz.ntmps42;go_wp2
   try rw[Exit.noGoto_ret]
   go_ret2;exact⟨rfl,rfl⟩
  ·obtain rfl:some (x.tmod y)=R:=by simpa[opR,numV,h0]using hR
   have h1:(y==0)=false:=by simpa using h0
   clear hR h3 h10;go_enter Tryz.func42,Tryz.ntmps42;go_wp2
   try rw[Exit.noGoto_ret]
   go_ret2;exact⟨rfl,rfl⟩
 ·by_cases h0:x<y
  ·obtain rfl:some 1=R:=by simpa[opR,numV,h0]using hR
   clear hR h3 h10;go_enter Tryz.func42,Tryz.ntmps42;go_wp2
   try rw[Exit.noGoto_ret]
   go_ret2;exact⟨rfl,rfl⟩
  ·obtain rfl:some 0=R:=by simpa[opR,numV,h0]using hR
   clear hR h3 h10;go_enter Tryz.func42,Tryz.ntmps42;go_wp2
   try rw[Exit.noGoto_ret]
   go_ret2;exact⟨rfl,rfl⟩
 ·by_cases h0:x=y
  ·obtain rfl:some 1=R:=by simpa[opR,numV,h0]using hR
   subst h0;clear hR h3 h10;go_enter Tryz.func42,Tryz.ntmps42;go_wp2
   try rw[Exit.noGoto_ret]
   go_ret2;exact⟨rfl,rfl⟩
  ·obtain rfl:some 0=R:=by simpa[opR,numV,h0]using hR
   have h1:(x==y)=false:=by simpa using h0
   clear hR h3 h10;go_enter Tryz.func42,Tryz.ntmps42;go_wp2
   try rw[Exit.noGoto_ret]
   go_ret2;exact⟨rfl,rfl⟩
 ·by_cases h0:x=0
  ·subst h0;obtain rfl:some 1=R:=by simpa[opR,numV]using hR
   clear hR h3 h10;go_enter Tryz.func42,Tryz.ntmps42;go_wp2
   try rw[Exit.noGoto_ret]
   go_ret2;exact⟨rfl,rfl⟩
  ·obtain rfl:some 0=R:=by simpa[opR,numV,h0]using hR
   have h1:(x==0)=false:=by simpa using h0
   clear hR h3 h10;go_enter Tryz.func42,Tryz.ntmps42;go_wp2
   try rw[Exit.noGoto_ret]
   go_ret2;exact⟨rfl,rfl⟩
end Go.Proofs.YteebpnbdihcfmaaGreatDoor
