/- Package bounds: a way makes right spans of right spans. Which instructions can be reached: the plain law of a search by a stack. Package bounds: a step of the analysis keeps what is right, and brings it nearer to its end. Package bounds: without0 and words, walked. A range over a function whose rounds all go on: my own form of the law, in which what a round keeps may depend on what has come. Regions that draw their order, in a round of a range over a function. Regions that draw their order, gone through by hand. Package bounds: rows of spans of one's own; the closure that meets. -/
import Derived.Test.YteebpnbdihcfmaaDoorJ05
import Derived.Test.YteebpnbdihcfmaaDoorJ02
import Derived.RangeFuncNested
import Derived.RangeFuncBound
import Derived.RangeFuncCalls
import Derived.RangeFuncLeaves
import Derived.OwnWalkIn
import Derived.TacticsInMore
import Derived.LoopNIn
import Derived.LoopIn
import Derived.OrdersHeld
import Derived.Deep.RegionHeld3
import Derived.OrdersIn
import Derived.Deep.RegionLawGrows
set_option linter.unusedVariables false
set_option linter.unusedSimpArgs false
set_option maxRecDepth 100000
set_option maxHeartbeats 20000000
namespace Go.Proofs.YteebpnbdihcfmaaDoor
open Go.RowKit
section
theorem i64_In (x : Int) : In64 (IntKind.i64.wrap x) := by
 unfold In64 IntKind.wrap IntKind.signed IntKind.bits; simp; omega
theorem spok_all : SpOk allP := by unfold SpOk In64 allP; simp
theorem spok_pt {n : Int} (h : In64 n) : SpOk ⟨n, n⟩ := ⟨h, h, Int.le_refl _⟩
theorem spok_hullF : ∀ (l : List Int) (acc : PSpan), SpOk acc → (∀ x ∈ l, In64 x) → SpOk (l.foldl hullF acc)
 | [], acc, h, _ => h
 | x :: l, acc, h, hl => spok_hullF l _ (by unfold hullF; exact (spok_join h (spok_pt (hl x (by simp)))).1) (fun y hy => hl y (by simp [hy]))
theorem spok_hull {l : List Int} (all : Bool) (h : ∀ x ∈ l, In64 x) (hl : l ≠ []) : SpOk (hullP l all) := by
 unfold hullP;split
 ·refine spok_hullF l _ (spok_pt ?_) h;cases l with
  | nil => exact absurd rfl hl
  | cons x l => exact h x (by simp)
 ·exact spok_all
theorem spok_truth (y n : Bool) : SpOk (truthP y n) := by cases y <;> cases n <;> (unfold SpOk In64 truthP; simp)
theorem divL_In (a b : PSpan) : ∀ x ∈ divL a b, In64 x := by
 intro x hx;unfold divL at hx;obtain ⟨d, _, hx⟩ := List.mem_flatMap.1 hx;unfold divF at hx;split at hx
 ·rcases List.mem_cons.1 hx with rfl | hx
  ·exact i64_In _
  ·have : x = IntKind.i64.wrap (a.hi.tdiv d) := by simpa using hx
   rw [this]; exact i64_In _
 ·simp at hx
theorem spok_left {a b : PSpan} (ha : SpOk a) (hb : SpOk b) (h0 : eqP b zeroP = false) : SpOk (leftP a b) := by
 obtain ⟨a1, a2, a3⟩ := ha;obtain ⟨b1, b2, b3⟩ := hb;have hz : ¬ (b.lo = 0 ∧ b.hi = 0) := fun ⟨e1, e2⟩ => by unfold eqP zeroP at h0; rw [e1, e2] at h0; simp at h0
 unfold In64 at *;have hm : 0 ≤ leftM b ∧ leftM b ≤ 9223372036854775807 := by
  unfold leftM;rw [u64_wrap];unfold wrap64; omega
 have hn : wrap64 (-leftM b) = -leftM b := by unfold wrap64; omega
 unfold leftP SpOk In64;dsimp only;rw [hn];split <;> split <;> omega
theorem spok_do {op : Int} {a b : PSpan} (ha : SpOk a) (hb : SpOk b) (h : (spanDo op a b).2 = true) : SpOk (spanDo op a b).1 := by
 unfold spanDo at *;split
 ·unfold doAdd; split
  ·exact spok_pt (wrap64_In _)
  ·refine spok_hull _ (fun x hx => ?_) (by simp);simp at hx;rcases hx with rfl | rfl <;> exact wrap64_In _
 split
 ·unfold doSub; split
  ·exact spok_pt (wrap64_In _)
  ·refine spok_hull _ (fun x hx => ?_) (by simp);simp at hx;rcases hx with rfl | rfl <;> exact wrap64_In _
 split
 ·unfold doMul; split
  ·exact spok_pt (wrap64_In _)
  ·refine spok_hull _ (fun x hx => ?_) (by simp [pairs4]);obtain ⟨p, _, rfl⟩ := List.mem_map.1 hx;exact wrap64_In _
 split
 ·split
  ·rename_i h3 h4 h5 h6 h7;simp [h3, h4, h5, h6, h7] at h
  ·rename_i h3 h4 h5 h6 h7;dsimp only;unfold dividedP; split
   ·exact spok_all
   ·refine spok_hull _ (divL_In a b) (fun e => ?_);have := divL_pos a b hb.2.2 (fun ⟨e1, e2⟩ => h7 (by unfold eqP zeroP; rw [e1, e2]; simp));rw [e] at this; simp at this
 split
 ·split
  ·rename_i h3 h4 h5 h6 h7 h8;simp [h3, h4, h5, h6, h7, h8] at h
  ·rename_i h3 h4 h5 h6 h7 h8;exact spok_left ha hb (by simpa using h8)
 split
 ·exact spok_truth _ _
 split
 ·exact spok_truth _ _
 split
 ·exact spok_truth _ _
 ·rename_i h3 h4 h5 h6 h7 h8 h9 h10;simp [h3, h4, h5, h6, h7, h8, h9, h10] at h
theorem spok_meet {a b : PSpan} (ha : SpOk a) (hb : In64 b.lo ∧ In64 b.hi) (h : (meetQ a b).2 = true) : SpOk (meetQ a b).1 := by
 obtain ⟨a1, a2, a3⟩ := ha;unfold meetQ meetP at *;dsimp only at *;split at h
 ·cases h
 ·rename_i h1;rw [if_neg h1];unfold SpOk In64 at *;dsimp only;omega
theorem spok_without {a : PSpan} (ha : SpOk a) (h : (without0P a).2 = true) : SpOk (without0P a).1 := by
 obtain ⟨a1, a2, a3⟩ := ha;unfold without0P at *;have h := of_decide_eq_true h;unfold SpOk In64 at *;dsimp only;refine ⟨?_, ?_, h⟩ <;> split <;> omega
theorem words_In (n many : Int) : In64 (wordsP n many).1.lo ∧ In64 (wordsP n many).1.hi := by
 unfold wordsP;split
 ·unfold In64; simp
 ·refine ⟨wrap64_In _, ?_⟩;dsimp only;unfold wordsHi;split
  ·unfold In64; omega
  ·exact wrap64_In _
section
variable {regs : Nat} {r : List PSpan}
theorem LOk.at (h : LOk regs r) {i : Int} (h0 : 0 ≤ i) (h1 : i < regs) : SpOk (spAt r i) := h.2 i.toNat (by omega)
theorem LOk.set (h : LOk regs r) {i : Nat} {a : PSpan} (ha : SpOk a) : LOk regs (r.set i a) := by
 refine ⟨by rw [List.length_set]; exact h.1, fun j hj => ?_⟩;by_cases hi : i < r.length
 ·rw [getD_set _ _ _ _ _ hi];split
  ·exact ha
  ·exact h.2 j hj
 ·rw [List.set_eq_of_length_le (by omega)]; exact h.2 j hj
theorem LOk.meet (h : LOk regs r) {i : Nat} {a : PSpan} (hi : i < regs) (ha : In64 a.lo ∧ In64 a.hi) (h2 : (meetR r i a).2 = true) : LOk regs (meetR r i a).1 := h.set (spok_meet (h.2 i hi) ha h2)
theorem LOk.meets (h : LOk regs r) {b : Nat} {ps : List PSpan} (hb : b + ps.length ≤ regs) (hp : ∀ i, i < ps.length → In64 (ps.getD i default).lo ∧ In64 (ps.getD i default).hi) : ∀ k, k ≤ ps.length → ∀ q, meetsTo r b ps k = some q → LOk regs q
 | 0, _, q, hq => by cases hq; exact h
 | k + 1, hk, q, hq => by
  unfold meetsTo at hq;obtain ⟨q0, h0, hq⟩ := Option.bind_eq_some_iff.1 hq;have ih := LOk.meets h hb hp k (by omega) q0 h0;split at hq
  ·rename_i h2;cases hq;exact ih.meet (by omega) (hp k (by omega)) h2
  ·cases hq
theorem way_ok {m : PMod} {f : PFunc} {x : PIns} (hm : FnFine m f) (hx : InsFine m f x) (h64 : In64 x.n) (hp : ∀ i, i < (paramsAt m x.n).length → In64 ((paramsAt m x.n).getD i default).lo ∧ In64 ((paramsAt m x.n).getD i default).hi)
 {far one : Bool} {words : Int} (h : LOk f.regs.toNat r) {out : List PSpan} (ho : insWay m words x far one r = some out) : LOk f.regs.toNat out := by
 have r1 := hm.r1;have ha : SpOk (spAt r x.a) := h.at hx.a0 (by have := hx.a1; omega);have hb : SpOk (spAt r x.b) := h.at hx.b0 (by have := hx.b1; omega);have hc : SpOk (spAt r x.c) := h.at hx.c0 (by have := hx.c1; omega);have la := hx.a0; have la1 := hx.a1; have lb := hx.b0; have lb1 := hx.b1;unfold insWay at ho;split at ho
 ·cases ho; exact h.set (spok_pt h64)
 split at ho
 ·cases ho; exact h.set hb
 split at ho
 ·unfold opWay at ho;split at ho
  ·rename_i h1 h2 h3 h4;cases ho;refine LOk.set ?_ (spok_do hb hc h4);split
   ·refine h.set (spok_without hc ?_);rename_i h5;have hz : eqP (spAt r x.c) zeroP = false := by
     rcases h5 with h5 | h5 <;> (rw [h5] at h4; unfold spanDo at h4; simp at h4; cases e : eqP (spAt r x.c) zeroP; rfl; rw [e] at h4; simp at h4)
    obtain ⟨c1, c2, c3⟩ := hc;unfold eqP zeroP at hz;simp only [Bool.and_eq_false_iff, decide_eq_false_iff_not] at hz;unfold without0P;rw [decide_eq_true_iff];split <;> split <;> omega
   ·exact h
  ·cases ho
 split at ho
 ·cases ho;exact h.set (spok_do ha (spok_pt (by unfold In64; omega)) (by unfold spanDo; simp))
 split at ho
 ·unfold memWay at ho;split at ho
  ·cases ho
  ·split at ho
   ·rename_i h5;cases ho;have := h.meet (i := x.b.toNat) (by omega) (words_In x.n words) h5;split
    ·exact this.set spok_all
    ·exact this
   ·cases ho
 split at ho
 ·unfold optB at ho;split at ho
  ·rename_i h5;cases ho;exact h.meet (by omega) ⟨by unfold In64; simp, wrap64_In _⟩ h5
  ·cases ho
 split at ho
 ·rename_i h5;obtain ⟨q, hq, e⟩ := Option.map_eq_some_iff.1 ho;subst e;have hcl := hx.call h5;refine LOk.set ?_ spok_all;refine LOk.meets h ?_ hp _ (Nat.le_refl _) q hq;have : (paramsAt m x.n).length = (fnAt m x.n.toNat).params.length := rfl;omega
 split at ho
 ·unfold ifWay at ho;split at ho
  ·cases ho; exact h
  ·split at ho
   ·unfold optB at ho;split at ho
    ·rename_i h5;cases ho;exact h.meet (by omega) (by unfold In64; simp) h5
    ·cases ho
   ·split at ho
    ·rename_i h5;cases ho;exact h.set (spok_without ha h5)
    ·cases ho
 split at ho
 ·unfold countWay at ho;split at ho
  ·cases ho; exact h
  ·split at ho
   ·split at ho
    ·cases ho; exact h
    ·cases ho
   ·split at ho
    ·split at ho
     ·rename_i h5;cases ho;refine h.set ?_;obtain ⟨a1, a2, a3⟩ := ha;obtain ⟨b1, b2, b3⟩ := hb;unfold SpOk In64 at *;dsimp only;omega
     ·cases ho
    ·split at ho
     ·rename_i h5;cases ho;refine h.set ?_;obtain ⟨a1, a2, a3⟩ := ha;obtain ⟨b1, b2, b3⟩ := hb;unfold belowP at *;split at h5
      ·cases h5
      ·rename_i h6;rw [if_neg h6];unfold SpOk In64 at *;dsimp only;omega
     ·cases ho
 ·cases ho; exact h
end
end
theorem nextTo_in (len : Int) (l : List Int) (k : Nat) : ∀ x ∈ nextTo len l k, 0 ≤ x ∧ x < len := by
 intro x hx;unfold nextTo at hx;obtain ⟨i, hi, rfl⟩ := List.mem_map.1 hx;have := (List.mem_filter.1 hi).2;unfold keepN at this;simp only [Bool.and_eq_true, decide_eq_true_eq] at this;exact this.1
theorem nextP_in (f : PFunc) (u : Nat) : ∀ x ∈ nextP f u, 0 ≤ x ∧ x < f.code.length := nextTo_in _ _ _
theorem nextP_len (f : PFunc) (u : Nat) : (nextP f u).length ≤ 2 := by
 unfold nextP nextTo;rw [List.length_map];exact Nat.le_trans (List.length_filter_le _ _) (by simpa using rawN_len _ _)
/-- what can be reached from the first instruction -/
inductive Rch (f : PFunc) : Nat → Prop
 | zero : Rch f 0
 | step (u v : Nat) : Rch f u → (v : Int) ∈ nextP f u → Rch f v
open Classical in
noncomputable def reachP (f : PFunc) : List Bool := (List.range f.code.length).map fun v => decide (Rch f v)
theorem reachP_len (f : PFunc) : (reachP f).length = f.code.length := by simp [reachP]
theorem reachP_at (f : PFunc) (v : Nat) (hv : v < f.code.length) : (reachP f)[v]? = some true ↔ Rch f v := by
 simp [reachP, hv]
theorem Rch.lt {f : PFunc} (h0 : 0 < f.code.length) {v : Nat} (h : Rch f v) : v < f.code.length := by
 cases h with
 | zero => exact h0
 | step u v _ h2 => have := nextP_in f u _ h2; omega
/-- what stands between the rounds of the search -/
structure RInv (f : PFunc) (can : List Bool) (todo : List Int) : Prop where
 len : can.length = f.code.length
 tr : ∀ x ∈ todo, ∃ v : Nat, x = v ∧ v < f.code.length ∧ Rch f v
 cr : ∀ v, can[v]? = some true → Rch f v
 cl : ∀ v, can[v]? = some true → ∀ s : Nat, (s : Int) ∈ nextP f v → can[s]? = some true ∨ (s : Int) ∈ todo
 z : can[0]? = some true ∨ (0 : Int) ∈ todo
theorem RInv.start (f : PFunc) (h : 0 < f.code.length) : RInv f (List.replicate f.code.length false) [0] :=
 ⟨by simp, fun x hx => by simp at hx; exact ⟨0, by simpa using hx, h, .zero⟩, fun v hv => by simp [List.getElem?_replicate] at hv, fun v hv => by simp [List.getElem?_replicate] at hv, .inr (by simp)⟩
theorem RInv.drop {f : PFunc} {can : List Bool} {t : List Int} {a : Nat} (h : RInv f can (t ++ [(a : Int)])) (ha : can[a]? = some true) : RInv f can t := by
 refine ⟨h.len, fun x hx => h.tr x (by simp [hx]), h.cr, fun v hv s hs => ?_, ?_⟩
 ·rcases h.cl v hv s hs with k | k
  ·exact .inl k
  ·rcases List.mem_append.1 k with k | k
   ·exact .inr k
   ·have : s = a := by simp at k; omega
    subst this; exact .inl ha
 ·rcases h.z with k | k
  ·exact .inl k
  ·rcases List.mem_append.1 k with k | k
   ·exact .inr k
   ·have : 0 = a := by simp at k; omega
    subst this; exact .inl ha
theorem RInv.mark {f : PFunc} {can : List Bool} {t : List Int} {a : Nat} (h : RInv f can (t ++ [(a : Int)])) (ha : a < f.code.length) : RInv f (can.set a true) (t ++ nextP f a) := by
 have hra : Rch f a := by
  obtain ⟨v, hv, _, hr⟩ := h.tr a (by simp);have : a = v := by omega
  subst this; exact hr
 have hset : ∀ v : Nat, (can.set a true)[v]? = some true → v = a ∨ can[v]? = some true := by
  intro v hv;by_cases e : v = a
  ·exact .inl e
  ·rw [List.getElem?_set_ne (by omega)] at hv; exact .inr hv
 have hself : (can.set a true)[a]? = some true := by rw [List.getElem?_set_self (by rw [h.len]; exact ha)]
 have hkeep : ∀ v : Nat, can[v]? = some true → (can.set a true)[v]? = some true := by
  intro v hv;by_cases e : v = a
  ·subst e; exact hself
  ·rw [List.getElem?_set_ne (by omega)]; exact hv
 refine ⟨by rw [List.length_set]; exact h.len, fun x hx => ?_, fun v hv => ?_, fun v hv s hs => ?_, ?_⟩
 ·rcases List.mem_append.1 hx with k | k
  ·exact h.tr x (by simp [k])
  ·have := nextP_in f a x k;refine ⟨x.toNat, by omega, by omega, .step a _ hra ?_⟩;rw [show ((x.toNat : Nat) : Int) = x by omega]; exact k
 ·rcases hset v hv with rfl | k
  ·exact hra
  ·exact h.cr v k
 ·rcases hset v hv with rfl | k
  ·exact .inr (by simp [hs])
  ·rcases h.cl v k s hs with k | k
   ·exact .inl (hkeep s k)
   ·rcases List.mem_append.1 k with k | k
    ·exact .inr (by simp [k])
    ·have : s = a := by simp at k; omega
     subst this; exact .inl hself
 ·rcases h.z with k | k
  ·exact .inl (hkeep 0 k)
  ·rcases List.mem_append.1 k with k | k
   ·exact .inr (by simp [k])
   ·have : 0 = a := by simp at k; omega
    subst this; exact .inl hself
theorem RInv.done {f : PFunc} {can : List Bool} (h : RInv f can []) : can = reachP f := by
 have hz : can[0]? = some true := by rcases h.z with k | k; exact k; simp at k
 have hall : ∀ v, Rch f v → can[v]? = some true := by
  intro v hv
  induction hv with
  | zero => exact hz
  | step u v _ h2 ih =>
   rcases h.cl u ih v h2 with k | k
   ·exact k
   ·simp at k
 apply List.ext_getElem?;intro v;by_cases hv : v < f.code.length
 ·have hvc : v < can.length := by rw [h.len]; exact hv
  have e1 : can[v]? = some can[v] := List.getElem?_eq_getElem (by rw [h.len]; exact hv);have e2 : (reachP f)[v]? = some ((reachP f)[v]'(by rw [reachP_len]; exact hv)) := List.getElem?_eq_getElem (by rw [reachP_len]; exact hv);rw [e1, e2];congr 1;rw [Bool.eq_iff_iff];constructor
  ·intro k;have := (reachP_at f v hv).2 (h.cr v (by rw [e1, k]));rw [e2] at this; injection this
  ·intro k;have := hall v ((reachP_at f v hv).1 (by rw [e2, k]));rw [e1] at this; injection this
 ·rw [List.getElem?_eq_none (by rw [h.len]; omega), List.getElem?_eq_none (by rw [reachP_len]; omega)]
/-- rounds still to come -/
def rLeft (can : List Bool) (todo : List Int) : Nat := 3 * can.count false + todo.length
theorem count_set {can : List Bool} {a : Nat} (h : can[a]? = some false) : (can.set a true).count false + 1 = can.count false := by
 induction can generalizing a with
 | nil => simp at h
 | cons x l ih =>
  cases a with
  | zero => simp at h; subst h; simp
  | succ a =>
   simp at h;have := ih h;rw [List.set_cons_succ, List.count_cons, List.count_cons];omega
theorem rLeft_mark {f : PFunc} {can : List Bool} {t : List Int} {a : Nat} (h : can[a]? = some false) : rLeft (can.set a true) (t ++ nextP f a) < rLeft can (t ++ [(a : Int)]) := by
 have h1 := count_set h;have h2 := nextP_len f a;unfold rLeft;simp only [List.length_append, List.length_cons, List.length_nil];omega
theorem rLeft_drop {can : List Bool} {t : List Int} {a : Int} : rLeft can t < rLeft can (t ++ [a]) := by unfold rLeft; simp
theorem rLeft_len (can : List Bool) (todo : List Int) : todo.length ≤ rLeft can todo := by unfold rLeft; omega
section
section
variable {m : PMod} {f : PFunc} {n regs : Nat}
theorem ways_keep (hn : n = f.code.length) (hr : 0 < regs) (H : ∀ (a : Nat) (inn : List PSpan) (t : Int) (out : List PSpan), a < n → LOk regs inn → t ∈ nextP f a → wayP m f a t inn = some out → LOk regs out)
 {a : Nat} (ha : a < n) {inn : List PSpan} (hi : LOk regs inn) : ∀ (l : List Int) (s : PBS), (∀ t ∈ l, t ∈ nextP f a) → SOk n regs s → SOk n regs (l.foldl (wayS m f a inn) s) ∧ potT n regs (l.foldl (wayS m f a inn) s) ≤ potT n regs s
 | [], s, _, hs => ⟨hs, Nat.le_refl _⟩
 | t :: l, s, hl, hs => by
  have ht := hl t (by simp);have hb := nextP_in f a t ht;have h1 : SOk n regs (wayS m f a inn s t) ∧ potT n regs (wayS m f a inn s t) ≤ potT n regs s := by
   unfold wayS;cases hw : wayP m f a t inn with
   | none => exact ⟨hs, Nat.le_refl _⟩
   | some out =>
    have ho := H a inn t out ha hi ht hw;exact ⟨mergeP_ok hs (by omega) ho, mergeP_pot hr hs (by omega) ho⟩
  have h2 := ways_keep hn hr H ha hi l _ (fun t ht => hl t (by simp [ht])) h1.1;exact ⟨h2.1, Nat.le_trans h2.2 h1.2⟩
theorem step_keep (hn : n = f.code.length) (hr : 0 < regs) (H : ∀ (a : Nat) (inn : List PSpan) (t : Int) (out : List PSpan), a < n → LOk regs inn → t ∈ nextP f a → wayP m f a t inn = some out → LOk regs out)
 {a : Nat} (ha : a < n) {s : PBS} (hs : SOk n regs s) (hne : s.mrk.getD a false = true → s.inn.getD a [] ≠ []) : SOk n regs (stepS m f s a) ∧ potT n regs (stepS m f s a) ≤ potT n regs s ∧ (s.mrk.getD a false = true → potT n regs (stepS m f s a) < potT n regs s) := by
 unfold stepS;by_cases hm : s.mrk.getD a false = true
 ·rw [if_pos hm];have hi : LOk regs (s.inn.getD a []) := (hs.inn a ha).resolve_left (hne hm);have h0 : SOk n regs { s with mrk := s.mrk.set a false } := ⟨hs.li, hs.lc, by simp [hs.lm], hs.lj, hs.inn, hs.chg⟩
  have hp : potT n regs { s with mrk := s.mrk.set a false } < potT n regs s := by
   unfold potT;dsimp only;have h2 := sumN_upd (f := fun v => if (s.mrk.set a false).getD v false then 1 else 0) (g := fun v => if s.mrk.getD v false then 1 else 0) n ha (fun k hk => by rw [getD_set _ _ _ _ _ (by rw [hs.lm]; exact ha), if_neg hk]);rw [getD_set _ _ _ _ _ (by rw [hs.lm]; exact ha), if_pos rfl, hm] at h2;simp only [if_true] at h2;have e : (if false = true then 1 else 0 : Nat) = 0 := rfl;rw [e] at h2;omega
  have h3 := ways_keep hn hr H ha hi (nextP f a) _ (fun t ht => ht) h0;exact ⟨h3.1, by omega, fun _ => by omega⟩
 ·rw [if_neg hm];exact ⟨hs, Nat.le_refl _, fun h => absurd h hm⟩
end
end
theorem without_any (a : PSpan) (w : World) : Calls Tryd.prog 41 #[spanV a] w fun e w' => e = .returned (.tuple #[spanV (without0P a).1, .bool (without0P a).2]) ∧ Below w.heap.size w w' := by
 obtain ⟨lo, hi⟩ := a;unfold spanV without0P;dsimp only;by_cases h1 : lo = 0
 ·have q1 : (lo == 0) = true := by simpa using h1
  by_cases h2 : hi = 0
  ·subst h1; subst h2;have q3 : ¬ (1 : Int) ≤ -1 := by omega
   go_enter Tryd.func41, Tryd.ntmps41;go_upto_region 5 with (fail)
   go_region
   all_goals go_wp2
   all_goals refine flag_end (by rfl) (by rfl) (by rfl) ownbq (by simp) ?_
   all_goals exact ⟨by simp, bel⟩
  ·have q2 : (hi == 0) = false := by simpa using h2
   subst h1;rw [if_neg h2];by_cases h3 : (1 : Int) ≤ hi
   ·go_enter Tryd.func41, Tryd.ntmps41;go_upto_region 5 with (fail)
    go_region
    all_goals go_wp2
    all_goals refine flag_end (by rfl) (by rfl) (by rfl) ownbq (by simp) ?_
    all_goals exact ⟨ret_sb (by simp) rfl (by simp [h3]), bel⟩
   ·go_enter Tryd.func41, Tryd.ntmps41;go_upto_region 5 with (fail)
    go_region
    all_goals go_wp2
    all_goals refine flag_end (by rfl) (by rfl) (by rfl) ownbq (by simp) ?_
    all_goals exact ⟨ret_sb (by simp) rfl (by simp [h3]), bel⟩
 ·have q1 : (lo == 0) = false := by simpa using h1
  rw [if_neg h1];by_cases h2 : hi = 0
  ·subst h2;by_cases h3 : lo ≤ -1
   ·go_enter Tryd.func41, Tryd.ntmps41;go_upto_region 5 with (fail)
    go_region
    all_goals go_wp2
    all_goals refine flag_end (by rfl) (by rfl) (by rfl) ownbq (by simp) ?_
    all_goals exact ⟨ret_sb rfl (by simp) (by simp [h3]), bel⟩
   ·go_enter Tryd.func41, Tryd.ntmps41;go_upto_region 5 with (fail)
    go_region
    all_goals go_wp2
    all_goals refine flag_end (by rfl) (by rfl) (by rfl) ownbq (by simp) ?_
    all_goals exact ⟨ret_sb rfl (by simp) (by simp [h3]), bel⟩
  ·have q2 : (hi == 0) = false := by simpa using h2
   rw [if_neg h2];by_cases h3 : lo ≤ hi
   ·go_enter Tryd.func41, Tryd.ntmps41;go_upto_region 5 with (fail)
    go_region
    all_goals go_wp2
    all_goals refine flag_end (by rfl) (by rfl) (by rfl) ownbq (by simp) ?_
    all_goals exact ⟨ret_sb rfl rfl (by simp [h3]), bel⟩
   ·go_enter Tryd.func41, Tryd.ntmps41;go_upto_region 5 with (fail)
    go_region
    all_goals go_wp2
    all_goals refine flag_end (by rfl) (by rfl) (by rfl) ownbq (by simp) ?_
    all_goals exact ⟨ret_sb rfl rfl (by simp [h3]), bel⟩
theorem wrap64_eq (n : Int) : wrap64 n = IntKind.i64.wrap n := by
 unfold IntKind.wrap wrap64 IntKind.signed IntKind.bits;simp;omega
theorem words_any (n many : Int) (w : World) : Calls Tryd.prog 42 #[.int .i64 n, .int .i64 many] w fun e w' => e = .returned (.tuple #[spanV (wordsP n many).1, .bool (wordsP n many).2]) ∧ Below w.heap.size w w' := by
 unfold spanV wordsP;by_cases h1 : n = -9223372036854775808
 ·have q1 : (n == -9223372036854775808) = true := by simpa using h1
  rw [if_pos h1];dsimp only;go_enter Tryd.func42, Tryd.ntmps42;go_wp2
  all_goals refine flag_end (by rfl) (by rfl) (by rfl) ownbq (by simp) ?_
  all_goals exact ⟨rfl, bel⟩
 ·have q1 : (n == -9223372036854775808) = false := by simpa using h1
  rw [if_neg h1];unfold wordsHi;dsimp only;by_cases h2 : n < 0
  ·by_cases h3 : wrap64 (wrap64 (many - 1) - n) < wrap64 (-n)
   ·by_cases h4 : 0 < many
    ·rw [if_pos ⟨h2, h3, h4⟩];have h9 : wrap64 (-n) ≤ 9223372036854775807 := (wrap64_In _).2;go_enter Tryd.func42, Tryd.ntmps42;go_upto_region 6 with (fail)
     go_region
     all_goals go_wp2
     all_goals refine flag_end (by rfl) (by rfl) (by rfl) ownbq (by simp) ?_
     all_goals exact ⟨ret_sb rfl rfl (by simp [h9]), bel⟩
    ·rw [if_neg (fun h => h4 h.2.2)];have h9 : ¬ wrap64 (-n) ≤ wrap64 (wrap64 (many - 1) - n) := by omega
     go_enter Tryd.func42, Tryd.ntmps42;go_upto_region 6 with (fail)
     go_region
     all_goals go_wp2
     all_goals refine flag_end (by rfl) (by rfl) (by rfl) ownbq (by simp) ?_
     all_goals exact ⟨ret_sb rfl rfl (by simp [h9]), bel⟩
   ·rw [if_neg (fun h => h3 h.2.1)];have h9 : wrap64 (-n) ≤ wrap64 (wrap64 (many - 1) - n) := by omega
    go_enter Tryd.func42, Tryd.ntmps42;go_upto_region 6 with (fail)
    go_region
    all_goals go_wp2
    all_goals refine flag_end (by rfl) (by rfl) (by rfl) ownbq (by simp) ?_
    all_goals exact ⟨ret_sb rfl rfl (by simp [h9]), bel⟩
  ·rw [if_neg (fun h => h2 h.1)];by_cases h9 : wrap64 (-n) ≤ wrap64 (wrap64 (many - 1) - n)
   ·go_enter Tryd.func42, Tryd.ntmps42;go_upto_region 6 with (fail)
    go_region
    all_goals go_wp2
    all_goals refine flag_end (by rfl) (by rfl) (by rfl) ownbq (by simp) ?_
    all_goals exact ⟨ret_sb rfl rfl (by simp [h9]), bel⟩
   ·go_enter Tryd.func42, Tryd.ntmps42;go_upto_region 6 with (fail)
    go_region
    all_goals go_wp2
    all_goals refine flag_end (by rfl) (by rfl) (by rfl) ownbq (by simp) ?_
    all_goals exact ⟨ret_sb rfl rfl (by simp [h9]), bel⟩
theorem away_pre {B : Nat} {hh : HF} {f : PFunc} {frm : Nat} {x : PIns} {w : World} (hB : B ≤ w.heap.size) (hf : FuncOk B w hh f) (hfl : frm < f.code.length) (hn1 : f.code.length ≤ 1024) (hx : f.code.getD frm default = x) : ∃ pa pl pc cb co cc, hh = ⟨pa, pl, pc, some ⟨cb, co, none⟩, f.code.length, cc⟩ ∧ f.code.length ≤ maxLen ∧ cb < B ∧
 (w.cell? ⟨cb, co + frm * 5, none⟩ = some (.int .i64 x.op) ∧ w.cell? ⟨cb, co + frm * 5 + 1, none⟩ = some (.int .i64 x.a) ∧ w.cell? ⟨cb, co + frm * 5 + 2, none⟩ = some (.int .i64 x.b) ∧ w.cell? ⟨cb, co + frm * 5 + 3, none⟩ = some (.int .i64 x.c) ∧ w.cell? ⟨cb, co + frm * 5 + 4, none⟩ = some (.int .i64 x.n)) ∧
 cb < w.heap.size ∧ cb < w.heap.size + 1 ∧ cb < w.heap.size + 1 + 1 ∧ cb < w.heap.size + 1 + 1 + 1 ∧ (frm : Int) < (f.code.length : Int) ∧ IntKind.i64.wrap ((frm : Int) + 1) = (frm : Int) + 1 := by
 obtain ⟨pa, pl, pc, ca, cl, cc⟩ := hh;obtain ⟨h1, h2, ⟨hcl, hcm, cb, co, hcb, hcells⟩, h4, h5⟩ := hf;dsimp only at *;subst hcl;obtain ⟨rfl, hcB⟩ := hcb (by omega);obtain ⟨g, -⟩ := hcells frm hfl;rw [hx] at g;exact ⟨pa, pl, pc, cb, co, cc, rfl, hcm, hcB, g, by omega, by omega, by omega, by omega, by omega, IntWalk.i64_in _ (by omega)⟩
/-- the walk's own book-keeping: blocks from b on that hold a loop's record or deferred calls are turned -/
structure Turn (b : Nat) (W W' : World) : Prop where
 os : W'.os = W.os
 tape : W'.tape = W.tape
 output : W'.output = W.output
 size : W'.heap.size = W.heap.size
 block : ∀ k, (k < b ∨ ∀ o, W.heap[k]? = some o → o.isCells = true) → W'.heap[k]? = W.heap[k]?
theorem Turn.below {b : Nat} {W W' : World} (h : Turn b W W') : Below b W W' := ⟨h.os, h.tape, h.output, Nat.le_of_eq h.size.symm, fun k hk => h.block k (.inl hk)⟩
theorem Turn.cellsAt {b : Nat} {W W' : World} (h : Turn b W W') {k : Nat} {c : Array Value} {t : TypeId} {p : Nat × Nat} (hk : W.heap[k]? = some (.cells c t p)) : W'.heap[k]? = W.heap[k]? :=
 h.block k (.inr fun o ho => by rw [hk] at ho; cases ho; rfl)
theorem Turn.put {b : Nat} (W : World) (l : Nat) (o o' : Obj) (hl : b ≤ l) (h : W.heap[l]? = some o) (hc : o.isCells = false) : Turn b W (W.putObj l o') := by
 have hg := grownBy_putObj' W l o';have hs : (W.putObj l o').heap.size = W.heap.size := by simp [World.putObj]
 refine ⟨hg.os, hg.tape, hg.output, hs, fun k hk => ?_⟩;by_cases e : k = l
 ·subst e;rcases hk with hk | hk
  ·omega
  ·have := hk _ h; rw [hc] at this; cases this
 ·exact World.putObj_heap_other (by omega)
/-- how a round's body is left -/
def roundT (P : World → Prop) : Exit → Act → World → Prop
 | .normal, _, W => P W
 | _, _, _ => False
theorem range_law {α : Type} {n : Nat} {P : Program} {g : Operand} {ps : Array Tmp} {assign body : Code} {Q : Exit → Act → World → Prop} {a : Act} {w : World}
 (gf : Nat) (lb : Array Value) (hg : a.eval g = .func (.func gf) #[] lb) (eg : ∀ args w, (callFunc gf args).run P w = .ok (.enter gf args) w)
 (encs : α → Array Value) (hps : ∀ x, (encs x).size = ps.size)
 (I : List α → World → Prop) (hIB : ∀ pre W W', I pre W → Below W.heap.size W W' → I pre W') (hIT : ∀ pre W W', I pre W → Turn w.heap.size W W' → I pre W') (h0 : I [] w)
 (S : List α → Prop) (Ok : List α → α → Prop) (Kp : List α → α → World → World → Prop)
 (hKp : ∀ pre x W Wb W3 W', I pre W → Turn w.heap.size W Wb → Kp pre x Wb W3 → Turn w.heap.size W3 W' → (∀ k, w.heap.size ≤ k → k < w.heap.size + 2 → W'.heap[k]? = W.heap[k]?) → (∀ k, k ≠ w.heap.size + 1 → Wb.heap[k]? = W.heap[k]? ∧ W'.heap[k]? = W3.heap[k]?) → Kp pre x W W')
 (hseq : ∀ (l : Nat) (W : World) (J : List α → World → Prop), (∀ pre W, J pre W → I pre W) → (∀ pre W W', J pre W → Below W.heap.size W W' → J pre W') → Below w.heap.size w W →
   (∀ pre x W1, J pre W1 → Ok pre x → YieldAt Fence.wide (n - 1 - 1) P l (encs x) W1 fun e W' => e = .returned (.bool true) ∧ J (pre ++ [x]) W' ∧ Kp pre x W1 W') →
   J [] W → CallsIn Fence.wide (n - 1) P gf (#[.func (.yield l) #[] #[]] ++ lb) W fun e W' => (∃ v, e = .returned v) ∧ ∃ xs, S xs ∧ J xs W')
 (a₁ : α → Act)
 (hassign : ∀ (l : Nat) (x : α) (W : World) (K : Act → World → Prop), K (a₁ x) W →
   assign.wpIn (Fence.wide.inRound l) (n - 1 - 1) P (Exit.then K (fun _ _ _ => False)) { tmps := (ps.zip (encs x)).foldl (fun t (p, v) => t.setIfInBounds p v) a.tmps, defers := [] } W)
 (hbody : ∀ (l : Nat) (pre : List α) (x : α) (W : World), I pre W → Ok pre x → w.heap.size + 1 < W.heap.size →
   body.wpIn (Fence.wide.inRound l) (n - 1 - 1) P (roundT fun W' => (∀ k, w.heap.size ≤ k → k < w.heap.size + 2 → W'.heap[k]? = W.heap[k]?) ∧ Kp pre x W W' ∧ I (pre ++ [x]) W') (a₁ x) W)
 (hdone : ∀ (xs : List α) (W : World), S xs → I xs W → W.heap[w.heap.size]? = some (.deferred (some [])) → Q .normal { a with defers := { target := .collected w.heap.size, args := #[] } :: a.defers } W) :
 (Code.rangeFunc g ps assign body).wpIn Fence.wide n P Q a w := by
 refine wpIn_rangeFunc fun fn hfn => ?_;obtain ⟨rc, hrc⟩ : ∃ rc : LoopState → Option Code → Loop, rc = fun st pe => { state := st, pending := pe, fn, tmps := a.tmps, params := ps, assign, body, defers := w.heap.size } := ⟨_, rfl⟩
 obtain ⟨W1, hW1⟩ : ∃ W1, (w.alloc (.deferred (some []))).alloc (.loop (rc .ready none)) = W1 := ⟨_, rfl⟩
 have hbel : Below w.heap.size w W1 := by rw [← hW1]; exact ((Below.refl _ w).alloc (Nat.le_refl _) _).alloc (by simp) _
 have hL1 : W1.heap[w.heap.size + 1]? = some (.loop (rc .ready none)) := by
  rw [← hW1]; have := World.alloc_heap_new (w.alloc (.deferred (some []))) (.loop (rc .ready none)); rwa [World.size_alloc] at this
 have hD1 : W1.heap[w.heap.size]? = some (.deferred (some [])) := by
  rw [← hW1]; exact (Below.heap_alloc _ _ _ (by simp)).trans (World.alloc_heap_new w _)
 refine ⟨w.heap.size + 1, [{ target := .collected w.heap.size, args := #[] }], W1, { target := .fn (.func gf) lb, args := #[.func (.yield (w.heap.size + 1)) #[] #[]] }, W1, gf,
  #[.func (.yield (w.heap.size + 1)) #[] #[]] ++ lb, W1, ?_, ?_, ?_, ?_, (fun h => (by cases h)), ?_⟩
 ·rw [← hW1, hrc]; exact run_enterLoop_outer _ _ _ _ _
 ·simp only [resolve, hg]; simp [go_sem]
 ·intro f' _; trivial
 ·simp [invoke, go_sem, eg]
 ·have hlt : ∀ {W : World} {k : Nat} {o : Obj}, W.heap[k]? = some o → k < W.heap.size := fun h => (Array.getElem?_eq_some_iff.1 h).1;refine (hseq (w.heap.size + 1) W1 (fun pre W => I pre W ∧ W.heap[w.heap.size + 1]? = some (.loop (rc .ready none)) ∧ W.heap[w.heap.size]? = some (.deferred (some [])))
   (fun pre W h => h.1) (fun pre W W' h hb => ⟨hIB pre W W' h.1 hb, (hb.block _ (hlt h.2.1)).trans h.2.1, (hb.block _ (hlt h.2.2)).trans h.2.2⟩) hbel ?_ ⟨hIB _ _ _ h0 hbel, hL1, hD1⟩).mono ?_
  ·rintro pre x W ⟨hi, hl, hd⟩ hok;have hy := run_yield (P := P) (args := encs x) hl (by rw [hrc]; exact hps x);rw [hrc] at hy;refine ⟨fn, _, assign, body, hy, roundIn_of_wpIn hfn (hassign _ x W _ ⟨_, run_beginRound hl (by rw [hrc]), ?_⟩)⟩;have tb := Turn.put (b := w.heap.size) W (w.heap.size + 1) _ (.loop { rc .ready none with state := .busy }) (by omega) hl rfl;have hob : ∀ k, k ≠ w.heap.size + 1 → (W.putObj (w.heap.size + 1) (.loop { rc .ready none with state := .busy })).heap[k]? = W.heap[k]? := fun k hk => World.putObj_heap_other (by omega);have hl2 : (W.putObj (w.heap.size + 1) (.loop { rc .ready none with state := .busy })).heap[w.heap.size + 1]? = some (.loop { rc .ready none with state := .busy }) := World.putObj_heap_same (hlt hl);have hd2 := (hob w.heap.size (by omega)).trans hd;generalize W.putObj (w.heap.size + 1) (.loop { rc .ready none with state := .busy }) = Wb at *;refine wpIn_mono (hbody _ pre x Wb (hIT _ _ _ hi tb) hok (hlt hl2)) ?_;rintro e a3 W3 hp;cases e with
   | normal =>
    obtain ⟨hk, hkp, hi3⟩ := hp;have hl3 := (hk _ (by omega) (by omega)).trans hl2;have hd3 := (hk _ (by omega) (by omega)).trans hd2;have hend := run_endRound (P := P) none hl3;have te := Turn.put (b := w.heap.size) W3 (w.heap.size + 1) _ (.loop (rc .ready none)) (by omega) hl3 rfl;have hoe : ∀ k, k ≠ w.heap.size + 1 → (W3.putObj (w.heap.size + 1) (.loop (rc .ready none))).heap[k]? = W3.heap[k]? := fun k hk => World.putObj_heap_other (by omega);have hl4 : (W3.putObj (w.heap.size + 1) (.loop (rc .ready none))).heap[w.heap.size + 1]? = some (.loop (rc .ready none)) := World.putObj_heap_same (hlt hl3);refine ⟨_, _, hend, ?_⟩;have hre : ({ ({ rc .ready none with state := .busy } : Loop) with state := if (none : Option Code).isNone then .ready else .done, pending := none } : Loop) = rc .ready none := by rw [hrc]; rfl
    rw [hre];have hd4 := (hoe w.heap.size (by omega)).trans hd3;refine ⟨rfl, ⟨hIT _ _ _ hi3 te, hl4, hd4⟩, hKp pre x W Wb W3 _ hi tb hkp te (fun k h1 h2 => ?_) (fun k hk => ⟨hob k hk, hoe k hk⟩)⟩;rcases (show k = w.heap.size ∨ k = w.heap.size + 1 by omega) with rfl | rfl
    ·rw [hd4, hd]
    ·rw [hl4, hl]
   | ret => exact hp.elim
   | exit id => exact hp.elim
   | goto t => exact hp.elim
   | panic ch => exact hp.elim
   | outgrown => exact hp.elim
  ·rintro e W2 ⟨⟨v, rfl⟩, xs, hS, hi, hl, hd⟩;subst hrc;have hend := run_endLoop (P := P) hl (by simp);refine ⟨none, _, hend, ?_⟩;exact hdone xs _ hS (hIT _ _ _ hi (Turn.put W2 (w.heap.size + 1) _ _ (by omega) hl rfl)) ((World.putObj_heap_other (by omega)).trans hd)
section
def noDefer (ops : Array Oper) : Bool := ops.toList.all fun o => match o.op with | .defer _ => false | _ => true
theorem noDefer_spec {ops : Array Oper} (h : noDefer ops = true) (i : Nat) (o : Oper) (hi : ops[i]? = some o) (c : Call) : o.op ≠ .defer c := by
 intro e;unfold noDefer at h;rw [List.all_eq_true] at h;have := h o (List.mem_of_getElem? (i := i) (by rw [Array.getElem?_toList]; exact hi));rw [e] at this;cases this
section
variable {P : Program} {ops : Array Oper} {Q : Exit → Act → World → Prop} {l n : Nat} {md : Region.Mode}
theorem rowsIn_of {row : String} {args : Array Value} {w : World} {R : Value → World → Prop} (h : Rows P row args w R) : RowsIn (Fence.wide.inRound l) n P row args w R :=
 fun c cs _ => let ⟨v, w', r, s⟩ := h c cs; ⟨v, w', r, stepsIn_wide.2 s⟩
theorem operIn_of {o : Oper} {a : Act} {w : World} {K : Act → World → Prop} (ho : ∀ c, o.op ≠ .defer c) (h : o.wp P a w K Q) : o.wpIn (Fence.wide.inRound l) n P a w K Q := by
 refine ⟨fun f _ => trivial, ?_⟩;rw [Oper.semAt_eq _ _ _ ho];unfold Oper.wp at h;generalize (execOp a.eval o).run P w = r at *;cases r with
 | ok x w' =>
  cases x <;> simp only [Oper.upon, Oper.uponIn] at h ⊢
  case value v => exact h
  case skip => exact h
  case defer d => exact h
  case enter f args => exact ⟨fun e => (by have e' : (none : Option Nat).isSome = true := e; cases e'), (callsIn_wide.2 h : CallsIn Fence.wide _ P f args w' _)⟩
  case row row args => exact ⟨fun e => (by have e' : (none : Option Nat).isSome = true := e; cases e'), rowsIn_of h⟩
 | halt x w' => cases x <;> simp only [Oper.upon, Oper.uponIn] at h ⊢ <;> exact h
theorem opIn_of {i : Nat} {K : Act → World → Prop} {a : Act} {w : World} (ho : ∀ o, ops[i]? = some o → ∀ c, o.op ≠ .defer c) (hQ : ¬ LetsOut Q) (h : wpOp P ops Q i K a w) : wpOpIn (Fence.wide.inRound l) n P ops Q i K a w := by
 unfold wpOp at h;unfold wpOpIn;cases hi : ops[i]? with
 | none => simp only [hi] at h ⊢; exact h
 | some o =>
  simp only [hi] at h ⊢;split
  ·next hw =>
   rw [if_pos hw] at h;rcases h with h | h
   ·exact operIn_of (ho o hi) h
   ·exact absurd h.2 hQ
  ·next hw =>
   rw [if_neg hw] at h;exact ⟨fun f _ => trivial, h⟩
theorem anyIn_of (ho : ∀ (i : Nat) (o : Oper), ops[i]? = some o → ∀ c, o.op ≠ .defer c) (hQ : ¬ LetsOut Q) : ∀ (fuel : Nat) (listed : Array Bool) (a : Act) (w : World), wpAny P md ops Q fuel listed a w → wpAnyIn (Fence.wide.inRound l) n P md ops Q fuel listed a w
 | 0, _, _, _, h => h
 | fuel + 1, _, _, _, h => ⟨h.1, fun i hi => wpOpIn_mono (fun a' w' h' => anyIn_of ho hQ fuel _ a' w' h') (opIn_of (ho i) hQ (h.2 i hi))⟩
/-- a region that draws, in a round -/
def onlyN (K : Act → World → Prop) : Exit → Act → World → Prop
 | .normal, a, w => K a w
 | _, _, _ => False
theorem region_held_round (S : World → Prop) {id : Nat} {a : Act} {w : World} (hm : P.follows .mixedOrders = true) (ho : noDefer ops = true) (hS : S w.drew)
 (h : ∀ K : Act → World → Prop, Hid (∀ a w, Q .normal a w → K a w) → S w.drew → wpAnyH P .any ops (onlyN K) S ops.size (Array.replicate ops.size false) a w.drew) : (Code.region id ops true).wpIn (Fence.wide.inRound l) n P Q a w := by
 have h1 := h (fun a w => Q .normal a w) (Lib.hid fun _ _ h => h) hS;refine wpIn_mono (wpIn_region_any hm (anyIn_of (Q := onlyN fun a w => Q .normal a w) (noDefer_spec ho) (fun ⟨_, _, h⟩ => h) _ _ _ _ (wpAny_of_held _ _ _ _ h1))) ?_;intro e a w he;cases e with
 | normal => exact he
 | ret => exact he.elim
 | exit id => exact he.elim
 | goto t => exact he.elim
 | panic ch => exact he.elim
 | outgrown => exact he.elim
theorem anyH_done {ops : Array Oper} {K : Act → World → Prop} {S : World → Prop} {listed : Array Bool} {a : Act} {w : World} {fuel : Nat} (hr : Region.ready md ops listed = []) (h : K a w) : wpAnyH P md ops (onlyN K) S fuel listed a w := wpAnyH_done hr h fuel
end
/-- the ways through a piece of code meet again -/
theorem wpIn_cut {F : Fence} {n : Nat} {P : Program} {c : Code} {Q : Exit → Act → World → Prop} {a : Act} {w : World} (Pf : Nat → Nat → World → Prop)
 (h : ∃ A : Nat → Nat → Act, c.wpIn F n P (fun e a' w' => e = .normal ∧ ∃ x y, a' = A x y ∧ Pf x y w') a w ∧ ∀ x y w', Pf x y w' → Q .normal (A x y) w') : c.wpIn F n P Q a w := by
 obtain ⟨A, h1, h2⟩ := h;refine wpIn_mono h1 ?_;rintro e a' w' ⟨rfl, x, y, rfl, hp⟩;exact h2 x y w' hp
end
/-- a call of a Go function, as a step of a region that draws its order -/
theorem step_callF {P : Program} {ops : Array Oper} {o : Oper} {a : Act} {w : World} {K : Act → World → Prop} {Q : Exit → Act → World → Prop} {E : Prop} (hg : o.guard = none) (f : FuncId) (ops2 : List Operand) (ts : Array TypeId) (ho : o.op = .call { callee := .value (.func f), args := ops2.toArray, argTypes := ts })
 (hcf : ∀ args w, (callFunc f args).run P w = .ok (.enter f args) w) (vs : List Value) (hv : ops2.map a.eval = vs) (R : Value → World → Prop) (hc : Calls P f vs.toArray w fun e w' => ∃ v, e = .returned v ∧ R v w') (h : ∀ v w', R v w' → K (a.put o.dst v) w') : if Region.wanted o (yielded ops a.tmps) = true then o.wp P a w K Q else E := by
 have hw : Region.wanted o (yielded ops a.tmps) = true := by simp [Region.wanted, hg]
 rw [if_pos hw];subst hv;have hr : (execOp a.eval o).run P w = .ok (.enter f (ops2.map a.eval).toArray) w := by
  simp [execOp, ho, resolve, invoke, Deferred.ofValue, Act.eval, hcf]
 unfold Oper.wp;rw [hr, Oper.upon_enter];refine hc.mono ?_;rintro e w' ⟨v, rfl, hR⟩;exact h v w' hR
theorem region_held_plain {P : Program} {ops : Array Oper} {Q : Exit → Act → World → Prop} (S : World → Prop) {id : Nat} {a : Act} {w : World} (hm : P.follows .mixedOrders = true) (hS : S w.drew)
 (h : ∀ K : Act → World → Prop, Hid (∀ a w, Q .normal a w → K a w) → S w.drew → wpAnyH P .any ops (onlyN K) S ops.size (Array.replicate ops.size false) a w.drew) : (Code.region id ops true).wp P Q a w := by
 have h1 := h (fun a w => Q .normal a w) (Lib.hid fun _ _ h => h) hS;refine Code.wp_mono ?_ (wp_region_any hm (wpAny_of_held _ _ _ _ h1));intro e a w he;cases e with
 | normal => exact he
 | ret => exact he.elim
 | exit id => exact he.elim
 | goto t => exact he.elim
 | panic ch => exact he.elim
 | outgrown => exact he.elim
theorem size_putI (a : Act) (d : Option Tmp) (v : Value) : (a.put d v).tmps.size = a.tmps.size := by cases d <;> simp [Act.put]
theorem eval_putI (a : Act) (d j : Nat) (v : Value) (h : d < a.tmps.size) : (a.put (some d) v).eval (.tmp j) = if d = j then v else a.eval (.tmp j) := by
 by_cases e : d = j
 ·subst e;rw [if_pos rfl];simp [Act.put, Act.eval, Array.getD, h]
 ·rw [if_neg e];simp only [Act.put, Act.eval, Array.getD_eq_getD_getElem?];rw [Array.getElem?_setIfInBounds_ne e]
theorem eval_none (a : Act) (v : Value) (x : Operand) : (a.put none v).eval x = a.eval x := rfl
theorem eval_const (a : Act) (v : Value) : a.eval (.const v) = v := rfl
theorem step_val {P : Program} {ops : Array Oper} {o : Oper} {a : Act} {w : World} {K : Act → World → Prop} {Q : Exit → Act → World → Prop} {E : Prop} (hg : o.guard = none) (v : Value) (w2 : World) (hr : (execOp a.eval o).run P w = .ok (.value v) w2) (h : K (a.put o.dst v) w2) : if Region.wanted o (yielded ops a.tmps) = true then o.wp P a w K Q else E := by
 have hw : Region.wanted o (yielded ops a.tmps) = true := by simp [Region.wanted, hg]
 rw [if_pos hw];unfold Oper.wp;rw [hr];exact h
theorem step_skip {P : Program} {ops : Array Oper} {o : Oper} {a : Act} {w : World} {K : Act → World → Prop} {Q : Exit → Act → World → Prop} {E : Prop} (hg : o.guard = none) (w2 : World) (hr : (execOp a.eval o).run P w = .ok .skip w2) (h : K (a.put o.dst undef) w2) : if Region.wanted o (yielded ops a.tmps) = true then o.wp P a w K Q else E := by
 have hw : Region.wanted o (yielded ops a.tmps) = true := by simp [Region.wanted, hg]
 rw [if_pos hw];unfold Oper.wp;rw [hr];exact h
theorem readyH1 {P : Program} {ops : Array Oper} {Q : Exit → Act → World → Prop} {md : Region.Mode} {S : World → Prop} {fuel : Nat} {listed : Array Bool} {a : Act} {w : World} (i : Nat) (o : Oper) (hr : Region.ready md ops listed = [i]) (ho : ops[i]? = some o)
 (h : ∀ K' : Act → World → Prop, Shut (∀ a w, S w → (S w → wpAnyH P md ops Q S fuel (listed.setIfInBounds i true) a w) → K' a w) → if Region.wanted o (yielded ops a.tmps) = true then Oper.wp P o a w K' Q else K' (a.put o.dst undef) w) : wpAnyH P md ops Q S (fuel + 1) listed a w :=
 wpAnyH_ready hr (by simp) (AllReadyH.cons ho h AllReadyH.nil)
theorem MX.{u, v} : (∀ {α : Type u} {β : Type v} (f : α → β) (l : List α), l.toArray.map f = (l.map f).toArray) ∧ (∀ {α : Type u} {β : Type v} (f : α → β) (a : α) (l : List α), (a :: l).map f = f a :: l.map f) ∧ (∀ {α : Type u} {β : Type v} (f : α → β), ([] : List α).map f = []) :=
 ⟨fun _ _ => by simp, fun _ _ _ => rfl, fun _ => rfl⟩
theorem EX : (∀ (a : Act) (d j : Nat) (v : Value), d < a.tmps.size → (a.put (some d) v).eval (.tmp j) = if d = j then v else a.eval (.tmp j)) ∧ (∀ (a : Act) (v : Value) (x : Operand), (a.put none v).eval x = a.eval x) ∧ (∀ (a : Act) (v : Value), a.eval (.const v) = v) ∧ (∀ (a : Act) (d : Option Tmp) (v : Value), (a.put d v).tmps.size = a.tmps.size) := ⟨fun a d j v h => eval_putI a d j v h, eval_none, eval_const, size_putI⟩
theorem wtk {P : Program} {md : Region.Mode} {ops : Array Oper} {K : Act → World → Prop} {S : World → Prop} (i : Nat) {oi : Oper} {v : Value} {fuel : Nat} {listed : Array Bool} {a : Act} {w : World} (hi : ops[i]? = some oi)
 (h : wpAnyH P md ops (onlyN K) S fuel (listed.setIfInBounds i true) (a.put oi.dst v) w)
 (hx : ∀ w', S w' → (execOp a.eval oi).run P w' = .ok (.value v) w' := by intro w' hSw; have s := HSS.out w' hSw; simp only [GE, MX, EX, execOp, Ee, if_pos, if_neg, reduceIte, Nat.reduceEqDiff, Nat.reduceLT, Nat.reduceBEq]; go_simp; (try with_reducible rfl))
 (hg : Region.wanted oi (yielded ops a.tmps) = true := by rfl) (hs : Region.noSelect ops = true := by kernel_rfl) (hf : Region.free md ops listed i = true := by kernel_rfl) (hr : (Region.ready md ops listed).contains i = true := by kernel_rfl) (hS : S w := by assumption) : wpAnyH P md ops (onlyN K) S (fuel + 1) listed a w :=
 wpAnyH_take hi hs hf hr (fun _ _ _ h => h) (.inl ⟨hg, hx⟩) hS h
theorem wtk2 {P : Program} {md : Region.Mode} {ops : Array Oper} {K : Act → World → Prop} {S : World → Prop} (i : Nat) {oi : Oper} {v : Value} {fuel : Nat} {listed : Array Bool} {a : Act} {w : World} (hi : ops[i]? = some oi)
 (h : wpAnyH P md ops (onlyN K) S fuel (listed.setIfInBounds i true) (a.put oi.dst v) w)
 (hx : ∀ w', S w' → (execOp a.eval oi).run P w' = .ok (.value v) w' := by intro w' hSw; have s := HSS2.out w' hSw; simp only [GE, MX, EX, execOp, Ee, if_pos, if_neg, reduceIte, Nat.reduceEqDiff, Nat.reduceLT, Nat.reduceBEq]; go_simp; (try with_reducible rfl))
 (hg : Region.wanted oi (yielded ops a.tmps) = true := by rfl) (hs : Region.noSelect ops = true := by kernel_rfl) (hf : Region.free md ops listed i = true := by kernel_rfl) (hr : (Region.ready md ops listed).contains i = true := by kernel_rfl) (hS : S w := by assumption) : wpAnyH P md ops (onlyN K) S (fuel + 1) listed a w :=
 wpAnyH_take hi hs hf hr (fun _ _ _ h => h) (.inl ⟨hg, hx⟩) hS h
theorem stv {P : Program} {ops : Array Oper} {o : Oper} {a : Act} {w : World} {K : Act → World → Prop} {Q : Exit → Act → World → Prop} {E : Prop} {v : Value} {w2 : World} (h : K (a.put o.dst v) w2) (hg : o.guard = none := by rfl)
 (hr : (execOp a.eval o).run P w = .ok (.value v) w2 := by simp only [GE, MX, EX, execOp, Ee, if_pos, if_neg, reduceIte, Nat.reduceEqDiff, Nat.reduceLT, Nat.reduceBEq]; go_simp; (first | done | exact ⟨rfl, rfl⟩ | rfl)) : if Region.wanted o (yielded ops a.tmps) = true then o.wp P a w K Q else E := step_val hg v w2 hr h
theorem sts {P : Program} {ops : Array Oper} {o : Oper} {a : Act} {w : World} {K : Act → World → Prop} {Q : Exit → Act → World → Prop} {E : Prop} {w2 : World} (h : K (a.put o.dst undef) w2) (hg : o.guard = none := by rfl)
 (hr : (execOp a.eval o).run P w = .ok .skip w2 := by simp only [GE, MX, EX, execOp, Ee, if_pos, if_neg, reduceIte, Nat.reduceEqDiff, Nat.reduceLT, Nat.reduceBEq]; go_simp; (first | done | rfl)) : if Region.wanted o (yielded ops a.tmps) = true then o.wp P a w K Q else E := step_skip hg w2 hr h
theorem ee1 {p : Prop} (h : p := by rw [← hA1]; simp only [GE, MX, EX, and_self, Ee, reduceIte, Nat.reduceEqDiff, Nat.reduceLT, Nat.reduceBEq]) : p := h
theorem ee2 {p : Prop} (h : p := by rw [← hA2]; simp only [GE, MX, EX, and_self, Ee, reduceIte, Nat.reduceEqDiff, Nat.reduceLT, Nat.reduceBEq]) : p := h
theorem ee3 {p : Prop} (h : p := by rw [← hA3]; simp only [GE, MX, EX, and_self, Ee, reduceIte, Nat.reduceEqDiff, Nat.reduceLT, Nat.reduceBEq]) : p := h
theorem ee4 {p : Prop} (h : p := by rw [← hA4]; simp only [GE, MX, EX, and_self, Ee, reduceIte, Nat.reduceEqDiff, Nat.reduceLT, Nat.reduceBEq]) : p := h
theorem ee5 {p : Prop} (h : p := by rw [← hA5]; simp only [GE, MX, EX, and_self, Ee, reduceIte, Nat.reduceEqDiff, Nat.reduceLT, Nat.reduceBEq]) : p := h
theorem ee6 {p : Prop} (h : p := by rw [← hA6]; simp only [GE, MX, EX, and_self, Ee, reduceIte, Nat.reduceEqDiff, Nat.reduceLT, Nat.reduceBEq]) : p := h
theorem ee7 {p : Prop} (h : p := by rw [← hA7]; simp only [GE, MX, EX, and_self, Ee, reduceIte, Nat.reduceEqDiff, Nat.reduceLT, Nat.reduceBEq]) : p := h
theorem ee8 {p : Prop} (h : p := by rw [← hA8]; simp only [GE, MX, EX, and_self, Ee, reduceIte, Nat.reduceEqDiff, Nat.reduceLT, Nat.reduceBEq]) : p := h
theorem ee9 {p : Prop} (h : p := by rw [← hA9]; simp only [GE, MX, EX, and_self, Ee, reduceIte, Nat.reduceEqDiff, Nat.reduceLT, Nat.reduceBEq]) : p := h
section
theorem flat2 {α : Type} (f : α → List Value) (hf : ∀ a, (f a).length = 2) : ∀ (l : List α) (i c : Nat), c < 2 → (l.flatMap f)[i * 2 + c]? = (l[i]?).bind fun a => (f a)[c]?
 | [], i, c, hc => by simp
 | a :: l, 0, c, hc => by
  rw [List.flatMap_cons, List.getElem?_append_left (by rw [hf]; omega)];simp
 | a :: l, i + 1, c, hc => by
  rw [List.flatMap_cons, List.getElem?_append_right (by rw [hf]; omega), hf, show (i + 1) * 2 + c - 2 = i * 2 + c by omega, flat2 f hf l i c hc];simp
def spCell (p : PSpan) : List Value := [.int .i64 p.lo, .int .i64 p.hi]
def spCells (r : List PSpan) : List Value := r.flatMap spCell
theorem spCells_len (r : List PSpan) : (spCells r).length = r.length * 2 := by
 unfold spCells
 induction r with
 | nil => rfl
 | cons a l ih => rw [List.flatMap_cons, List.length_append, ih]; simp [spCell]; omega
theorem spCells_at (r : List PSpan) (i c : Nat) (hc : c < 2) : (spCells r)[i * 2 + c]? = (r[i]?).bind fun t => (spCell t)[c]? := flat2 spCell (fun _ => rfl) r i c hc
theorem spCells_snoc (r : List PSpan) (p : PSpan) : spCells (r ++ [p]) = spCells r ++ spCell p := by simp [spCells]
theorem spCells_append (r s : List PSpan) : spCells (r ++ s) = spCells r ++ spCells s := by simp [spCells]
theorem spCells_set (r : List PSpan) (i : Nat) (p : PSpan) (hi : i < r.length) : ((spCells r).set (i * 2) (.int .i64 p.lo)).set (i * 2 + 1) (.int .i64 p.hi) = spCells (r.set i p) := by
 apply List.ext_getElem?;intro n;have hn : n = n / 2 * 2 + n % 2 := by omega
 have hl := spCells_len r;by_cases e : n = i * 2 + 1
 ·subst e;rw [List.getElem?_set_self (by rw [List.length_set]; omega), spCells_at _ _ _ (by omega), List.getElem?_set_self hi]; rfl
 ·rw [List.getElem?_set_ne (by omega)];by_cases e2 : n = i * 2
  ·subst e2;have h0 := spCells_at (r.set i p) i 0 (by omega);rw [Nat.add_zero] at h0;rw [List.getElem?_set_self (by omega), h0, List.getElem?_set_self hi]; rfl
  ·rw [List.getElem?_set_ne (by omega), hn, spCells_at _ _ _ (by omega), spCells_at _ _ _ (by omega), List.getElem?_set_ne (by omega)]
theorem spCells_one (r : List PSpan) : ∀ v ∈ spCells r, v.oneCell' = true := by
 intro v hv;obtain ⟨p, _, hp⟩ := List.mem_flatMap.1 hv;simp [spCell] at hp;rcases hp with rfl | rfl <;> rfl
/-- a row of spans of one's own; of its capacity nothing is asked -/
def SpRow (W : World) (b n c : Nat) (r : List PSpan) : Prop := ∃ c', W.ownsRow 0 53 2 (.slice (some ⟨b, 0, none⟩) n c') n (spCells r)
section
variable {W W' : World} {b n c : Nat} {r : List PSpan}
theorem SpRow.of {c' : Nat} (h : W.ownsRow 0 53 2 (.slice (some ⟨b, 0, none⟩) n c') n (spCells r)) : SpRow W b n c r := ⟨c', h⟩
theorem SpRow.len (h : SpRow W b n c r) : r.length = n := by obtain ⟨c', h⟩ := h; have := h.1; rw [spCells_len] at this; omega
theorem SpRow.lt (h : SpRow W b n c r) : b < W.heap.size := by obtain ⟨c', h⟩ := h; exact row_lt h rfl
theorem SpRow.chg {S : Nat → Prop} (h : SpRow W b n c r) (hc : Chg S W W') (hs : ¬ S b) : SpRow W' b n c r := by
 obtain ⟨c', h⟩ := h;exact ⟨c', row_chg hc h (fun k hk e => hs (by have : b = k := (by simpa [Value.ownBlock] using hk); subst this; exact e))⟩
theorem SpRow.below (h : SpRow W b n c r) (hc : Below W.heap.size W W') : SpRow W' b n c r := by obtain ⟨c', h⟩ := h; exact ⟨c', row_below hc h⟩
theorem SpRow.cells (h : SpRow W b n c r) {i : Nat} (hi : i < n) : W.cell? ⟨b, i * 2, none⟩ = some (.int .i64 (r.getD i default).lo) ∧ W.cell? ⟨b, i * 2 + 1, none⟩ = some (.int .i64 (r.getD i default).hi) ∧ W.frozen? ⟨b, i * 2, none⟩ = false ∧ W.frozen? ⟨b, i * 2 + 1, none⟩ = false := by
 have hl := h.len;obtain ⟨c', h⟩ := h;have e : r[i]? = some (r.getD i default) := by rw [List.getD_eq_getElem?_getD, List.getElem?_eq_getElem (by omega)]; rfl
 have h0 := spCells_at r i 0 (by omega);rw [Nat.add_zero] at h0;exact ⟨row_cell h (by rw [h0, e]; rfl), row_cell h (by rw [spCells_at r i 1 (by omega), e]; rfl), h.frozenAt _, h.frozenAt _⟩
theorem SpRow.set (h : SpRow W b n c r) {i : Nat} (hi : i < n) (p : PSpan) : SpRow ((W.setCell ⟨b, i * 2, none⟩ (.int .i64 p.lo)).setCell ⟨b, i * 2 + 1, none⟩ (.int .i64 p.hi)) b n c (r.set i p) := by
 have hl := h.len;obtain ⟨c', h⟩ := h;have h1 := row_set (row_set h (i * 2) (.int .i64 p.lo)) (i * 2 + 1) (.int .i64 p.hi);rw [spCells_set r i p (by omega)] at h1;exact ⟨c', h1⟩
end
theorem chg2 (W : World) (b x y : Nat) (u v : Value) : Chg (· = b) W ((W.setCell ⟨b, x, none⟩ u).setCell ⟨b, y, none⟩ v) :=
 Chg.setCell (S := (· = b)) (Chg.setCell (S := (· = b)) (Chg.refl _ _) (p := ⟨b, x, none⟩) (Or.inl rfl) _) (p := ⟨b, y, none⟩) (Or.inl rfl) _
theorem meet_is (a b : PSpan) (w : World) : Calls Tryd.prog 39 #[.agg #[.int .i64 a.lo, .int .i64 a.hi], .agg #[.int .i64 b.lo, .int .i64 b.hi]] w fun e w' => ∃ v, e = .returned v ∧ v = .tuple #[.agg #[.int .i64 (meetQ a b).1.lo, .int .i64 (meetQ a b).1.hi], .bool (meetQ a b).2] ∧ Below w.heap.size w w' :=
 (smeet_any a b w).mono (by rintro e w' ⟨rfl, h⟩; exact ⟨_, rfl, rfl, h⟩)
theorem meets_any (i : Nat) (a : PSpan) (rb b n c : Nat) (r : List PSpan) (w : World) (ho : Own w rb [.slice (some ⟨b, 0, none⟩) n c]) (hr : SpRow w b n c r) (hi : i < n) (hne : b ≠ rb) (hn : n ≤ 64) :
 Calls Tryd.prog 38 #[.int .i64 i, spanV a, .pointer (some ⟨rb, 0, none⟩)] w fun e w' => e = .returned (.bool (meetR r i a).2) ∧ SpRow w' b n c (meetR r i a).1 ∧ Chg (· = b) w w' := by
 obtain ⟨lo, hi'⟩ := a;have hcf : ∀ (args : Array Value) (w : World), (callFunc 39 args).run Tryd.prog w = .ok (.enter 39 args) w := fun _ _ => rfl;unfold meetR spanV;dsimp only;have HM := Lib.hid (fun w => meet_is (r.getD i default) ⟨lo, hi'⟩ w);have HO := Lib.hid ho; have HR := Lib.hid hr;obtain ⟨r0, r1, r2, r3⟩ := hr.cells hi;obtain ⟨o0, o1, o2⟩ := own1 ho;have hbl := hr.lt;generalize meetQ (r.getD i default) ⟨lo, hi'⟩ = mq at *;obtain ⟨⟨mlo, mhi⟩, mb⟩ := mq;obtain ⟨p, hp⟩ : ∃ p, r.getD i default = p := ⟨_, rfl⟩
 rw [hp] at HM r0 r1;obtain ⟨plo, phi⟩ := p;dsimp only at HM r0 r1 ⊢;have hii : (i : Int) < (n : Int) := by omega
 clear ho hr;go_enter Tryd.func38, Tryd.ntmps38;go_upto_region 1 with (fail)
 generalize hW0 : World.alloc _ _ = W0;have hb0 : Below w.heap.size w W0 := by rw [← hW0]; exact bel
 have OA : Own W0 w.heap.size [.int .i64 lo, .int .i64 hi'] := by rw [← hW0]; exact Own.new _ _ _
 have hz0 : w.heap.size < W0.heap.size := OA.1;clear hW0 r0 r1 r2 r3 o0 o1 o2;have hrb : rb < w.heap.size := HO.out.1;have HSS : Hid (∀ w', Below W0.heap.size W0 w' → w'.cell? ⟨rb, 0, none⟩ = some (.slice (some ⟨b, 0, none⟩) n c) ∧ w'.cell? ⟨b, i * 2, none⟩ = some (.int .i64 plo) ∧ w'.cell? ⟨b, i * 2 + 1, none⟩ = some (.int .i64 phi) ∧ w'.cell? ⟨w.heap.size, 0, none⟩ = some (.int .i64 lo) ∧ w'.cell? ⟨w.heap.size, 1, none⟩ = some (.int .i64 hi')) := Lib.hid (fun w' hw => by
  obtain ⟨o0, o1, o2⟩ := own1 ((HO.out.below hb0).below hw);obtain ⟨r0, r1, r2, r3⟩ := ((HR.out.below hb0).below hw).cells hi;obtain ⟨a0, a1, a2, a3, a4⟩ := own2 (OA.below hw);rw [hp] at r0 r1;exact ⟨o1, r0, r1, a1, a2⟩)
 have HOA := Lib.hid OA;clear OA;go_cut [6, 7] (fun v6 v7 wc => ∃ k : Nat, v6 = .pointer (some ⟨k, 0, none⟩) ∧ v7 = .bool mb ∧ Hid (Own wc k [.int .i64 mlo, .int .i64 mhi]) ∧ Below W0.heap.size W0 wc ∧ W0.heap.size ≤ k)
 case first =>
  go_region_held3 (fun w' => w'.cell? ⟨rb, 0, none⟩ = some (.slice (some ⟨b, 0, none⟩) n c) ∧ w'.cell? ⟨b, i * 2, none⟩ = some (.int .i64 plo) ∧ w'.cell? ⟨b, i * 2 + 1, none⟩ = some (.int .i64 phi) ∧ w'.cell? ⟨w.heap.size, 0, none⟩ = some (.int .i64 lo) ∧ w'.cell? ⟨w.heap.size, 1, none⟩ = some (.int .i64 hi')) (exact HSS.out _ bel)
   (first
   | (refine step_callF rfl 39 [.tmp 12, .tmp 13] #[53, 53] rfl hcf [.agg #[.int .i64 plo, .int .i64 phi], .agg #[.int .i64 lo, .int .i64 hi']] rfl _ (HM.out _) ?_; rintro v wM ⟨rfl, hbM⟩; have hwM : Below W0.heap.size W0 wM := bel; have hzM := hwM.size; (try (have pM := Own.below (Own.drew (Own.new' W0 [.int .i64 0, .int .i64 0] 53 W0.heap.size rfl)) (by with_reducible exact hbM); have oM := own2 pM))))
  all_goals go_wp2
  all_goals go_meet
  all_goals first
   | exact ⟨wM.heap.size, rfl, rfl, Lib.hid (Own.new _ _ _), bel, hzM⟩
   | exact ⟨W0.heap.size, rfl, rfl, Lib.hid ((pM.set 0 _ (by simp)).set 1 _ (by simp)), bel, Nat.le_refl _⟩
 case rest =>
  obtain ⟨k, rfl, rfl, OK, hbc, hkl⟩ := hcut;obtain ⟨k0, k1, k2, k3, k4⟩ := own2 OK.out;obtain ⟨o0, o1, o2⟩ := own1 ((HO.out.below hb0).below hbc);have HR2 := Lib.hid ((HR.out.below hb0).below hbc);obtain ⟨r0, r1, r2, r3⟩ := HR2.out.cells hi;have hzc := hbc.size;go_wp2;go_ret;go_light;refine ⟨rfl, HR2.out.set hi ⟨mlo, mhi⟩, ?_⟩;exact ((Chg.of (hb0.trans (hbc.mono (by omega)))).trans (chg2 _ _ _ _ _ _))
end
end Go.Proofs.YteebpnbdihcfmaaDoor
