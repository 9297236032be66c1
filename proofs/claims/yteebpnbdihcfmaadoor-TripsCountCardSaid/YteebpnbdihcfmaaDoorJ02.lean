/- Regions that draw their order: all operations ahead of the last ones leave a world of a class, whatever order is drawn; or one of them panics. After the kit's own laws on one world (StillTail) and on a class (Quiet). No program in sight. Package span: times, truth, left. append on a slice of the call's own: the result lies in the same block, or in a new one. After the kit's wpList_append_own. Own rows of cells: what stays, how they are read, written, shortened and appended to. Package span: hull, divided. Package span: Do, operation by operation. -/
import Derived.StillTailTactics
import Derived.Deep.QuietTactic
import Derived.Below
import Derived.Test.YteebpnbdihcfmaaDoorJ01
import Derived.Lib.Mul64
import Derived.Laws.Bits64b
import Derived.Laws.AppendOwn
import Derived.Laws.OwnMore
import Derived.Tactics
import Derived.Deep.OwnRows
import Derived.Laws.CopyOwn
import Derived.Lib.AppendStr
import Derived.Deep.RegionLaw
import Derived.Deep.RegionHeld3
set_option linter.unusedVariables false
set_option linter.unusedSimpArgs false
set_option maxRecDepth 100000
set_option maxHeartbeats 20000000
namespace Go.Proofs.YteebpnbdihcfmaaDoor
open Go.RowKit
section
section
variable {P : Program} {ops : Array Oper} {md : Region.Mode} {C : World → Prop}
def wpLC (P : Program) (md : Region.Mode) (ops : Array Oper) (C : World → Prop) (n : Nat) (L : Array Bool → Act → Prop) : Nat → Array Bool → Act → Prop
 | 0, listed, a => L listed a
 | f + 1, listed, a =>
  Region.ready md ops listed ≠ [] ∧ ∀ i ∈ Region.ready md ops listed, i < n ∧ qOp P ops C i (wpLC P md ops C n L f (listed.setIfInBounds i true)) a
theorem wpAny_of_headC {n g : Nat} {L : Array Bool → Act → Prop} {Q' : Exit → Act → World → Prop} (hL : ∀ listed a w, C w → L listed a → wpAny P md ops Q' g listed a w) :
 ∀ (f : Nat) (listed : Array Bool) (a : Act) (w : World), C w → wpLC P md ops C n L f listed a → wpAny P md ops Q' (f + g) listed a w
 | 0, listed, a, w, hw, h => by rw [Nat.zero_add]; exact hL _ _ _ hw h
 | f + 1, listed, a, w, hw, h => by
  rw [show f + 1 + g = (f + g) + 1 by omega];exact ⟨fun h0 => absurd h0 h.1, fun i hi => wpOp_of_qOp hw (fun a' w' hw' h' => wpAny_of_headC hL f _ a' w' hw' h') (h.2 i hi).2⟩
theorem wpLC_first {n i : Nat} {oi : Oper} {v : Value} {L : Array Bool → Act → Prop} (hi : ops[i]? = some oi) (hsel : ∀ (j : Nat) (o : Oper) cs b, ops[j]? = some o → o.op ≠ .select cs b)
 (hs : Region.sinkB md ops n = true) (hc : Region.chainB md ops n = true) (hn : n < ops.size) (hin : i < n)
 (hdone : ∀ listed a, L listed a → ∀ j ∈ Region.ready md ops listed, n ≤ j) :
 ∀ (f : Nat) (listed : Array Bool) (a : Act), HeadInv md ops n listed →
  (∀ j oj, ops[j]? = some oj → j ≠ i → listed.getD j true = false → (∀ e ∈ oj.after, Region.binds md e = true → e.on ≠ i) → oi.apart ops oj = true) →
  i ∈ Region.ready md ops listed → YieldsIn P ops C oi v a →
  wpLC P md ops C n L f (listed.setIfInBounds i true) (a.put oi.dst v) → wpLC P md ops C n L (f + 1) listed a := by
 intro f
 induction f with
 | zero =>
  intro listed a inv _ hr hy H;have hun := (mem_ready.1 hr).1;refine ⟨fun h => (by rw [h] at hr; cases hr), fun j hj => ?_⟩;have hjn : j < n := by
   rcases Nat.lt_or_ge j n with h | h
   ·exact h
   ·exact absurd hj (tail_waits hs hc hn inv _ i rfl hin hun j h)
  refine ⟨hjn, ?_⟩;by_cases hji : j = i
  ·subst hji; exact hy.qOp hi H
  ·have := hdone _ _ H j (ready_mono hj hji);omega
 | succ f ih =>
  intro listed a inv hfree hr hy H;have hun := (mem_ready.1 hr).1;refine ⟨fun h => (by rw [h] at hr; cases hr), fun j hj => ?_⟩;have hjn : j < n := by
   rcases Nat.lt_or_ge j n with h | h
   ·exact h
   ·exact absurd hj (tail_waits hs hc hn inv _ i rfl hin hun j h)
  refine ⟨hjn, ?_⟩;by_cases hji : j = i
  ·subst hji; exact hy.qOp hi H
  ·have h1 := (H.2 j (ready_mono hj hji)).2;obtain ⟨hjun, oj, hoj, hall⟩ := mem_ready.1 hj;have hnot : ∀ e ∈ oj.after, Region.binds md e = true → e.on ≠ i := fun e he hb heq => by
    have h1 := hall e he hb;rw [heq, getD_both hun] at h1;cases h1
   have h2 := qOp_put hoj (hfree j oj hoj hji hjun hnot) (fun cs b => hsel i oi cs b hi) (fun cs b => hsel j oj cs b hoj) hy h1;have hfree' : ∀ k ok, ops[k]? = some ok → k ≠ i → (listed.setIfInBounds j true).getD k true = false →
    (∀ e ∈ ok.after, Region.binds md e = true → e.on ≠ i) → oi.apart ops ok = true := fun k ok hk hki hun hno => by
    refine hfree k ok hk hki ?_ hno;by_cases hjk : j = k
    ·subst hjk; exact hjun
    ·rw [getD_set_ne true hjk] at hun; exact hun
   refine qOp_mono (fun a' h3 => ih (listed.setIfInBounds j true) a' (inv.set hj hjn) hfree' (ready_mono hr (Ne.symm hji)) h3.1 ?_) h2;rw [Array.setIfInBounds_comm _ _ hji];exact h3.2
theorem wpLC_lex {n g : Nat} {Lq : Act → Prop} (hsel : Region.noSelect ops = true) (hs : Region.sinkB md ops n = true) (hc : Region.chainB md ops n = true) (hn : n < ops.size) :
 ∀ (l : List Oper) (k : Nat) (listed : Array Bool) (a : Act), (∀ j, j < l.length → l[j]? = ops[k + j]?) → k + l.length = n → HeadInv md ops n listed →
 Region.lexHead md ops g l.length k listed = true → wpQuiet P ops C Lq l a →
 wpLC P md ops C n (fun listed' a' => Region.seqB md ops g n listed' = true ∧ Lq a') l.length listed a
 | [], k, listed, a, _, hk, _, hB, h => by
  have : k = n := by simpa using hk
  subst this;exact ⟨by simpa [Region.lexHead] using hB, h⟩
 | o :: l, k, listed, a, hl, hk, inv, hB, h => by
  have h0 : ops[k]? = some o := by simpa using (hl 0 (by simp)).symm
  simp only [List.length_cons, Region.lexHead, Bool.and_eq_true] at hB;obtain ⟨⟨hr, hf⟩, hB'⟩ := hB;have hkn : k < n := by simp only [List.length_cons] at hk; omega
  have hr' : k ∈ Region.ready md ops listed := by simpa using hr
  have hst : qOp P ops C k (wpQuiet P ops C Lq l) a := by unfold qOp; simp only [h0]; exact h
  obtain ⟨v, hy, hK⟩ := yieldsIn_of_qOp h0 hst;exact wpLC_first h0 (Region.noSelect_spec hsel) hs hc hn hkn (fun listed' a' hL => seqB_ready hL.1) l.length listed a inv (Region.free_spec h0 hf) hr' hy
   (wpLC_lex hsel hs hc hn l (k + 1) _ _ (fun j hj => by have := hl (j + 1) (by simp; omega); simpa [Nat.add_assoc, Nat.add_comm 1 j] using this) (by simp only [List.length_cons] at hk; omega) (inv.set hr' hkn) hB' hK)
theorem wp_region_quiet_tail {id : Nat} {Q : Exit → Act → World → Prop} {a : Act} {w : World} {l : List Oper} (n : Nat) (hm : P.follows .mixedOrders = true) (hB : Region.lexTailB .any l.toArray n = true) (hC : C w.drew)
 (h : wpQuiet P l.toArray C (fun a' => ∀ w', C w' → wpList P l.toArray Q (l.drop n) a' w') (l.take n) a) : (Code.region id l.toArray true).wp P Q a w := by
 simp only [Region.lexTailB, Bool.and_eq_true, decide_eq_true_eq] at hB;obtain ⟨⟨⟨⟨hsel, hn⟩, hs⟩, hc⟩, hlex⟩ := hB;have hn' : n < l.length := by simpa using hn
 have htl : (l.take n).length = n := by simp; omega
 have hdl : (l.drop n).length = l.toArray.size - n := by simp
 have inv0 : HeadInv .any l.toArray n (Array.replicate l.toArray.size false) :=
  ⟨by simp, fun j oj _ hl => (by rw [getD_replicate_false] at hl; cases hl), fun t _ ht => getD_in (by simpa using ht) (getD_replicate_false _ _)⟩
 have H := wpLC_lex (md := .any) (g := l.toArray.size - n) hsel hs hc hn (l.take n) 0 _ a (fun j hj => by
  have hj' : j < n := by rw [htl] at hj; exact hj
  simp [hj']) (by simpa using htl) inv0 (by rw [htl]; exact hlex) h
 refine wp_region_any hm ?_;have := wpAny_of_headC (Q' := Q) (g := l.toArray.size - n) (fun listed a' w' hw' hL => by
  have := wpAny_of_seq (md := .any) (Q' := Q) (l.drop n) n listed a' w' (fun j => by simp [List.getElem?_drop]) (by rw [hdl]; exact hL.1) (hL.2 w' hw')
  rwa [hdl] at this) _ _ _ _ hC H
 rw [htl, show n + (l.toArray.size - n) = l.toArray.size by omega] at this;exact this
/-! an operation that panics, in whatever world of the class -/
def dieUpon (P : Program) (C : World → Prop) (X : List PanicEntry → Prop) (w : World) : Result Next → Prop
 | .ok (.enter f args) w' => w' = w ∧ Calls P f args w (fun e w'' => ∃ ch, e = .panicked ch ∧ X ch ∧ C w'')
 | .halt (.panic v) w' => C w' ∧ X [{ v := v, recovered := false }]
 | _ => False
def diesAt (P : Program) (ops : Array Oper) (C : World → Prop) (X : List PanicEntry → Prop) (p : Nat) (a : Act) : Prop :=
 ∃ o, ops[p]? = some o ∧ Region.wanted o (yielded ops a.tmps) = true ∧ ∀ w, C w → dieUpon P C X w ((execOp a.eval o).run P w)
def wpD (P : Program) (md : Region.Mode) (ops : Array Oper) (C : World → Prop) (X : List PanicEntry → Prop) (p : Nat) : Nat → Array Bool → Act → Prop
 | 0, listed, a => Region.ready md ops listed = [p] ∧ diesAt P ops C X p a
 | f + 1, listed, a =>
  Region.ready md ops listed ≠ [] ∧ ∀ i ∈ Region.ready md ops listed, (i = p ∧ diesAt P ops C X p a) ∨ (i ≠ p ∧ qOp P ops C i (wpD P md ops C X p f (listed.setIfInBounds i true)) a)
theorem wpOp_of_dies {X : List PanicEntry → Prop} {Q' : Exit → Act → World → Prop} {K : Act → World → Prop} {ds : List Deferred} (hX : ∀ ch a w, a.defers = ds → X ch → C w → Q' (.panic ch) a w) {p : Nat} {a : Act} {w : World} (hds : a.defers = ds) (hw : C w) (h : diesAt P ops C X p a) : wpOp P ops Q' p K a w := by
 obtain ⟨o, ho, hwant, hd⟩ := h;unfold wpOp;simp only [ho, hwant, if_true];refine .inl ?_;have h1 := hd w hw;unfold Oper.wp;generalize (execOp a.eval o).run P w = r at *;cases r with
 | ok n w' =>
  cases n <;> simp only [dieUpon] at h1
  case enter f args =>
   obtain ⟨rfl, hc⟩ := h1;exact hc.mono fun e w'' ⟨ch, he, hx, hw''⟩ => by subst he; exact hX _ _ _ hds hx hw''
 | halt x w' =>
  cases x <;> simp only [dieUpon] at h1
  case panic v => exact hX _ _ _ hds h1.2 h1.1
theorem put_defers (a : Act) (d : Option Tmp) (v : Value) : (a.put d v).defers = a.defers := by cases d <;> rfl
theorem qOp_defers {i : Nat} {K : Act → Prop} {a : Act} (h : qOp P ops C i K a) : qOp P ops C i (fun a' => K a' ∧ a'.defers = a.defers) a := by
 unfold qOp at *;split
 ·simp_all
 ·rename_i o ho;simp only [ho] at h;split
  ·rename_i hw;simp only [hw, if_true] at h;obtain ⟨v, h1, h2⟩ := h;exact ⟨v, h1, h2, put_defers _ _ _⟩
  ·rename_i hw;simp only [hw] at h;exact ⟨h, put_defers _ _ _⟩
theorem wpAny_of_dies {X : List PanicEntry → Prop} {Q' : Exit → Act → World → Prop} {ds : List Deferred} (hX : ∀ ch a w, a.defers = ds → X ch → C w → Q' (.panic ch) a w) (p g : Nat) :
 ∀ (f : Nat) (listed : Array Bool) (a : Act) (w : World), a.defers = ds → C w → wpD P md ops C X p f listed a → wpAny P md ops Q' (f + 1 + g) listed a w
 | 0, listed, a, w, hds, hw, h => by
  rw [show 0 + 1 + g = g + 1 by omega];refine ⟨fun h0 => (by rw [h.1] at h0; cases h0), fun i hi => ?_⟩;rw [h.1] at hi;obtain rfl : i = p := by simpa using hi
  exact wpOp_of_dies hX hds hw h.2
 | f + 1, listed, a, w, hds, hw, h => by
  rw [show f + 1 + 1 + g = (f + 1 + g) + 1 by omega];refine ⟨fun h0 => absurd h0 h.1, fun i hi => ?_⟩;rcases h.2 i hi with ⟨rfl, hd⟩ | ⟨_, hq⟩
  ·exact wpOp_of_dies hX hds hw hd
  ·exact wpOp_of_qOp hw (fun a' w' hw' h' => wpAny_of_dies hX p g f _ a' w' (h'.2.trans hds) hw' h'.1) (qOp_defers hq)
theorem diesAt_put {X : List PanicEntry → Prop} {p : Nat} {oi : Oper} {v : Value} {a : Act} (hap : ∀ op, ops[p]? = some op → oi.apart ops op = true) (hsp : ∀ op, ops[p]? = some op → ∀ cs b, op.op ≠ .select cs b)
 (h : diesAt P ops C X p (a.put oi.dst v)) : diesAt P ops C X p a := by
 obtain ⟨o, ho, hwant, hd⟩ := h;obtain ⟨h1, h2, h3⟩ := Oper.apart_spec (hap o ho);rw [wanted_put o a oi.dst v h1] at hwant;rw [execOp_put o (hsp o ho) a oi.dst v h1] at hd;exact ⟨o, ho, hwant, hd⟩
theorem wpD_first {X : List PanicEntry → Prop} {p i : Nat} {oi : Oper} {v : Value} (hi : ops[i]? = some oi) (hip : i ≠ p) (hsel : ∀ (j : Nat) (o : Oper) cs b, ops[j]? = some o → o.op ≠ .select cs b) :
 ∀ (f : Nat) (listed : Array Bool) (a : Act),
  (∀ j oj, ops[j]? = some oj → j ≠ i → listed.getD j true = false → (∀ e ∈ oj.after, Region.binds md e = true → e.on ≠ i) → oi.apart ops oj = true) →
  i ∈ Region.ready md ops listed → YieldsIn P ops C oi v a →
  wpD P md ops C X p f (listed.setIfInBounds i true) (a.put oi.dst v) → wpD P md ops C X p (f + 1) listed a := by
 intro f
 induction f with
 | zero =>
  intro listed a hfree hr hy H;have hun := (mem_ready.1 hr).1;refine ⟨fun h => (by rw [h] at hr; cases hr), fun j hj => ?_⟩;by_cases hji : j = i
  ·subst hji; exact .inr ⟨hip, hy.qOp hi H⟩
  ·obtain ⟨hjun, oj, hoj, hall⟩ := mem_ready.1 hj;have hnot : ∀ e ∈ oj.after, Region.binds md e = true → e.on ≠ i := fun e he hb heq => by
    have h1 := hall e he hb;rw [heq, getD_both hun] at h1;cases h1
   have h1 := ready_mono hj hji;rw [H.1] at h1;obtain rfl : j = p := by simpa using h1
   exact .inl ⟨rfl, diesAt_put (fun op hop => hfree j op hop hji hjun (by rw [hoj] at hop; cases hop; exact hnot)) (fun op hop cs b => hsel j op cs b hop) H.2⟩
 | succ f ih =>
  intro listed a hfree hr hy H;have hun := (mem_ready.1 hr).1;refine ⟨fun h => (by rw [h] at hr; cases hr), fun j hj => ?_⟩;by_cases hji : j = i
  ·subst hji; exact .inr ⟨hip, hy.qOp hi H⟩
  ·obtain ⟨hjun, oj, hoj, hall⟩ := mem_ready.1 hj;have hnot : ∀ e ∈ oj.after, Region.binds md e = true → e.on ≠ i := fun e he hb heq => by
    have h1 := hall e he hb;rw [heq, getD_both hun] at h1;cases h1
   rcases H.2 j (ready_mono hj hji) with ⟨rfl, hd⟩ | ⟨hjp, hq⟩
   ·exact .inl ⟨rfl, diesAt_put (fun op hop => hfree j op hop hji hjun (by rw [hoj] at hop; cases hop; exact hnot)) (fun op hop cs b => hsel j op cs b hop) hd⟩
   ·refine .inr ⟨hjp, ?_⟩;have h2 := qOp_put hoj (hfree j oj hoj hji hjun hnot) (fun cs b => hsel i oi cs b hi) (fun cs b => hsel j oj cs b hoj) hy hq;have hfree' : ∀ k ok, ops[k]? = some ok → k ≠ i → (listed.setIfInBounds j true).getD k true = false →
     (∀ e ∈ ok.after, Region.binds md e = true → e.on ≠ i) → oi.apart ops ok = true := fun k ok hk hki hun hno => by
     refine hfree k ok hk hki ?_ hno;by_cases hjk : j = k
     ·subst hjk; exact hjun
     ·rw [getD_set_ne true hjk] at hun; exact hun
    refine qOp_mono (fun a' h3 => ih (listed.setIfInBounds j true) a' hfree' (ready_mono hr (Ne.symm hji)) h3.1 ?_) h2;rw [Array.setIfInBounds_comm _ _ hji];exact h3.2
def pickOps (l : List Oper) (ord : List Nat) : List Oper := ord.map fun k => l.getD k default
def ordB (md : Region.Mode) (ops : Array Oper) (p : Nat) : List Nat → Array Bool → Bool
 | [], listed => decide (Region.ready md ops listed = [p])
 | k :: r, listed => (Region.ready md ops listed).contains k && Region.free md ops listed k && (k != p) && decide (k < ops.size) && ordB md ops p r (listed.setIfInBounds k true)
theorem wpD_ord {X : List PanicEntry → Prop} {p : Nat} (hsel : Region.noSelect ops = true) : ∀ (ord : List Nat) (listed : Array Bool) (a : Act), ordB md ops p ord listed = true →
 wpQuiet P ops C (diesAt P ops C X p) (pickOps ops.toList ord) a → wpD P md ops C X p ord.length listed a
 | [], listed, a, hB, h => ⟨by simpa [ordB] using hB, h⟩
 | k :: r, listed, a, hB, h => by
  simp only [ordB, Bool.and_eq_true, decide_eq_true_eq, bne_iff_ne] at hB;obtain ⟨⟨⟨⟨hr, hf⟩, hkp⟩, hk⟩, hB'⟩ := hB;have h0 : ops[k]? = some ops[k] := Array.getElem?_eq_getElem hk;have hst : qOp P ops C k (wpQuiet P ops C (diesAt P ops C X p) (pickOps ops.toList r)) a := by
   unfold qOp; simp only [h0];have e : ops.toList.getD k default = ops[k] := by simp [List.getD_eq_getElem?_getD, hk]
   simp only [pickOps, List.map_cons, e] at h;exact h
  obtain ⟨v, hy, hK⟩ := yieldsIn_of_qOp h0 hst;exact wpD_first h0 hkp (Region.noSelect_spec hsel) r.length listed a (Region.free_spec h0 hf) (by simpa using hr) hy (wpD_ord hsel r _ _ hB' hK)
/-- a drawn region in which operation p panics; ord: all that do not wait for it -/
theorem wp_region_dies {X : List PanicEntry → Prop} {id : Nat} {Q : Exit → Act → World → Prop} {a : Act} {w : World} {l : List Oper} (p : Nat) (ord : List Nat) (hm : P.follows .mixedOrders = true)
 (hB : (Region.noSelect l.toArray && decide (ord.length < l.length) && ordB .any l.toArray p ord (Array.replicate l.toArray.size false)) = true) (hC : C w.drew) (hX : ∀ ch a' w, a'.defers = a.defers → X ch → C w → Q (.panic ch) a' w)
 (h : wpQuiet P l.toArray C (diesAt P l.toArray C X p) (pickOps l ord) a) : (Code.region id l.toArray true).wp P Q a w := by
 simp only [Bool.and_eq_true, decide_eq_true_eq] at hB;obtain ⟨⟨hsel, hlen⟩, hB⟩ := hB;refine wp_region_any hm ?_;have := wpAny_of_dies (md := .any) (Q' := Q) hX p (l.toArray.size - (ord.length + 1)) _ _ a w.drew rfl hC (wpD_ord hsel ord _ a hB h)
 rwa [show ord.length + 1 + (l.toArray.size - (ord.length + 1)) = l.toArray.size by simp; omega] at this
end
/-! the class of the worlds below which nothing has turned, its worlds named by a family -/
@[irreducible] def WQ (P : Program) (ops : Array Oper) (C : World → Prop) (Q : Act → Prop) (l : List Oper) (a : Act) : Prop := wpQuiet P ops C Q l a
theorem WQ_nil {P : Program} {ops : Array Oper} {C : World → Prop} {Q : Act → Prop} {a : Act} (h : Q a) : WQ P ops C Q [] a := by unfold WQ; exact h
theorem WQ_step {P : Program} {ops : Array Oper} {C : World → Prop} {Q : Act → Prop} {a : Act} {o : Oper} {rest : List Oper}
 (h : ∀ K : Act → Prop, (∀ a, WQ P ops C Q rest a → K a) → if Region.wanted o (yielded ops a.tmps) then o.quiet P a C K else K (a.put o.dst undef)) : WQ P ops C Q (o :: rest) a := by
 unfold WQ at *; exact wpQuiet_step h
theorem wp_below_tail {P : Program} {id : Nat} {Q : Exit → Act → World → Prop} {a : Act} {w : World} {l : List Oper} (n : Nat) (hm : P.follows .mixedOrders = true) (hB : Region.lexTailB .any l.toArray n = true)
 (h : ∀ (T : Type) (F : T → World), (∀ t, Below w.heap.size w (F t)) → (∀ w', Below w.heap.size w w' → ∃ t, w' = F t) →
   WQ P l.toArray (fun w' => ∃ t, w' = F t) (fun a' => ∀ t, wpList P l.toArray Q (l.drop n) a' (F t)) (l.take n) a) : (Code.region id l.toArray true).wp P Q a w := by
 have h1 := h { w' : World // Below w.heap.size w w' } Subtype.val (fun t => t.2) (fun w' hw' => ⟨⟨w', hw'⟩, rfl⟩);unfold WQ at h1;refine wp_region_quiet_tail (C := fun w' => ∃ t : { w' : World // Below w.heap.size w w' }, w' = t.1) n hm hB ⟨⟨w.drew, (Below.refl _ _).drew⟩, rfl⟩ ?_;have : (fun a' => ∀ w', (∃ t : { w' : World // Below w.heap.size w w' }, w' = t.1) → wpList P l.toArray Q (l.drop n) a' w') = (fun a' => ∀ t : { w' : World // Below w.heap.size w w' }, wpList P l.toArray Q (l.drop n) a' t.1) := by
  funext a'; apply propext;exact ⟨fun h t => h _ ⟨t, rfl⟩, fun h w' ⟨t, ht⟩ => ht ▸ h t⟩
 rw [this]; exact h1
theorem wp_below_dies {P : Program} {X : List PanicEntry → Prop} {id : Nat} {Q : Exit → Act → World → Prop} {a : Act} {w : World} {l : List Oper} (p : Nat) (ord : List Nat) (hm : P.follows .mixedOrders = true)
 (hB : (Region.noSelect l.toArray && decide (ord.length < l.length) && ordB .any l.toArray p ord (Array.replicate l.toArray.size false)) = true) (hX : ∀ ch a' w', a'.defers = a.defers → X ch → Below w.heap.size w w' → Q (.panic ch) a' w')
 (h : ∀ (T : Type) (F : T → World), (∀ t, Below w.heap.size w (F t)) → (∀ w', Below w.heap.size w w' → ∃ t, w' = F t) →
   WQ P l.toArray (fun w' => ∃ t, w' = F t) (diesAt P l.toArray (fun w' => ∃ t, w' = F t) X p) (pickOps l ord) a) : (Code.region id l.toArray true).wp P Q a w := by
 have h1 := h { w' : World // Below w.heap.size w w' } Subtype.val (fun t => t.2) (fun w' hw' => ⟨⟨w', hw'⟩, rfl⟩);unfold WQ at h1;exact wp_region_dies (C := fun w' => ∃ t : { w' : World // Below w.heap.size w w' }, w' = t.1) p ord hm hB ⟨⟨w.drew, (Below.refl _ _).drew⟩, rfl⟩ (fun ch a' w' hd hx ⟨t, ht⟩ => hX ch a' w' hd hx (ht ▸ t.2)) h1
/-- a callee's contract, met in a world of the family -/
theorem calls_family {P : Program} {f : FuncId} {args : Array Value} {T : Type} {F : T → World} {w W : World} {v : Value} (hF : Below W.heap.size W w) (hall : ∀ w', Below W.heap.size W w' → ∃ t, w' = F t)
 (h : Calls P f args w fun e w' => e = .returned v ∧ Below w.heap.size w w') : Calls P f args w fun e w'' => e = .returned v ∧ ∃ t, w'' = F t :=
 h.mono fun _ _ ⟨he, hb⟩ => ⟨he, hall _ (hF.trans (hb.mono hF.size))⟩
theorem dies_family {P : Program} {f : FuncId} {args : Array Value} {T : Type} {F : T → World} {w W : World} {ch : List PanicEntry} {X : List PanicEntry → Prop} (hF : Below W.heap.size W w) (hall : ∀ w', Below W.heap.size W w' → ∃ t, w' = F t) (hx : X ch)
 (h : Calls P f args w fun e w' => e = .panicked ch ∧ Below w.heap.size w w') : dieUpon P (fun w' => ∃ t, w' = F t) X w (.ok (.enter f args) w) :=
 ⟨rfl, h.mono fun _ _ ⟨he, hb⟩ => ⟨ch, he, hx, hall _ (hF.trans (hb.mono hF.size))⟩⟩
end
theorem same_calls {P : Program} {f : FuncId} {args : Array Value} {w : World} {v : Ending} (h : Calls P f args w fun e w' => e = v ∧ w' = w) : Calls P f args w fun e w' => e = v ∧ Below w.heap.size w w' := h.mono fun _ _ ⟨a, b⟩ => ⟨a, b ▸ Below.refl _ _⟩
theorem mx_mask (a : Nat) (ha : a < 18446744073709551616) : bits .and .u64 (a : Int) 4294967295 = ((a % 4294967296 : Nat) : Int) := by
 have h := bits_and_u64_nat a 4294967295 ha (by omega);have e : a &&& 4294967295 = a % 4294967296 := Nat.and_two_pow_sub_one_eq_mod a 32;rw [e] at h;exact h
theorem mx_div (a : Nat) : (a : Int) / 4294967296 = ((a / 4294967296 : Nat) : Int) := by omega
theorem mx_mul (a b : Nat) : (a : Int) * (b : Int) = ((a * b : Nat) : Int) := (Int.natCast_mul a b).symm
theorem mx_add (a b : Nat) : (a : Int) + (b : Int) = ((a + b : Nat) : Int) := (Int.natCast_add a b).symm
theorem mx_wrap (a : Nat) (ha : a < 18446744073709551616) : IntKind.u64.wrap (a : Int) = (a : Int) := by rw [u64_wrap]; omega
theorem mx_wrapM (a : Nat) : IntKind.u64.wrap (a : Int) = ((a % 18446744073709551616 : Nat) : Int) := by rw [u64_wrap]; omega
theorem mul64_any (x y : Nat) (hx : x < 18446744073709551616) (hy : y < 18446744073709551616) (w : World) :
 Calls Tryd.prog 65 #[.int .u64 x, .int .u64 y] w fun e w' => e = .returned (.tuple #[.int .u64 ((x * y / 18446744073709551616 : Nat) : Int), .int .u64 ((x * y % 18446744073709551616 : Nat) : Int)]) ∧ w' = w := by
 obtain ⟨bd, bt, bw, hhi⟩ := Lib.mul64_hi x y hx hy;have ba := Lib.half_mul_le (a := x / 4294967296) (b := y / 4294967296) (by omega) (by omega);have bb := Lib.half_mul_le (a := x / 4294967296) (b := y % 4294967296) (by omega) (by omega);have bc := Lib.half_mul_le (a := x % 4294967296) (b := y / 4294967296) (by omega) (by omega);have ba' : x / 4294967296 * (y / 4294967296) < 18446744073709551616 := by omega
 have bb' : x / 4294967296 * (y % 4294967296) < 18446744073709551616 := by omega
 have bc' : x % 4294967296 * (y / 4294967296) < 18446744073709551616 := by omega
 have bh1 : x / 4294967296 * (y / 4294967296) + (x / 4294967296 * (y % 4294967296) + x % 4294967296 * (y % 4294967296) / 4294967296) / 4294967296 < 18446744073709551616 := by omega
 have bh : x / 4294967296 * (y / 4294967296) + (x / 4294967296 * (y % 4294967296) + x % 4294967296 * (y % 4294967296) / 4294967296) / 4294967296 + ((x / 4294967296 * (y % 4294967296) + x % 4294967296 * (y % 4294967296) / 4294967296) % 4294967296 + x % 4294967296 * (y / 4294967296)) / 4294967296 < 18446744073709551616 := by omega
 go_enter Tryd.func65, Tryd.ntmps65;go_wp2;simp only [mx_mask x hx, mx_mask y hy, mx_div, mx_mul, mx_add, mx_wrap _ bd, mx_wrap _ bb', mx_wrap _ bt, mx_mask _ bt, mx_wrap _ bc', mx_wrap _ bw, mx_wrap _ ba', mx_wrap _ bh1, mx_wrap _ bh, mx_wrapM (x * y)];rw [hhi];go_ret2;exact ⟨rfl, rfl⟩
/-- a product, and whether it is what it would be without end -/
def timesP (a b : Int) : Int × Bool := (wrap64 (a * b), decide (-9223372036854775808 ≤ a * b) && decide (a * b ≤ 9223372036854775807))
theorem natAbs_sign (a b : Int) : a * b = if (decide (a < 0) != decide (b < 0)) = true then -((a.natAbs * b.natAbs : Nat) : Int) else ((a.natAbs * b.natAbs : Nat) : Int) := by
 have e : ((a.natAbs * b.natAbs : Nat) : Int) = (a.natAbs : Int) * (b.natAbs : Int) := Int.natCast_mul _ _;rw [e];by_cases h1 : a < 0 <;> by_cases h2 : b < 0
 ·rw [show (a.natAbs : Int) = -a by omega, show (b.natAbs : Int) = -b by omega]; simp [h1, h2, Int.neg_mul, Int.mul_neg]
 ·rw [show (a.natAbs : Int) = -a by omega, show (b.natAbs : Int) = b by omega]; simp [h1, h2, Int.neg_mul, Int.mul_neg]
 ·rw [show (a.natAbs : Int) = a by omega, show (b.natAbs : Int) = -b by omega]; simp [h1, h2, Int.neg_mul, Int.mul_neg]
 ·rw [show (a.natAbs : Int) = a by omega, show (b.natAbs : Int) = b by omega]; simp [h1, h2, Int.neg_mul, Int.mul_neg]
theorem stimes_any (a b : Int) (w : World) (ha : In64 a) (hb : In64 b) : Calls Tryd.prog 56 #[.int .i64 a, .int .i64 b] w fun e w' => e = .returned (.tuple #[.int .i64 (timesP a b).1, .bool (timesP a b).2]) ∧ w' = w := by
 have HA := Lib.hid (fun w => sdist_any a w ha);have HB := Lib.hid (fun w => sdist_any b w hb);unfold In64 at ha hb;have hna : a.natAbs < 18446744073709551616 := by omega
 have hnb : b.natAbs < 18446744073709551616 := by omega
 have HM := Lib.hid (fun w => mul64_any a.natAbs b.natAbs hna hnb w);unfold timesP;rw [natAbs_sign a b];generalize a.natAbs * b.natAbs = p at HM ⊢;by_cases h1 : (decide (a < 0) != decide (b < 0)) = true
 all_goals have HS := Lib.hid h1
 ·rw [if_pos h1];go_enter Tryd.func56, Tryd.ntmps56;go_wp2_with (first | (go_at_call 66; refine (HA.out _).mono ?_; rintro e w1 ⟨rfl, rfl⟩; clear HA) | (go_at_call 66; refine (HB.out _).mono ?_; rintro e w1 ⟨rfl, rfl⟩; clear HB) | (go_at_call 65; refine (HM.out _).mono ?_; rintro e w1 ⟨rfl, rfl⟩) | fail)
  all_goals first | (exfalso; clear HM HA HB; grind) | (exfalso; clear HM; grind) | skip
  all_goals go_ret2
  all_goals refine ⟨ret_ib ?_ ?_, rfl⟩
  all_goals first | (clear HM HS; unfold wrap64; omega) | (clear HM HS; rw [Bool.eq_iff_iff]; simp only [Bool.and_eq_true, decide_eq_true_eq, Bool.false_eq_true, false_iff]; omega)
 ·rw [if_neg h1];go_enter Tryd.func56, Tryd.ntmps56;go_wp2_with (first | (go_at_call 66; refine (HA.out _).mono ?_; rintro e w1 ⟨rfl, rfl⟩; clear HA) | (go_at_call 66; refine (HB.out _).mono ?_; rintro e w1 ⟨rfl, rfl⟩; clear HB) | (go_at_call 65; refine (HM.out _).mono ?_; rintro e w1 ⟨rfl, rfl⟩) | fail)
  all_goals first | (exfalso; clear HM HA HB; grind) | (exfalso; clear HM; grind) | skip
  all_goals go_ret2
  all_goals refine ⟨ret_ib ?_ ?_, rfl⟩
  all_goals first | (clear HM HS; unfold wrap64; omega) | (clear HM HS; rw [Bool.eq_iff_iff]; simp only [Bool.and_eq_true, decide_eq_true_eq, Bool.false_eq_true, false_iff]; omega)
def truthP (y n : Bool) : PSpan := if y then ⟨1, 1⟩ else if n then ⟨0, 0⟩ else ⟨0, 1⟩
theorem struth_any (y n : Bool) (w : World) : Calls Tryd.prog 59 #[.bool y, .bool n] w fun e w' => e = .returned (spanV (truthP y n)) ∧ Below w.heap.size w w' := by
 unfold spanV truthP;cases y <;> cases n
 all_goals simp only [if_true, if_false, Bool.false_eq_true]
 all_goals go_enter Tryd.func59, Tryd.ntmps59
 all_goals go_wp2
 all_goals refine span_end (by rfl) (by rfl) ownbq (by simp) ?_
 all_goals exact ⟨rfl, bel⟩
def leftM (b : PSpan) : Int := wrap64 (IntKind.u64.wrap (max (b.lo.natAbs : Int) (b.hi.natAbs : Int) - 1))
def leftP (a b : PSpan) : PSpan := ⟨if a.lo < 0 then max a.lo (wrap64 (-leftM b)) else 0, if 0 < a.hi then min a.hi (leftM b) else 0⟩
theorem sleft_any (a b : PSpan) (w : World) (h1 : In64 b.lo) (h2 : In64 b.hi) : Calls Tryd.prog 57 #[spanV a, spanV b] w fun e w' => e = .returned (spanV (leftP a b)) ∧ Below w.heap.size w w' := by
 have HA := Lib.hid (fun w => sdist_any b.lo w h1);have HB := Lib.hid (fun w => sdist_any b.hi w h2);unfold spanV leftP leftM;obtain ⟨lo, hi⟩ := a;obtain ⟨lo2, hi2⟩ := b;dsimp only at *;go_enter Tryd.func57, Tryd.ntmps57;go_wp2;refine wp_below_tail 9 (by kernel_rfl) (by kernel_rfl) (fun T F hF hall => ?_); simp only [List.take_succ_cons, List.take_zero, List.drop_succ_cons, List.drop_zero]; have hFc := fun t => (bcell (hF t)).1; have hFf := fun t => (bcell (hF t)).2; have hFs := fun t => (hF t).size; have hNE : Nonempty T := (hall _ (Below.refl _ _)).elim fun t _ => ⟨t⟩; repeat (refine WQ_step (fun K hK => ?_); go_simp; refine hK _ ?_; clear hK K)
 (refine WQ_step (fun K hK => ?_); go_simp; refine ⟨_, fun t => calls_family (hF t) hall (same_calls (HA.out (F t))), hK _ ?_⟩; clear hK K)
 repeat (refine WQ_step (fun K hK => ?_); go_simp; refine hK _ ?_; clear hK K)
 (refine WQ_step (fun K hK => ?_); go_simp; refine ⟨_, fun t => calls_family (hF t) hall (same_calls (HB.out (F t))), hK _ ?_⟩; clear hK K)
 repeat (refine WQ_step (fun K hK => ?_); go_simp; refine hK _ ?_; clear hK K)
 refine WQ_nil (fun t => ?_);have hft := hF t;obtain ⟨W2, hW2⟩ : ∃ W2, W2 = F t := ⟨_, rfl⟩
 rw [← hW2] at hft ⊢;clear hW2 hF hall hFc hFf hFs hNE;have hcf := bcell hft;have hzf := hft.size;have q0 := own2 (show Own W2 w.heap.size [.int .i64 lo, .int .i64 hi] by exact ownbq);have q1 := own2 (show Own W2 (w.heap.size + 1) [.int .i64 lo2, .int .i64 hi2] by exact ownbq);have q2 : Own W2 (w.heap.size + 1 + 1) [.int .i64 0, .int .i64 0] := ownbq;have q3 := own2 q2;have q4 := set2 q2;clear hcf hzf;go_wp2
 all_goals refine span_end (by rfl) (by rfl) ownbq (by simp) ?_
 all_goals refine ⟨?_, bel⟩
 all_goals clear q0 q1 q2 q3 q4 HA HB hft h1 h2
 all_goals refine ret2 ?_ ?_
 all_goals grind
section
section
variable {P : Program} (w : World)
theorem run_append2 (t ty e : TypeId) (i : TypeInfo) (z : Value) (size bytes : Nat) (ht : P.underlying t = some (.slice e)) (hi : P.info? e = some i) (hz : i.zero = some z)
 (hsize : i.size = size) (hby : i.bytes = bytes) (hzs : z.cells.size = size) (hsz : 0 < size)
 (v : Value) (n : Nat) (xs : List Value) (hown : w.ownsRow 0 e size v n xs)
 (a : Addr) (m c : Nat) (news : List Value) (hl : news.length = m * size) (hnews : ∀ j u, news[j]? = some u → w.cell? (a.add j) = some u) (h1 : ∀ u ∈ news, u.oneCell' = true)
 (h63 : n + m ≤ maxLen) (hbytes : (n + m) * bytes ≤ 140737488355328) :
 ∃ v' w', (Builtin.append_ #[t, t] ty #[v, .slice (some a) m c]).run P w = .ok v' w' ∧ w'.ownsRow 0 e size v' (n + m) (xs ++ news) ∧ w.grownBy w' v.ownBlock ∧
  (v'.ownBlock = v.ownBlock ∨ (v'.ownBlock = some w.heap.size ∧ Below w.heap.size w w')) := by
 obtain ⟨v', w', hr, h2, h3, _⟩ := run_append_own (P := P) w 0 t ty e i z size bytes ht hi hz hsize hby hzs hsz v n xs hown a m c news hl hnews h1 h63 hbytes (Nat.zero_le _);refine ⟨v', w', hr, h2, h3, ?_⟩;subst hsize hby;have hsmall : n + m ≤ 9223372036854775807 := by simp only [maxLen] at h63; omega
 rcases hown.2 with ⟨rfl, rfl⟩ | ⟨g, cap, cur, rfl, hbg, hg, hnc, hcm, hcs, htake⟩
 ·have hx : xs = [] := List.eq_nil_of_length_eq_zero (by simpa using hown.1);subst hx;by_cases hm : m = 0
  ·subst hm;have hn : news = [] := List.eq_nil_of_length_eq_zero (by simpa using hl);subst hn;left;have hr2 : (Builtin.append_ #[t, t] ty #[.slice none 0 0, .slice (some a) 0 c]).run P w = .ok (.slice none 0 0) w := by
    simp [Builtin.append_, run_underlying ht, sizeOf, typeInfo, hi, Builtin.lenOf, Builtin.firstCells, loadCells, loadCellsFrom]
   rw [hr2] at hr;cases hr;rfl
  ·right;have hr2 := run_append_nil (P := P) w t ty e i z ht hi hz a m c news hl hnews (by omega) (by omega) (by have hb := hbytes; simp only [Nat.zero_add] at hb; omega);rw [hr2] at hr;cases hr;exact ⟨rfl, (Below.drew (Below.refl _ _)).alloc (Nat.le_refl _) _⟩
 ·by_cases hroom : n + m ≤ cap
  ·left;have hfit : n * i.size + news.length ≤ cur.size := by rw [hl, hcs, ← Nat.add_mul]; exact Nat.mul_le_mul_right _ hroom
   have hr2 := run_append_room (P := P) w t ty e i ht hi g n cap cur hg a m c news hl hnews h1 hroom hfit;rw [hr2] at hr;cases hr;rfl
  ·right;have holds : ∀ j u, xs[j]? = some u → w.cell? ((⟨g, 0, none⟩ : Addr).add j) = some u := hown.cells (g := g) rfl;have hr2 := run_append_grow (P := P) w t ty e i z ht hi hz ⟨g, 0, none⟩ n cap xs hown.1 holds a m c news hl hnews (by omega) (by omega) (growslice_fits (by omega) hbytes);rw [hr2] at hr;cases hr;exact ⟨rfl, (Below.drew (Below.refl _ _)).alloc (Nat.le_refl _) _⟩
theorem wp_append2 {o : Oper} {a : Act} {K : Act → World → Prop} {Q : Exit → Act → World → Prop} (s x : Operand) (t : TypeId)
 (ho : o.op = .call { callee := .builtin .append, args := #[s, x], argTypes := #[t, t] })
 (e : TypeId) (i : TypeInfo) (z : Value) (size bytes : Nat) (ht : P.underlying t = some (.slice e)) (hi : P.info? e = some i) (hz : i.zero = some z)
 (hsize : i.size = size) (hby : i.bytes = bytes) (hzs : z.cells.size = size) (hsz : 0 < size)
 (v : Value) (n : Nat) (xs : List Value) (hs : a.eval s = v) (hown : w.ownsRow 0 e size v n xs)
 (ad : Addr) (m c : Nat) (news : List Value) (hx : a.eval x = .slice (some ad) m c) (hl : news.length = m * size) (hnews : ∀ j u, news[j]? = some u → w.cell? (ad.add j) = some u) (h1 : ∀ u ∈ news, u.oneCell' = true)
 (h63 : n + m ≤ maxLen) (hbytes : (n + m) * bytes ≤ 140737488355328)
 (h : ∀ v' w', w'.ownsRow 0 e size v' (n + m) (xs ++ news) → w.grownBy w' v.ownBlock → (v'.ownBlock = v.ownBlock ∨ (v'.ownBlock = some w.heap.size ∧ Below w.heap.size w w')) → K (a.put o.dst v') w') : o.wp P a w K Q := by
 obtain ⟨v', w', hr, h2, h3, h4⟩ := run_append2 (P := P) w t o.type e i z size bytes ht hi hz hsize hby hzs hsz v n xs hown ad m c news hl hnews h1 h63 hbytes;unfold Oper.wp execOp;simp only [ho, resolve, invoke, builtin, Sem.run_bind, Sem.run_pure, Result.andThen_ok, List.map_toArray, List.map_cons, List.map_nil, hs, hx, hr];exact h v' w' h2 h3 h4
theorem wpList_append2 {ops : Array Oper} {rest : List Oper} {o : Oper} {a : Act} {Q : Exit → Act → World → Prop} (hgd : o.guard = none) (s x : Operand) (t : TypeId)
 (ho : o.op = .call { callee := .builtin .append, args := #[s, x], argTypes := #[t, t] })
 (e : TypeId) (i : TypeInfo) (z : Value) (size bytes : Nat) (ht : P.underlying t = some (.slice e)) (hi : P.info? e = some i) (hz : i.zero = some z)
 (hsize : i.size = size) (hby : i.bytes = bytes) (hzs : z.cells.size = size) (hsz : 0 < size)
 (v : Value) (n : Nat) (xs : List Value) (hs : a.eval s = v) (hown : w.ownsRow 0 e size v n xs)
 (ad : Addr) (m c : Nat) (news : List Value) (hx : a.eval x = .slice (some ad) m c) (hl : news.length = m * size) (hnews : ∀ j u, news[j]? = some u → w.cell? (ad.add j) = some u) (h1 : ∀ u ∈ news, u.oneCell' = true)
 (h63 : n + m ≤ maxLen) (hbytes : (n + m) * bytes ≤ 140737488355328)
 (h : ∀ v' w', w'.ownsRow 0 e size v' (n + m) (xs ++ news) → w.grownBy w' v.ownBlock → (v'.ownBlock = v.ownBlock ∨ (v'.ownBlock = some w.heap.size ∧ Below w.heap.size w w')) → wpList P ops Q rest (a.put o.dst v') w') : wpList P ops Q (o :: rest) a w :=
 wpList_plain hgd fun _ hK => wp_append2 w s x t ho e i z size bytes ht hi hz hsize hby hzs hsz v n xs hs hown ad m c news hx hl hnews h1 h63 hbytes fun v' w' h2 h3 h4 => hK _ _ (h v' w' h2 h3 h4)
end
end
/-- all blocks that were there, but those of S, are as they were -/
structure Chg (S : Nat → Prop) (w w' : World) : Prop where
 os : w'.os = w.os
 tape : w'.tape = w.tape
 output : w'.output = w.output
 size : w.heap.size ≤ w'.heap.size
 block : ∀ k, k < w.heap.size → ¬ S k → w'.heap[k]? = w.heap[k]?
theorem Chg.refl (S : Nat → Prop) (w : World) : Chg S w w := ⟨rfl, rfl, rfl, Nat.le_refl _, fun _ _ _ => rfl⟩
theorem Chg.alloc {S : Nat → Prop} {a w : World} (h : Chg S a w) (o : Obj) : Chg S a (w.alloc o) :=
 ⟨h.os, h.tape, h.output, by have := h.size; simp; omega, fun k hk hs => by rw [Below.heap_alloc _ _ _ (by have := h.size; omega)]; exact h.block k hk hs⟩
theorem Chg.drew {S : Nat → Prop} {a w : World} (h : Chg S a w) : Chg S a w.drew := ⟨h.os, h.tape, h.output, h.size, h.block⟩
theorem Chg.drewN {S : Nat → Prop} {a w : World} (h : Chg S a w) (n : Nat) : Chg S a (w.drewN n) := ⟨h.os, h.tape, h.output, h.size, h.block⟩
theorem Chg.setCell {S : Nat → Prop} {a w : World} (h : Chg S a w) {p : Addr} (hp : S p.block ∨ a.heap.size ≤ p.block) (u : Value) : Chg S a (w.setCell p u) :=
 ⟨h.os, h.tape, h.output, by have := h.size; simpa using this, fun k hk hs => by rw [Below.heap_setCell _ _ _ _ (by rcases hp with hp | hp <;> intro e <;> subst e <;> first | exact hs hp | omega)]; exact h.block k hk hs⟩
theorem Chg.trans {S : Nat → Prop} {a b c : World} (h : Chg S a b) (k : Chg S b c) : Chg S a c :=
 ⟨k.os.trans h.os, k.tape.trans h.tape, k.output.trans h.output, Nat.le_trans h.size k.size, fun i hi hs => (k.block i (Nat.lt_of_lt_of_le hi h.size) hs).trans (h.block i hi hs)⟩
theorem Chg.mono {S T : Nat → Prop} {a b : World} (h : Chg S a b) (hst : ∀ k, k < a.heap.size → S k → T k) : Chg T a b := ⟨h.os, h.tape, h.output, h.size, fun i hi hs => h.block i hi (fun x => hs (hst i hi x))⟩
theorem Chg.of {S : Nat → Prop} {w w' : World} (h : Below w.heap.size w w') : Chg S w w' := ⟨h.os, h.tape, h.output, h.size, fun k hk _ => h.block k hk⟩
theorem Chg.below {S : Nat → Prop} {w w' : World} (h : Chg S w w') (B : Nat) (hB : B ≤ w.heap.size) (hs : ∀ k, k < B → ¬ S k) : Below B w w' := ⟨h.os, h.tape, h.output, h.size, fun k hk => h.block k (by omega) (hs k hk)⟩
theorem Chg.own {S : Nat → Prop} {w w' : World} (h : Chg S w w') {k : Nat} {cs : List Value} (o : Own w k cs) (hk : ¬ S k) : Own w' k cs := by
 have hb := h.block k o.1 hk;exact ⟨Nat.lt_of_lt_of_le o.1 h.size, fun i v hv => by rw [World.cell?_of_block (w := w) hb]; exact o.2.1 i v hv, fun i => by rw [World.frozen?_of_block (w := w) hb]; exact o.2.2 i⟩
theorem Chg.same {S : Nat → Prop} {w w' : World} (h : Chg S w w') {B : Nat} (hB : B ≤ w.heap.size) (hs : ∀ k, k < B → ¬ S k) : Same B w w' := Same.of' (h.below B hB hs)
theorem Chg.trans2 {S T : Nat → Prop} {a b c : World} (h : Chg S a b) (k : Chg T b c) (hT : ∀ x, x < a.heap.size → T x → S x) : Chg S a c :=
 ⟨k.os.trans h.os, k.tape.trans h.tape, k.output.trans h.output, Nat.le_trans h.size k.size, fun i hi hs => (k.block i (Nat.lt_of_lt_of_le hi h.size) (fun e => hs (hT i hi e))).trans (h.block i hi hs)⟩
theorem Chg.cellAt {S : Nat → Prop} {w w' : World} (h : Chg S w w') {b : Nat} (o : Nat) (hb : b < w.heap.size) (hs : ¬ S b) : w'.cell? ⟨b, o, none⟩ = w.cell? ⟨b, o, none⟩ := World.cell?_of_block (h.block b hb hs)
theorem chg_grown {w w' : World} {row : Option Nat} (h : w.grownBy w' row) : Chg (fun k => row = some k) w w' := ⟨h.os, h.tape, h.output, h.size, fun k hk hn => h.block k hk (fun e => hn e.symm)⟩
theorem row_chg {S : Nat → Prop} {w w' : World} (c : Chg S w w') {e size n : Nat} {v : Value} {xs : List Value} (h : w.ownsRow 0 e size v n xs) (hg : ∀ k, v.ownBlock = some k → ¬ S k) : w'.ownsRow 0 e size v n xs := by
 obtain ⟨h1, h2⟩ := h;refine ⟨h1, ?_⟩;rcases h2 with h2 | ⟨g, cap, cur, rfl, hb, hh, rest⟩
 ·exact .inl h2
 ·exact .inr ⟨g, cap, cur, rfl, hb, by rw [c.block g (Array.getElem?_eq_some_iff.1 hh).1 (hg g rfl)]; exact hh, rest⟩
theorem row_below {w w' : World} (c : Below w.heap.size w w') {e size n : Nat} {v : Value} {xs : List Value} (h : w.ownsRow 0 e size v n xs) : w'.ownsRow 0 e size v n xs :=
 row_chg (S := fun _ => False) (Chg.of c) h (fun _ _ h => h)
theorem row_lt {w : World} {e size n : Nat} {v : Value} {xs : List Value} (h : w.ownsRow 0 e size v n xs) {k : Nat} (hk : v.ownBlock = some k) : k < w.heap.size := (h.lt k hk).2
theorem row_ltB {w : World} {e size n g c : Nat} {xs : List Value} (h : w.ownsRow 0 e size (.slice (some ⟨g, 0, none⟩) n c) n xs) : g < w.heap.size := row_lt h rfl
theorem row_form {w : World} {e size n : Nat} {v : Value} {xs : List Value} (h : w.ownsRow 0 e size v n xs) : (v = .slice none 0 0 ∧ n = 0 ∧ xs = []) ∨ ∃ g cap, v = .slice (some ⟨g, 0, none⟩) n cap ∧ n ≤ cap ∧ cap ≤ maxLen ∧ g < w.heap.size := by
 obtain ⟨h1, h2⟩ := h;rcases h2 with ⟨rfl, rfl⟩ | ⟨g, cap, cur, rfl, _, hh, q1, q2, _⟩
 ·exact .inl ⟨rfl, rfl, List.eq_nil_of_length_eq_zero (by simpa using h1)⟩
 ·exact .inr ⟨g, cap, rfl, q1, q2, (Array.getElem?_eq_some_iff.1 hh).1⟩
theorem row_pos {w : World} {e size n : Nat} {v : Value} {xs : List Value} (h : w.ownsRow 0 e size v n xs) (hn : 0 < n) : ∃ g cap, v = .slice (some ⟨g, 0, none⟩) n cap ∧ n ≤ cap ∧ cap ≤ maxLen ∧ g < w.heap.size := by
 rcases row_form h with ⟨_, h0, _⟩ | h
 ·omega
 ·exact h
theorem row_cell {w : World} {e size b n cap : Nat} {xs : List Value} (h : w.ownsRow 0 e size (.slice (some ⟨b, 0, none⟩) n cap) n xs) {j : Nat} {u : Value} (hu : xs[j]? = some u) : w.cell? ⟨b, j, none⟩ = some u := by
 have := h.cells (g := b) rfl j u hu;unfold Addr.add at this;split at this
 ·rename_i e0; subst e0; exact this
 ·simpa using this
/-- what an index's write leaves -/
theorem row_set {w : World} {e size b n cap : Nat} {xs : List Value} (h : w.ownsRow 0 e size (.slice (some ⟨b, 0, none⟩) n cap) n xs) (j : Nat) (u : Value) : (w.setCell ⟨b, j, none⟩ u).ownsRow 0 e size (.slice (some ⟨b, 0, none⟩) n cap) n (xs.set j u) := (h.stored j u).1
/-- a shorter row -/
theorem row_take {w : World} {e size b n cap : Nat} {xs : List Value} (h : w.ownsRow 0 e size (.slice (some ⟨b, 0, none⟩) n cap) n xs) (m : Nat) (hm : m ≤ n) : w.ownsRow 0 e size (.slice (some ⟨b, 0, none⟩) m cap) m (xs.take (m * size)) := by
 obtain ⟨h1, h2⟩ := h;have hmul : m * size ≤ n * size := Nat.mul_le_mul_right _ hm;refine ⟨by rw [List.length_take, h1]; omega, ?_⟩;rcases h2 with ⟨h0, _⟩ | ⟨g', cap', cur, hv, hb, hh, q1, q2, q3, q4⟩
 ·cases h0
 ·cases hv;exact .inr ⟨b, cap, cur, rfl, hb, hh, by omega, q2, q3, by rw [← q4, List.take_take, Nat.min_eq_left hmul]⟩
def Nums (l : List Int) : List Value := l.map (Value.int .i64)
theorem Nums_some {l : List Int} {i : Nat} {v : Int} (h : l[i]? = some v) : (Nums l)[i]? = some (.int .i64 v) := by simp [Nums, h]
theorem Nums_one (l : List Int) : ∀ v ∈ Nums l, v.oneCell' = true := by
 intro v hv; obtain ⟨n, _, rfl⟩ := List.mem_map.1 hv; rfl
theorem Nums_len (l : List Int) : (Nums l).length = l.length := by simp [Nums]
theorem Nums_append (l k : List Int) : Nums (l ++ k) = Nums l ++ Nums k := by simp [Nums]
def Bools (l : List Bool) : List Value := l.map Value.bool
theorem Tryd.infoI : (Tryd.prog.info? 3).map (fun i => (i.zero, i.size, i.bytes)) = some (some (.int .i64 0), 1, 8) := by kernel_rfl
theorem Tryd.info64 : (Tryd.prog.info? 2).map (fun i => (i.zero, i.size, i.bytes)) = some (some (.int .i64 0), 1, 8) := by kernel_rfl
/-- append of elements that lie in memory to an own row -/
theorem wpList_app {P : Program} {w : World} {ops : Array Oper} {rest : List Oper} {o : Oper} {a : Act} {Q : Exit → Act → World → Prop} (hgd : o.guard = none) (s x : Operand) (t e size bytes : Nat) (z : Value)
 (ho : o.op = .call { callee := .builtin .append, args := #[s, x], argTypes := #[t, t] }) (ht : P.underlying t = some (.slice e)) (hinfo : (P.info? e).map (fun i => (i.zero, i.size, i.bytes)) = some (some z, size, bytes)) (hzs : z.cells.size = size) (hsz : 0 < size)
 (v : Value) (n : Nat) (xs : List Value) (hs : a.eval s = v) (hown : w.ownsRow 0 e size v n xs)
 (ad : Addr) (m c : Nat) (news : List Value) (hx : a.eval x = .slice (some ad) m c) (hl : news.length = m * size) (hnews : ∀ j u, news[j]? = some u → w.cell? (ad.add j) = some u) (h1 : ∀ u ∈ news, u.oneCell' = true)
 (h63 : n + m ≤ maxLen) (hbytes : (n + m) * bytes ≤ 140737488355328) (hm : 0 < m)
 (h : ∀ g' cap' w', w'.ownsRow 0 e size (.slice (some ⟨g', 0, none⟩) (n + m) cap') (n + m) (xs ++ news) → Chg (fun k => v.ownBlock = some k) w w' → (v.ownBlock = some g' ∨ g' = w.heap.size) → wpList P ops Q rest (a.put o.dst (.slice (some ⟨g', 0, none⟩) (n + m) cap')) w') : wpList P ops Q (o :: rest) a w := by
 obtain ⟨i0, hi, iz0, iz1, iz2⟩ := info_parts hinfo;refine wpList_append2 w hgd s x t ho e i0 z size bytes ht hi iz0 iz1 iz2 hzs hsz v n xs hs hown ad m c news hx hl hnews h1 h63 hbytes ?_;intro v' w' h2 h3 h4;obtain ⟨g', cap', rfl, _, _, _⟩ := row_pos h2 (by omega);refine h g' cap' w' h2 (chg_grown h3) ?_;rcases h4 with e | ⟨e, _⟩
 ·left; rw [← e]; rfl
 ·right; simpa [Value.ownBlock] using e
/-- likewise, in a region that draws its order -/
theorem step_app {P : Program} {w : World} {ops : Array Oper} {o : Oper} {a : Act} {K : Act → World → Prop} {Q : Exit → Act → World → Prop} {E : Prop} (hgd : o.guard = none) (s x : Operand) (t e size bytes : Nat) (z : Value)
 (ho : o.op = .call { callee := .builtin .append, args := #[s, x], argTypes := #[t, t] }) (ht : P.underlying t = some (.slice e)) (hinfo : (P.info? e).map (fun i => (i.zero, i.size, i.bytes)) = some (some z, size, bytes)) (hzs : z.cells.size = size) (hsz : 0 < size)
 (v : Value) (n : Nat) (xs : List Value) (hs : a.eval s = v) (hown : w.ownsRow 0 e size v n xs)
 (ad : Addr) (m c : Nat) (news : List Value) (hx : a.eval x = .slice (some ad) m c) (hl : news.length = m * size) (hnews : ∀ j u, news[j]? = some u → w.cell? (ad.add j) = some u) (h1 : ∀ u ∈ news, u.oneCell' = true)
 (h63 : n + m ≤ maxLen) (hbytes : (n + m) * bytes ≤ 140737488355328) (hm : 0 < m)
 (h : ∀ g' cap' w', w'.ownsRow 0 e size (.slice (some ⟨g', 0, none⟩) (n + m) cap') (n + m) (xs ++ news) → Chg (fun k => v.ownBlock = some k) w w' → (v.ownBlock = some g' ∨ g' = w.heap.size) → K (a.put o.dst (.slice (some ⟨g', 0, none⟩) (n + m) cap')) w') : if Region.wanted o (yielded ops a.tmps) = true then o.wp P a w K Q else E := by
 obtain ⟨i0, hi, iz0, iz1, iz2⟩ := info_parts hinfo;have hw : Region.wanted o (yielded ops a.tmps) = true := by simp [Region.wanted, hgd]
 rw [if_pos hw];refine wp_append2 w s x t ho e i0 z size bytes ht hi iz0 iz1 iz2 hzs hsz v n xs hs hown ad m c news hx hl hnews h1 h63 hbytes ?_;intro v' w' h2 h3 h4;obtain ⟨g', cap', rfl, _, _, _⟩ := row_pos h2 (by omega);refine h g' cap' w' h2 (chg_grown h3) ?_;rcases h4 with e | ⟨e, _⟩
 ·left; rw [← e]; rfl
 ·right; simpa [Value.ownBlock] using e
/-- append of nothing -/
theorem wpList_app0 {P : Program} {w : World} {ops : Array Oper} {rest : List Oper} {o : Oper} {a : Act} {Q : Exit → Act → World → Prop} (hgd : o.guard = none) (s x : Operand) (t e size bytes : Nat) (z : Value)
 (ho : o.op = .call { callee := .builtin .append, args := #[s, x], argTypes := #[t, t] }) (ht : P.underlying t = some (.slice e)) (hinfo : (P.info? e).map (fun i => (i.zero, i.size, i.bytes)) = some (some z, size, bytes))
 (v : Value) (n : Nat) (xs : List Value) (hs : a.eval s = v) (hown : w.ownsRow 0 e size v n xs) (hx : a.eval x = .slice none 0 0)
 (h : wpList P ops Q rest (a.put o.dst v) w) : wpList P ops Q (o :: rest) a w := by
 obtain ⟨i0, hi, iz0, iz1, iz2⟩ := info_parts hinfo;refine wpList_plain hgd fun K hK => ?_;have hr := run_append_owned_none (P := P) w 0 t o.type e i0 size ht hi v n xs hown;unfold Oper.wp execOp;simp only [ho, resolve, invoke, builtin, Sem.run_bind, Sem.run_pure, Result.andThen_ok, List.map_toArray, List.map_cons, List.map_nil, hs, hx, hr];exact hK _ _ h
/-- the source of an append: a literal, made just before -/
theorem src_lit {w : World} (cs : List Value) (t : TypeId) (k : Nat) (hk : k = w.heap.size) : ∀ j u, cs[j]? = some u → (w.alloc (.cells cs.toArray t)).cell? ((⟨k, 0, none⟩ : Addr).add j) = some u := by
 intro j u hu;subst hk;rw [show (⟨w.heap.size, 0, none⟩ : Addr).add j = ⟨w.heap.size, j, none⟩ from by unfold Addr.add; split <;> simp_all];exact (Own.new w cs t).2.1 j u hu
theorem src_own {w : World} {k : Nat} {cs : List Value} (h : Own w k cs) : ∀ j u, cs[j]? = some u → w.cell? ((⟨k, 0, none⟩ : Addr).add j) = some u := by
 intro j u hu;rw [show (⟨k, 0, none⟩ : Addr).add j = ⟨k, j, none⟩ from by unfold Addr.add; split <;> simp_all];exact h.2.1 j u hu
theorem src_at {w : World} (cs : List Value) (b o : Nat) (h : ∀ j u, cs[j]? = some u → w.cell? ⟨b, o + j, none⟩ = some u) : ∀ j u, cs[j]? = some u → w.cell? ((⟨b, o, none⟩ : Addr).add j) = some u := by
 intro j u hu;have := h j u hu;unfold Addr.add;split
 ·rename_i e; subst e; exact this
 ·exact this
/-- an index into an array's value, its answer given -/
theorem wpList_index {P : Program} {w : World} {ops : Array Oper} {rest : List Oper} {o : Oper} {a : Act} {Q : Exit → Act → World → Prop} (hgd : o.guard = none) (x ix : Operand) (T : TypeId) (ho : o.op = .index T x ix) (u : Value)
 (hrun : (Instr.index T (a.eval x) (a.eval ix)).run P w = .ok u w) (h : wpList P ops Q rest (a.put o.dst u) w) : wpList P ops Q (o :: rest) a w := by
 refine wpList_plain hgd fun K hK => ?_;unfold Oper.wp execOp;simp only [ho, Sem.run_bind, Sem.run_pure, Result.andThen_ok, hrun];exact hK _ _ h
theorem chq {S : Nat → Prop} {a w : World} (h : Chg S a w := by repeat (first | with_reducible exact Chg.refl _ _ | with_reducible assumption | with_reducible refine Chg.drew ?_ | with_reducible refine Chg.drewN ?_ _ | with_reducible refine Chg.alloc ?_ _ | with_reducible refine Chg.setCell ?_ (by first | with_reducible exact .inl rfl | exact .inl (.inl rfl) | exact .inl (.inr rfl) | exact .inr (by simp)) _ | (with_reducible refine Chg.trans ?_ (Chg.of (by first | with_reducible assumption | exact hF _))))) : Chg S a w := h
def hullF (out : PSpan) (n : Int) : PSpan := joinP out ⟨n, n⟩
def hullL (l : List Int) : PSpan := l.foldl hullF ⟨l.getD 0 0, l.getD 0 0⟩
def hullP (l : List Int) (all : Bool) : PSpan := if all then hullL l else allP
theorem foldl_take_succ {α β : Type} (f : β → α → β) (d : α) (l : List α) (j : Nat) (hj : j < l.length) (z : β) : (l.take (j + 1)).foldl f z = f ((l.take j).foldl f z) (l.getD j d) := by
 rw [List.take_add_one, List.getElem?_eq_getElem hj, Option.toList_some, List.foldl_append];simp [List.getD_eq_getElem?_getD, List.getElem?_eq_getElem hj]
theorem shull_any (b o n cap : Nat) (l : List Int) (all : Bool) (w : World) (hb : b < w.heap.size) (hn : n = l.length) (hm : n ≤ maxLen) (hpos : 0 < n) (hc : ∀ i, i < n → w.cell? ⟨b, o + i, none⟩ = some (.int .i64 (l.getD i 0))) :
 Calls Tryd.prog 54 #[.slice (some ⟨b, o, none⟩) n cap, .bool all] w fun e w' => e = .returned (spanV (hullP l all)) ∧ Below w.heap.size w w' := by
 have HJ := Lib.hid (fun (x y : Int) n w => sjoin_any ⟨x, y⟩ ⟨n, n⟩ w);have HA := Lib.hid sall_any;subst hn;have HC := Lib.hid hc; clear hc;unfold hullP;unfold spanV at HJ HA ⊢;unfold allP at *;dsimp only at *;cases all
 ·simp only [Bool.false_eq_true, if_false];go_enter Tryd.func54, Tryd.ntmps54;go_wp2_with (first | (go_at_call 43; refine (HA.out _).mono ?_; rintro e w1 ⟨rfl, hb1⟩; have q0 : Own w1 w.heap.size [.int .i64 0, .int .i64 0] := (Own.new w _ _).below hb1; have q1 := own2 q0; have q2 := set2 q0; have hz1 := hb1.size) | fail)
  refine span_end (by rfl) (by rfl) ownbq (by simp) ?_;exact ⟨rfl, bel⟩
 ·simp only [if_true];have c0 := HC.out 0 hpos;have hm' : l.length ≤ 9223372036854775807 := hm;rw [Nat.add_zero] at c0;have hn0 : (0 : Int) < l.length := by omega
  unfold hullL;generalize l.getD 0 0 = x0 at *;go_enter Tryd.func54, Tryd.ntmps54;go_wp2
  go_region
  generalize hW : World.drew _ = W0;have hb0 : Below w.heap.size w W0 := by rw [← hW]; exact bel
  have o0 : Own W0 w.heap.size [.int .i64 0, .int .i64 0] := by rw [← hW]; exact ownbq
  have o1 : Own W0 (w.heap.size + 1) [.int .i64 (x0), .int .i64 (x0)] := by rw [← hW]; exact ownbq
  clear hW c0;go_wp2;go_loopw [20] (fun i wr => ∃ j : Nat, j ≤ l.length ∧ i = .int .i64 j ∧ Below w.heap.size w wr ∧ Hid (Own wr w.heap.size [.int .i64 0, .int .i64 0]) ∧ Hid (Own wr (w.heap.size + 1) [.int .i64 ((l.take j).foldl hullF ⟨x0, x0⟩).lo, .int .i64 ((l.take j).foldl hullF ⟨x0, x0⟩).hi])) (fun i _ => l.length - (intOf i).toNat)
  case atStart => exact ⟨0, Nat.zero_le _, rfl, hb0, Lib.hid o0, Lib.hid o1⟩
  case round =>
   clear o0 o1 hb0;obtain ⟨j, hj, rfl, hbr, h0, h1⟩ := hrel;have q0 := own2 h0.out;have q1 := own2 h1.out;have q2 := set2 h0.out;have q3 := set2 h1.out;by_cases hlt : j < l.length
   ·have d2 : (j : Int) < (l.length : Int) := by omega
    have hwk : IntKind.i64.wrap ((j : Int) + 1) = (j : Int) + 1 := IntWalk.i64_in _ (by omega);have c0 := ((bcell hbr).1 b (o + j) hb).trans (HC.out j hlt);have hS := Lib.hid (foldl_take_succ hullF 0 l j (by omega) ⟨x0, x0⟩);generalize List.foldl hullF ⟨x0, x0⟩ (l.take j) = P at *;obtain ⟨plo, phi⟩ := P;generalize l.getD j 0 = x at *;dsimp only at *;go_wp2_with (first | (go_at_call 10; refine (HJ.out _ _ _ _).mono ?_; rintro e w1 ⟨rfl, hb1⟩; have h2 := h0.out.below hb1; have h3 := h1.out.below hb1; have r2 := own2 h2; have r3 := own2 h3; have s3 := set2 h3; have hz1 := hb1.size) | fail)
    go_roundw
    case rel => exact ⟨j + 1, by omega, by simp, bel, Lib.hid ownbq, Lib.hid (by rw [hS.out]; unfold hullF; exact ownbq)⟩
    case measure => go_light; first | omega | (simp only [intOf]; omega)
   ·have hjk : j = l.length := by omega
    subst hjk;have d2 : ¬ (l.length : Int) < (l.length : Int) := by omega
    have hS : l.foldl hullF ⟨x0, x0⟩ = (l.take l.length).foldl hullF ⟨x0, x0⟩ := by rw [List.take_length]
    generalize List.foldl hullF ⟨x0, x0⟩ (l.take l.length) = P at *;obtain ⟨plo, phi⟩ := P;dsimp only at *;have HS := Lib.hid hS; clear hS;have g0 := h0.out;go_wp2;refine span_end (by rfl) (by rfl) ownbq (by simp) ?_;exact ⟨by rw [HS.out], bel⟩
def divF (a b : PSpan) (d : Int) : List Int := if d ≠ 0 ∧ hasP b d = true then [IntKind.i64.wrap (a.lo.tdiv d), IntKind.i64.wrap (a.hi.tdiv d)] else []
def divL (a b : PSpan) : List Int := [b.lo, b.hi, -1, 1].flatMap (divF a b)
def divTo (a b : PSpan) (j : Nat) : List Int := ([b.lo, b.hi, -1, 1].take j).flatMap (divF a b)
def dividedP (a b : PSpan) : PSpan := if a.lo = -9223372036854775808 ∧ hasP b (-1) = true then allP else hullP (divL a b) true
theorem divF_len (a b : PSpan) (d : Int) : (divF a b d).length ≤ 2 := by unfold divF; split <;> simp
theorem divTo_len (a b : PSpan) (j : Nat) : (divTo a b j).length ≤ 8 := by
 have h := divF_len a b;have h0 := h b.lo; have h1 := h b.hi; have h2 := h (-1); have h3 := h 1;unfold divTo
 match j with
 | 0 => simp
 | 1 => simp; omega
 | 2 => simp; omega
 | 3 => simp; omega
 | j + 4 => simp; omega
theorem divTo_at (a b : PSpan) (j : Nat) (hj : j < 4) : divTo a b (j + 1) = divTo a b j ++ divF a b ([b.lo, b.hi, -1, 1].getD j 0) := by
 rcases (show j = 0 ∨ j = 1 ∨ j = 2 ∨ j = 3 by omega) with rfl | rfl | rfl | rfl <;> simp [divTo]
theorem divL_pos (a b : PSpan) (h : b.lo ≤ b.hi) (h2 : ¬ (b.lo = 0 ∧ b.hi = 0)) : 0 < (divL a b).length := by
 unfold divL;simp only [List.flatMap_cons, List.length_append];by_cases h3 : b.lo = 0
 ·have : (divF a b b.hi).length = 2 := by unfold divF hasP; rw [if_pos ⟨by omega, by simp; omega⟩]; rfl
  omega
 ·have : (divF a b b.lo).length = 2 := by unfold divF hasP; rw [if_pos ⟨h3, by simp; omega⟩]; rfl
  omega
theorem shas_is (a : PSpan) (n : Int) (v : Bool) (w : World) (h : hasP a n = v) : Calls Tryd.prog 60 #[.agg #[.int .i64 a.lo, .int .i64 a.hi], .int .i64 n] w fun e w' => e = .returned (.bool v) ∧ Below w.heap.size w w' := by
 subst h; exact shas_any a n w
theorem sdivided_any (a b : PSpan) (w : World) (h : b.lo ≤ b.hi) (h2 : ¬ (b.lo = 0 ∧ b.hi = 0)) : Calls Tryd.prog 58 #[spanV a, spanV b] w fun e w' => e = .returned (spanV (dividedP a b)) ∧ Below w.heap.size w w' := by
 have HH := Lib.hid (fun (n : Int) v w => shas_is b n v w);have HA := Lib.hid sall_any;have HP := Lib.hid (divL_pos a b h h2);have HL := Lib.hid (divTo_len a b);have HT := Lib.hid (divTo_at a b);have HU := Lib.hid (fun w g o n cap => shull_any g o n cap (divL a b) true w);have HD : dividedP a b = if a.lo = -9223372036854775808 ∧ hasP b (-1) = true then allP else hullP (divL a b) true := rfl
 generalize dividedP a b = R at *;have h1 : hasP b (-1) = true ∨ hasP b (-1) = false := by cases hasP b (-1) <;> simp
 obtain ⟨lo, hi⟩ := a;obtain ⟨lo2, hi2⟩ := b;unfold spanV at HA HU ⊢;dsimp only at *;by_cases hlo : lo = -9223372036854775808
 ·subst hlo;rcases h1 with h1 | h1
  ·rw [if_pos ⟨rfl, h1⟩] at HD;subst HD;unfold allP at *;dsimp only at *;go_enter Tryd.func58, Tryd.ntmps58;go_wp2_with (first | (go_at_call 60; refine (HH.out _ _ _ h1).mono ?_; rintro e w1 ⟨rfl, hb1⟩; have hc1 := bcell hb1; have hz1 := hb1.size) | fail)
   refine (HA.out _).mono ?_;rintro e w2 ⟨rfl, hb2⟩;have q0 : Own w2 (w.heap.size + 1 + 1) [.int .i64 0, .int .i64 0] := (show Own w1 (w.heap.size + 1 + 1) [.int .i64 0, .int .i64 0] by exact ownbq).below hb2;have q1 := own2 q0;have q2 := set2 q0;have hz2 := hb2.size;go_wp2;refine span_end (by rfl) (by rfl) ownbq (by simp) ?_;exact ⟨rfl, bel⟩
  ·rw [if_neg (by simp [h1])] at HD;subst HD;go_enter Tryd.func58, Tryd.ntmps58;go_wp2_with (first | (go_at_call 60; refine (HH.out _ _ _ h1).mono ?_; rintro e w1 ⟨rfl, hb1⟩; have hc1 := bcell hb1; have hz1 := hb1.size) | fail)
   obtain ⟨hb0, o0, o1, o2⟩ : Below w.heap.size w w1 ∧ Own w1 w.heap.size [.int .i64 (-9223372036854775808), .int .i64 hi] ∧ Own w1 (w.heap.size + 1) [.int .i64 lo2, .int .i64 hi2] ∧ Own w1 (w.heap.size + 1 + 1) [.int .i64 0, .int .i64 0] := ⟨bel, ownbq, ownbq, ownbq⟩
   clear hc1 hz1 hb1;go_loopw [5, 21] (fun v i wr => ∃ j : Nat, j ≤ 4 ∧ i = .int .i64 j ∧ Below w.heap.size w wr ∧ Hid (Own wr w.heap.size [.int .i64 (-9223372036854775808), .int .i64 hi]) ∧ Hid (Own wr (w.heap.size + 1) [.int .i64 lo2, .int .i64 hi2]) ∧ Hid (Own wr (w.heap.size + 1 + 1) [.int .i64 0, .int .i64 0]) ∧ (∀ k, v.ownBlock = some k → w.heap.size + 3 ≤ k) ∧ Hid (wr.ownsRow 0 2 1 v (divTo ⟨(-9223372036854775808), hi⟩ ⟨lo2, hi2⟩ j).length (Nums (divTo ⟨(-9223372036854775808), hi⟩ ⟨lo2, hi2⟩ j)))) (fun v i _ => 4 - (intOf i).toNat)
   case atStart => exact ⟨0, Nat.zero_le _, rfl, hb0, Lib.hid o0, Lib.hid o1, Lib.hid o2, by simp [Value.ownBlock], Lib.hid (World.ownsRow_nil _ _ _ _)⟩
   case round =>
    clear o0 o1 o2 hb0;obtain ⟨j, hj, rfl, hbr, h0, h3, h4, hvb, hv⟩ := hrel;have q0 := own2 h0.out;have q1 := own2 h3.out;by_cases hlt : j < 4
    ·have d2 : (j : Int) < 4 := by omega
     have hwk : IntKind.i64.wrap ((j : Int) + 1) = (j : Int) + 1 := IntWalk.i64_in _ (by omega);have hT := HT.out j hlt;obtain ⟨d, hd⟩ : ∃ d, d = [lo2, hi2, -1, 1].getD j 0 := ⟨_, rfl⟩
     have hix : ∀ w, (Instr.index 134 (.agg #[.int .i64 lo2, .int .i64 hi2, .int .i64 (-1), .int .i64 1]) (.int .i64 j)).run Tryd.prog w = .ok (.int .i64 d) w := by
      subst hd; rcases (show j = 0 ∨ j = 1 ∨ j = 2 ∨ j = 3 by omega) with rfl | rfl | rfl | rfl <;> exact fun w => rfl
     rw [← hd] at hT;clear hd;have HTj := Lib.hid hT; clear hT;by_cases hd0 : d = 0
     ·have hF : divF ⟨(-9223372036854775808), hi⟩ ⟨lo2, hi2⟩ d = [] := by unfold divF; rw [if_neg (by simp [hd0])]
      have HF := Lib.hid hF; clear hF;go_wp2_with (refine wpList_index rfl (.tmp 20) (.tmp 21) 134 rfl _ (hix _) ?_)
      go_roundw
      case rel => exact ⟨j + 1, by omega, by simp, hbr, h0, h3, h4, hvb, Lib.hid (by rw [HTj.out, HF.out, List.append_nil]; exact hv.out)⟩
      case measure => go_light; first | omega | (simp only [intOf]; omega)
     ·rcases (show hasP ⟨lo2, hi2⟩ d = true ∨ hasP ⟨lo2, hi2⟩ d = false by cases hasP ⟨lo2, hi2⟩ d <;> simp) with hs | hs
      ·have hF : divF ⟨(-9223372036854775808), hi⟩ ⟨lo2, hi2⟩ d = [IntKind.i64.wrap (-Int.tdiv 9223372036854775808 d), IntKind.i64.wrap (Int.tdiv hi d)] := by unfold divF; rw [if_pos ⟨hd0, hs⟩, ← Int.neg_tdiv]
       have HF := Lib.hid hF; clear hF;go_wp2_with (first | (refine wpList_index rfl (.tmp 20) (.tmp 21) 134 rfl _ (hix _) ?_) | (go_at_call 60; refine (HH.out _ _ _ hs).mono ?_; rintro e w3 ⟨rfl, hb3⟩; have hc3 := bcell hb3; have hz3 := hb3.size) | fail)
       have hln := HL.out j;have hrow := row_below hb3 hv.out
       go_region_law (refine step_app rfl (.tmp 31) (.tmp 40) 26 2 1 8 (.int .i64 0) rfl Tryd.underlying26 Tryd.info64 rfl (by decide) _ _ _ rfl (row_below bel hrow) ⟨w3.heap.size, 0, none⟩ 2 2 (Nums [IntKind.i64.wrap (-Int.tdiv 9223372036854775808 d), IntKind.i64.wrap (Int.tdiv hi d)]) rfl rfl (src_own (Own.drew (Own.new' _ _ _ _ (by simp)))) (Nums_one _) (by unfold maxLen; omega) (by omega) (by decide) ?_; intro g2 cap2 w4 hb4 hc4 hg4)
       all_goals (
        have hc5 : Chg (fun k => u5.ownBlock = some k) wr w4 := (((Chg.of hb3).alloc _).drew).trans hc4;have h45 := h4.out.1;go_wp2;refine ⟨⟨j + 1, by omega, by simp, hbr.trans (hc5.below _ hbr.size (fun k hk e => by have := hvb k e; omega)), Lib.hid (hc5.own h0.out (fun e => by have := hvb _ e; omega)), Lib.hid (hc5.own h3.out (fun e => by have := hvb _ e; omega)), Lib.hid (hc5.own h4.out (fun e => by have := hvb _ e; omega)), ?_, Lib.hid ?_⟩, ?_⟩
        ·intro k hk;have hk' : g2 = k := by simpa [Value.ownBlock] using hk
         subst hk';rcases hg4 with h | h
         ·exact hvb _ h
         ·have := hb3.size; simp at h; omega
        ·rw [HTj.out, HF.out, Nums_append, List.length_append]; exact hb4
        ·go_light; first | omega | (simp only [intOf]; omega))
      ·have hF : divF ⟨(-9223372036854775808), hi⟩ ⟨lo2, hi2⟩ d = [] := by unfold divF; rw [if_neg (by simp [hs])]
       have HF := Lib.hid hF; clear hF;go_wp2_with (first | (refine wpList_index rfl (.tmp 20) (.tmp 21) 134 rfl _ (hix _) ?_) | (go_at_call 60; refine (HH.out _ _ _ hs).mono ?_; rintro e w3 ⟨rfl, hb3⟩; have hc3 := bcell hb3; have hz3 := hb3.size) | fail)
       go_roundw
       case rel => exact ⟨j + 1, by omega, by simp, bel, Lib.hid (h0.out.below hb3), Lib.hid (h3.out.below hb3), Lib.hid (h4.out.below hb3), hvb, Lib.hid (by rw [HTj.out, HF.out, List.append_nil]; exact row_below hb3 hv.out)⟩
       case measure => go_light; first | omega | (simp only [intOf]; omega)
    ·have hjk : j = 4 := by omega
     subst hjk;have hv4 : wr.ownsRow 0 2 1 u5 (divL ⟨(-9223372036854775808), hi⟩ ⟨lo2, hi2⟩).length (Nums (divL ⟨(-9223372036854775808), hi⟩ ⟨lo2, hi2⟩)) := hv.out;have hl8 : (divL ⟨(-9223372036854775808), hi⟩ ⟨lo2, hi2⟩).length ≤ 8 := HL.out 4;have hp := HP.out;obtain ⟨g, cap, rfl, -, -, hg⟩ := row_pos hv4 hp;have HB := Lib.hid (HU.out wr g 0 _ cap hg rfl (by unfold maxLen; omega) hp (fun i hi' => by
      have hx := row_cell hv4 (j := i) (u := .int .i64 ((divL ⟨(-9223372036854775808), hi⟩ ⟨lo2, hi2⟩).getD i 0)) (Nums_some (by rw [List.getD_eq_getElem?_getD, List.getElem?_eq_getElem hi']; rfl));rw [Nat.zero_add]; exact hx))
     have hgb := hvb g rfl;have o4 := h4.out;clear hv4 hv hvb;have HB2 := HB.out;clear HB;generalize hLL : divL ⟨(-9223372036854775808), hi⟩ ⟨lo2, hi2⟩ = L at *;have HLL := Lib.hid hLL; clear hLL;go_wp2_with (first | (go_at_call 54; refine HB2.mono ?_; rintro e w3 ⟨rfl, hb3⟩; have o5 := o4.below hb3; have q5 := own2 o5; have q6 := set2 o5; have hz3 := hb3.size) | fail)
     refine span_end (by rfl) (by rfl) ownbq (by simp) ?_;exact ⟨by rw [HLL.out], bel⟩
 ·rw [if_neg (by simp [hlo])] at HD;subst HD;go_enter Tryd.func58, Tryd.ntmps58;go_wp2;generalize hW : World.alloc _ _ = W0;obtain ⟨hb0, o0, o1, o2⟩ : Below w.heap.size w W0 ∧ Own W0 w.heap.size [.int .i64 lo, .int .i64 hi] ∧ Own W0 (w.heap.size + 1) [.int .i64 lo2, .int .i64 hi2] ∧ Own W0 (w.heap.size + 1 + 1) [.int .i64 0, .int .i64 0] := by rw [← hW]; exact ⟨bel, ownbq, ownbq, ownbq⟩
  clear hW;go_loopw [5, 21] (fun v i wr => ∃ j : Nat, j ≤ 4 ∧ i = .int .i64 j ∧ Below w.heap.size w wr ∧ Hid (Own wr w.heap.size [.int .i64 lo, .int .i64 hi]) ∧ Hid (Own wr (w.heap.size + 1) [.int .i64 lo2, .int .i64 hi2]) ∧ Hid (Own wr (w.heap.size + 1 + 1) [.int .i64 0, .int .i64 0]) ∧ (∀ k, v.ownBlock = some k → w.heap.size + 3 ≤ k) ∧ Hid (wr.ownsRow 0 2 1 v (divTo ⟨lo, hi⟩ ⟨lo2, hi2⟩ j).length (Nums (divTo ⟨lo, hi⟩ ⟨lo2, hi2⟩ j)))) (fun v i _ => 4 - (intOf i).toNat)
  case atStart => exact ⟨0, Nat.zero_le _, rfl, hb0, Lib.hid o0, Lib.hid o1, Lib.hid o2, by simp [Value.ownBlock], Lib.hid (World.ownsRow_nil _ _ _ _)⟩
  case round =>
   clear o0 o1 o2 hb0;obtain ⟨j, hj, rfl, hbr, h0, h3, h4, hvb, hv⟩ := hrel;have q0 := own2 h0.out;have q1 := own2 h3.out;by_cases hlt : j < 4
   ·have d2 : (j : Int) < 4 := by omega
    have hwk : IntKind.i64.wrap ((j : Int) + 1) = (j : Int) + 1 := IntWalk.i64_in _ (by omega);have hT := HT.out j hlt;obtain ⟨d, hd⟩ : ∃ d, d = [lo2, hi2, -1, 1].getD j 0 := ⟨_, rfl⟩
    have hix : ∀ w, (Instr.index 134 (.agg #[.int .i64 lo2, .int .i64 hi2, .int .i64 (-1), .int .i64 1]) (.int .i64 j)).run Tryd.prog w = .ok (.int .i64 d) w := by
     subst hd; rcases (show j = 0 ∨ j = 1 ∨ j = 2 ∨ j = 3 by omega) with rfl | rfl | rfl | rfl <;> exact fun w => rfl
    rw [← hd] at hT;clear hd;have HTj := Lib.hid hT; clear hT;by_cases hd0 : d = 0
    ·have hF : divF ⟨lo, hi⟩ ⟨lo2, hi2⟩ d = [] := by unfold divF; rw [if_neg (by simp [hd0])]
     have HF := Lib.hid hF; clear hF;go_wp2_with (refine wpList_index rfl (.tmp 20) (.tmp 21) 134 rfl _ (hix _) ?_)
     go_roundw
     case rel => exact ⟨j + 1, by omega, by simp, hbr, h0, h3, h4, hvb, Lib.hid (by rw [HTj.out, HF.out, List.append_nil]; exact hv.out)⟩
     case measure => go_light; first | omega | (simp only [intOf]; omega)
    ·rcases (show hasP ⟨lo2, hi2⟩ d = true ∨ hasP ⟨lo2, hi2⟩ d = false by cases hasP ⟨lo2, hi2⟩ d <;> simp) with hs | hs
     ·have hF : divF ⟨lo, hi⟩ ⟨lo2, hi2⟩ d = [IntKind.i64.wrap (Int.tdiv lo d), IntKind.i64.wrap (Int.tdiv hi d)] := by unfold divF; rw [if_pos ⟨hd0, hs⟩]
      have HF := Lib.hid hF; clear hF;go_wp2_with (first | (refine wpList_index rfl (.tmp 20) (.tmp 21) 134 rfl _ (hix _) ?_) | (go_at_call 60; refine (HH.out _ _ _ hs).mono ?_; rintro e w3 ⟨rfl, hb3⟩; have hc3 := bcell hb3; have hz3 := hb3.size) | fail)
      have hln := HL.out j;have hrow := row_below hb3 hv.out
      go_region_law (refine step_app rfl (.tmp 31) (.tmp 40) 26 2 1 8 (.int .i64 0) rfl Tryd.underlying26 Tryd.info64 rfl (by decide) _ _ _ rfl (row_below bel hrow) ⟨w3.heap.size, 0, none⟩ 2 2 (Nums [IntKind.i64.wrap (Int.tdiv lo d), IntKind.i64.wrap (Int.tdiv hi d)]) rfl rfl (src_own (Own.drew (Own.new' _ _ _ _ (by simp)))) (Nums_one _) (by unfold maxLen; omega) (by omega) (by decide) ?_; intro g2 cap2 w4 hb4 hc4 hg4)
      all_goals (
       have hc5 : Chg (fun k => u5.ownBlock = some k) wr w4 := (((Chg.of hb3).alloc _).drew).trans hc4;have h45 := h4.out.1;go_wp2;refine ⟨⟨j + 1, by omega, by simp, hbr.trans (hc5.below _ hbr.size (fun k hk e => by have := hvb k e; omega)), Lib.hid (hc5.own h0.out (fun e => by have := hvb _ e; omega)), Lib.hid (hc5.own h3.out (fun e => by have := hvb _ e; omega)), Lib.hid (hc5.own h4.out (fun e => by have := hvb _ e; omega)), ?_, Lib.hid ?_⟩, ?_⟩
       ·intro k hk;have hk' : g2 = k := by simpa [Value.ownBlock] using hk
        subst hk';rcases hg4 with h | h
        ·exact hvb _ h
        ·have := hb3.size; simp at h; omega
       ·rw [HTj.out, HF.out, Nums_append, List.length_append]; exact hb4
       ·go_light; first | omega | (simp only [intOf]; omega))
     ·have hF : divF ⟨lo, hi⟩ ⟨lo2, hi2⟩ d = [] := by unfold divF; rw [if_neg (by simp [hs])]
      have HF := Lib.hid hF; clear hF;go_wp2_with (first | (refine wpList_index rfl (.tmp 20) (.tmp 21) 134 rfl _ (hix _) ?_) | (go_at_call 60; refine (HH.out _ _ _ hs).mono ?_; rintro e w3 ⟨rfl, hb3⟩; have hc3 := bcell hb3; have hz3 := hb3.size) | fail)
      go_roundw
      case rel => exact ⟨j + 1, by omega, by simp, bel, Lib.hid (h0.out.below hb3), Lib.hid (h3.out.below hb3), Lib.hid (h4.out.below hb3), hvb, Lib.hid (by rw [HTj.out, HF.out, List.append_nil]; exact row_below hb3 hv.out)⟩
      case measure => go_light; first | omega | (simp only [intOf]; omega)
   ·have hjk : j = 4 := by omega
    subst hjk;have hv4 : wr.ownsRow 0 2 1 u5 (divL ⟨lo, hi⟩ ⟨lo2, hi2⟩).length (Nums (divL ⟨lo, hi⟩ ⟨lo2, hi2⟩)) := hv.out;have hl8 : (divL ⟨lo, hi⟩ ⟨lo2, hi2⟩).length ≤ 8 := HL.out 4;have hp := HP.out;obtain ⟨g, cap, rfl, -, -, hg⟩ := row_pos hv4 hp;have HB := Lib.hid (HU.out wr g 0 _ cap hg rfl (by unfold maxLen; omega) hp (fun i hi' => by
     have hx := row_cell hv4 (j := i) (u := .int .i64 ((divL ⟨lo, hi⟩ ⟨lo2, hi2⟩).getD i 0)) (Nums_some (by rw [List.getD_eq_getElem?_getD, List.getElem?_eq_getElem hi']; rfl));rw [Nat.zero_add]; exact hx))
    have hgb := hvb g rfl;have o4 := h4.out;clear hv4 hv hvb;have HB2 := HB.out;clear HB;generalize hLL : divL ⟨lo, hi⟩ ⟨lo2, hi2⟩ = L at *;have HLL := Lib.hid hLL; clear hLL;go_wp2_with (first | (go_at_call 54; refine HB2.mono ?_; rintro e w3 ⟨rfl, hb3⟩; have o5 := o4.below hb3; have q5 := own2 o5; have q6 := set2 o5; have hz3 := hb3.size) | fail)
    refine span_end (by rfl) (by rfl) ownbq (by simp) ?_;exact ⟨by rw [HLL.out], bel⟩
def zeroP : PSpan := ⟨0, 0⟩
def eqP (a b : PSpan) : Bool := decide (a.lo = b.lo) && decide (a.hi = b.hi)
def pointB (a b : PSpan) : Bool := decide (a.lo = a.hi) && decide (b.lo = b.hi)
def doAdd (a b : PSpan) : PSpan := if pointB a b then ⟨wrap64 (a.lo + b.lo), wrap64 (a.lo + b.lo)⟩ else hullP [(exactP a.lo b.lo).1, (exactP a.hi b.hi).1] ((exactP a.lo b.lo).2 && (exactP a.hi b.hi).2)
def doSub (a b : PSpan) : PSpan := if pointB a b then ⟨wrap64 (a.lo - b.lo), wrap64 (a.lo - b.lo)⟩ else hullP [(lessP a.lo b.hi).1, (lessP a.hi b.lo).1] ((lessP a.lo b.hi).2 && (lessP a.hi b.lo).2)
def pairs4 (a b : PSpan) : List (Int × Int) := [(a.lo, b.lo), (a.lo, b.hi), (a.hi, b.lo), (a.hi, b.hi)]
def doMul (a b : PSpan) : PSpan := if pointB a b then ⟨wrap64 (a.lo * b.lo), wrap64 (a.lo * b.lo)⟩ else hullP ((pairs4 a b).map fun p => (timesP p.1 p.2).1) ((pairs4 a b).all fun p => (timesP p.1 p.2).2)
/-- where the value of an operation is -/
def spanDo (op : Int) (a b : PSpan) : PSpan × Bool :=
 if op = 3 then (doAdd a b, true) else if op = 4 then (doSub a b, true) else if op = 5 then (doMul a b, true) else
 if op = 6 then (if eqP b zeroP then (zeroP, false) else (dividedP a b, true)) else if op = 7 then (if eqP b zeroP then (zeroP, false) else (leftP a b, true)) else
 if op = 8 then (truthP (decide (a.hi < b.lo)) (decide (b.hi ≤ a.lo)), true) else if op = 9 then (truthP (eqP a b && decide (a.lo = a.hi)) (!(meetQ a b).2), true) else
 if op = 10 then (truthP (eqP a zeroP) (!hasP a 0), true) else (zeroP, false)
theorem none_no (a : PSpan) (w : World) (h : a.lo ≤ a.hi) : Calls Tryd.prog 29 #[.agg #[.int .i64 a.lo, .int .i64 a.hi]] w fun e w' => e = .returned (.bool false) ∧ Below w.heap.size w w' := by
 have := snone_any a w;rw [show emptyB a = false by unfold emptyB; simp; omega] at this;exact this
theorem hull2 {w : World} {k : Nat} {x y : Int} {all : Bool} (h : Own w k [.int .i64 x, .int .i64 y]) : Calls Tryd.prog 54 #[.slice (some ⟨k, 0, none⟩) 2 2, .bool all] w fun e w' => e = .returned (.agg #[.int .i64 (hullP [x, y] all).lo, .int .i64 (hullP [x, y] all).hi]) ∧ Below w.heap.size w w' := by
 refine shull_any k 0 2 2 [x, y] all w h.1 rfl (by decide) (by decide) fun i hi => ?_;rw [Nat.zero_add];rcases (show i = 0 ∨ i = 1 by omega) with rfl | rfl
 ·exact h.2.1 0 _ rfl
 ·exact h.2.1 1 _ rfl
theorem doAdd_pt (a b : PSpan) (h : pointB a b = true) : doAdd a b = ⟨wrap64 (a.lo + b.lo), wrap64 (a.lo + b.lo)⟩ := by unfold doAdd; rw [if_pos h]
theorem doAdd_else (a b : PSpan) (h : pointB a b = false) : doAdd a b = hullP [(exactP a.lo b.lo).1, (exactP a.hi b.hi).1] ((exactP a.lo b.lo).2 && (exactP a.hi b.hi).2) := by unfold doAdd; rw [if_neg (by simp [h])]
theorem sdo_add (a b : PSpan) (w : World) (ha : a.lo ≤ a.hi) (hb : b.lo ≤ b.hi) : Calls Tryd.prog 40 #[.int .i64 3, spanV a, spanV b] w fun e w' => e = .returned (.tuple #[spanV (doAdd a b), .bool true]) ∧ Below w.heap.size w w' := by
 have HA := Lib.hid (fun w => none_no a w ha);have HB := Lib.hid (fun w => none_no b w hb);have HX := Lib.hid (fun w => sexact_any a.lo b.lo w);have HY := Lib.hid (fun w => sexact_any a.hi b.hi w);rcases (show pointB a b = true ∨ pointB a b = false by cases pointB a b <;> simp) with hp | hp
 ·rw [doAdd_pt a b hp];unfold pointB at hp;simp only [Bool.and_eq_true, decide_eq_true_eq] at hp;unfold spanV at *;obtain ⟨lo, hi⟩ := a;obtain ⟨lo2, hi2⟩ := b;dsimp only at *;obtain ⟨rfl, rfl⟩ := hp;go_enter Tryd.func40, Tryd.ntmps40;go_wp2_with (first | (go_at_call 29; refine (HA.out _).mono ?_; rintro e w1 ⟨rfl, hb1⟩; clear HA; have o1 : Own w1 w.heap.size [.int .i64 lo, .int .i64 lo] := ownbq; have o2 : Own w1 (w.heap.size + 1) [.int .i64 lo2, .int .i64 lo2] := ownbq; have o3 : Own w1 (w.heap.size + 1 + 1) [.int .i64 0, .int .i64 0] := ownbq; have q1 := own2 o1; have q2 := own2 o2; have hbz : Below w.heap.size w w1 := bel) | (go_at_call 29; refine (HB.out _).mono ?_; rintro e w2 ⟨rfl, hb2⟩; clear HB; have p1 := o1.below hb2; have p2 := o2.below hb2; have p3 := o3.below hb2; have r1 := own2 p1; have r2 := own2 p2; have r3 := own2 p3; have s3 := set2 p3; have hby : Below w.heap.size w w2 := bel; clear hb2 hb1 hbz o1 o2 o3 q1 q2) | fail)
  refine flag_end (by rfl) (by rfl) (by rfl) ownbq (by simp) ?_;exact ⟨rfl, bel⟩
 ·rw [doAdd_else a b hp];unfold pointB at hp;simp only [Bool.and_eq_false_iff, decide_eq_false_iff_not] at hp;generalize exactP a.lo b.lo = E1 at *;generalize exactP a.hi b.hi = E2 at *;obtain ⟨x1, b1⟩ := E1;obtain ⟨x2, b2⟩ := E2;unfold spanV at *;obtain ⟨lo, hi⟩ := a;obtain ⟨lo2, hi2⟩ := b;dsimp only at *;by_cases hl : lo = hi
  ·subst hl;have hl2 : ¬ lo2 = hi2 := by omega
   cases b1
   all_goals go_enter Tryd.func40, Tryd.ntmps40
   all_goals go_wp2_with (first | (go_at_call 29; refine (HA.out _).mono ?_; rintro e w1 ⟨rfl, hb1⟩; clear HA; have o1 : Own w1 w.heap.size [.int .i64 lo, .int .i64 lo] := ownbq; have o2 : Own w1 (w.heap.size + 1) [.int .i64 lo2, .int .i64 hi2] := ownbq; have o3 : Own w1 (w.heap.size + 1 + 1) [.int .i64 0, .int .i64 0] := ownbq; have q1 := own2 o1; have q2 := own2 o2; have hbz : Below w.heap.size w w1 := bel) | (go_at_call 29; refine (HB.out _).mono ?_; rintro e w2 ⟨rfl, hb2⟩; clear HB; have p1 := o1.below hb2; have p2 := o2.below hb2; have p3 := o3.below hb2; have r1 := own2 p1; have r2 := own2 p2; have r3 := own2 p3; have s3 := set2 p3; have hby : Below w.heap.size w w2 := bel; clear hb2 hb1 hbz o1 o2 o3 q1 q2) | fail)
   all_goals (refine (HX.out _).mono ?_; rintro e w9 ⟨rfl, rfl⟩)
   all_goals go_wp2_with (first | (go_at_call 53; refine (HY.out _).mono ?_; rintro e w8 ⟨rfl, rfl⟩) | fail)
   all_goals (refine (hull2 (Own.new' _ [.int .i64 x1, .int .i64 x2] _ _ rfl)).mono ?_; rintro e w5 ⟨rfl, hb5⟩; have t3 := (p3.alloc _).below hb5; have u3 := own2 t3; have v3 := set2 t3; have hz5 := hb5.size)
   all_goals go_wp2
   all_goals refine flag_end (by rfl) (by rfl) (by rfl) ownbq (by simp) ?_
   all_goals exact ⟨rfl, bel⟩
  ·cases b1
   all_goals go_enter Tryd.func40, Tryd.ntmps40
   all_goals go_wp2_with (first | (go_at_call 29; refine (HA.out _).mono ?_; rintro e w1 ⟨rfl, hb1⟩; clear HA; have o1 : Own w1 w.heap.size [.int .i64 lo, .int .i64 hi] := ownbq; have o2 : Own w1 (w.heap.size + 1) [.int .i64 lo2, .int .i64 hi2] := ownbq; have o3 : Own w1 (w.heap.size + 1 + 1) [.int .i64 0, .int .i64 0] := ownbq; have q1 := own2 o1; have q2 := own2 o2; have hbz : Below w.heap.size w w1 := bel) | (go_at_call 29; refine (HB.out _).mono ?_; rintro e w2 ⟨rfl, hb2⟩; clear HB; have p1 := o1.below hb2; have p2 := o2.below hb2; have p3 := o3.below hb2; have r1 := own2 p1; have r2 := own2 p2; have r3 := own2 p3; have s3 := set2 p3; have hby : Below w.heap.size w w2 := bel; clear hb2 hb1 hbz o1 o2 o3 q1 q2) | fail)
   all_goals (refine (HX.out _).mono ?_; rintro e w9 ⟨rfl, rfl⟩)
   all_goals go_wp2_with (first | (go_at_call 53; refine (HY.out _).mono ?_; rintro e w8 ⟨rfl, rfl⟩) | fail)
   all_goals (refine (hull2 (Own.new' _ [.int .i64 x1, .int .i64 x2] _ _ rfl)).mono ?_; rintro e w5 ⟨rfl, hb5⟩; have t3 := (p3.alloc _).below hb5; have u3 := own2 t3; have v3 := set2 t3; have hz5 := hb5.size)
   all_goals go_wp2
   all_goals refine flag_end (by rfl) (by rfl) (by rfl) ownbq (by simp) ?_
   all_goals exact ⟨rfl, bel⟩
theorem doSub_pt (a b : PSpan) (h : pointB a b = true) : doSub a b = ⟨wrap64 (a.lo - b.lo), wrap64 (a.lo - b.lo)⟩ := by unfold doSub; rw [if_pos h]
theorem doSub_else (a b : PSpan) (h : pointB a b = false) : doSub a b = hullP [(lessP a.lo b.hi).1, (lessP a.hi b.lo).1] ((lessP a.lo b.hi).2 && (lessP a.hi b.lo).2) := by unfold doSub; rw [if_neg (by simp [h])]
theorem sdo_sub (a b : PSpan) (w : World) (ha : a.lo ≤ a.hi) (hb : b.lo ≤ b.hi) : Calls Tryd.prog 40 #[.int .i64 4, spanV a, spanV b] w fun e w' => e = .returned (.tuple #[spanV (doSub a b), .bool true]) ∧ Below w.heap.size w w' := by
 have HA := Lib.hid (fun w => none_no a w ha);have HB := Lib.hid (fun w => none_no b w hb);have HX := Lib.hid (fun w => sless_any a.lo b.hi w);have HY := Lib.hid (fun w => sless_any a.hi b.lo w);rcases (show pointB a b = true ∨ pointB a b = false by cases pointB a b <;> simp) with hp | hp
 ·rw [doSub_pt a b hp];unfold pointB at hp;simp only [Bool.and_eq_true, decide_eq_true_eq] at hp;unfold spanV at *;obtain ⟨lo, hi⟩ := a;obtain ⟨lo2, hi2⟩ := b;dsimp only at *;obtain ⟨rfl, rfl⟩ := hp;go_enter Tryd.func40, Tryd.ntmps40;go_wp2_with (first | (go_at_call 29; refine (HA.out _).mono ?_; rintro e w1 ⟨rfl, hb1⟩; clear HA; have o1 : Own w1 w.heap.size [.int .i64 lo, .int .i64 lo] := ownbq; have o2 : Own w1 (w.heap.size + 1) [.int .i64 lo2, .int .i64 lo2] := ownbq; have o3 : Own w1 (w.heap.size + 1 + 1) [.int .i64 0, .int .i64 0] := ownbq; have q1 := own2 o1; have q2 := own2 o2; have hbz : Below w.heap.size w w1 := bel) | (go_at_call 29; refine (HB.out _).mono ?_; rintro e w2 ⟨rfl, hb2⟩; clear HB; have p1 := o1.below hb2; have p2 := o2.below hb2; have p3 := o3.below hb2; have r1 := own2 p1; have r2 := own2 p2; have r3 := own2 p3; have s3 := set2 p3; have hby : Below w.heap.size w w2 := bel; clear hb2 hb1 hbz o1 o2 o3 q1 q2) | fail)
  refine flag_end (by rfl) (by rfl) (by rfl) ownbq (by simp) ?_;exact ⟨rfl, bel⟩
 ·rw [doSub_else a b hp];unfold pointB at hp;simp only [Bool.and_eq_false_iff, decide_eq_false_iff_not] at hp;generalize lessP a.lo b.hi = E1 at *;generalize lessP a.hi b.lo = E2 at *;obtain ⟨x1, b1⟩ := E1;obtain ⟨x2, b2⟩ := E2;unfold spanV at *;obtain ⟨lo, hi⟩ := a;obtain ⟨lo2, hi2⟩ := b;dsimp only at *;by_cases hl : lo = hi
  ·subst hl;have hl2 : ¬ lo2 = hi2 := by omega
   cases b1
   all_goals go_enter Tryd.func40, Tryd.ntmps40
   all_goals go_wp2_with (first | (go_at_call 29; refine (HA.out _).mono ?_; rintro e w1 ⟨rfl, hb1⟩; clear HA; have o1 : Own w1 w.heap.size [.int .i64 lo, .int .i64 lo] := ownbq; have o2 : Own w1 (w.heap.size + 1) [.int .i64 lo2, .int .i64 hi2] := ownbq; have o3 : Own w1 (w.heap.size + 1 + 1) [.int .i64 0, .int .i64 0] := ownbq; have q1 := own2 o1; have q2 := own2 o2; have hbz : Below w.heap.size w w1 := bel) | (go_at_call 29; refine (HB.out _).mono ?_; rintro e w2 ⟨rfl, hb2⟩; clear HB; have p1 := o1.below hb2; have p2 := o2.below hb2; have p3 := o3.below hb2; have r1 := own2 p1; have r2 := own2 p2; have r3 := own2 p3; have s3 := set2 p3; have hby : Below w.heap.size w w2 := bel; clear hb2 hb1 hbz o1 o2 o3 q1 q2) | fail)
   all_goals (refine (HX.out _).mono ?_; rintro e w9 ⟨rfl, rfl⟩)
   all_goals go_wp2_with (first | (go_at_call 55; refine (HY.out _).mono ?_; rintro e w8 ⟨rfl, rfl⟩) | fail)
   all_goals (refine (hull2 (Own.new' _ [.int .i64 x1, .int .i64 x2] _ _ rfl)).mono ?_; rintro e w5 ⟨rfl, hb5⟩; have t3 := (p3.alloc _).below hb5; have u3 := own2 t3; have v3 := set2 t3; have hz5 := hb5.size)
   all_goals go_wp2
   all_goals refine flag_end (by rfl) (by rfl) (by rfl) ownbq (by simp) ?_
   all_goals exact ⟨rfl, bel⟩
  ·cases b1
   all_goals go_enter Tryd.func40, Tryd.ntmps40
   all_goals go_wp2_with (first | (go_at_call 29; refine (HA.out _).mono ?_; rintro e w1 ⟨rfl, hb1⟩; clear HA; have o1 : Own w1 w.heap.size [.int .i64 lo, .int .i64 hi] := ownbq; have o2 : Own w1 (w.heap.size + 1) [.int .i64 lo2, .int .i64 hi2] := ownbq; have o3 : Own w1 (w.heap.size + 1 + 1) [.int .i64 0, .int .i64 0] := ownbq; have q1 := own2 o1; have q2 := own2 o2; have hbz : Below w.heap.size w w1 := bel) | (go_at_call 29; refine (HB.out _).mono ?_; rintro e w2 ⟨rfl, hb2⟩; clear HB; have p1 := o1.below hb2; have p2 := o2.below hb2; have p3 := o3.below hb2; have r1 := own2 p1; have r2 := own2 p2; have r3 := own2 p3; have s3 := set2 p3; have hby : Below w.heap.size w w2 := bel; clear hb2 hb1 hbz o1 o2 o3 q1 q2) | fail)
   all_goals (refine (HX.out _).mono ?_; rintro e w9 ⟨rfl, rfl⟩)
   all_goals go_wp2_with (first | (go_at_call 55; refine (HY.out _).mono ?_; rintro e w8 ⟨rfl, rfl⟩) | fail)
   all_goals (refine (hull2 (Own.new' _ [.int .i64 x1, .int .i64 x2] _ _ rfl)).mono ?_; rintro e w5 ⟨rfl, hb5⟩; have t3 := (p3.alloc _).below hb5; have u3 := own2 t3; have v3 := set2 t3; have hz5 := hb5.size)
   all_goals go_wp2
   all_goals refine flag_end (by rfl) (by rfl) (by rfl) ownbq (by simp) ?_
   all_goals exact ⟨rfl, bel⟩
end Go.Proofs.YteebpnbdihcfmaaDoor
