/- Regions that draw their order: all operations ahead of the last ones leave a world of a class, whatever order is drawn; or one of them panics. After the kit's own laws on one world (StillTail) and on a class (Quiet). No program in sight. -/
import Derived.StillTailTactics
import Derived.Deep.QuietTactic
import Derived.Below
namespace Go.Proofs.YtgpdggjpbmgegaaDoor
open Go.RowKit
set_option linter.unusedVariables false

section
variable {P : Program} {ops : Array Oper} {md : Region.Mode} {C : World → Prop}

def wpLC (P : Program) (md : Region.Mode) (ops : Array Oper) (C : World → Prop) (n : Nat) (L : Array Bool → Act → Prop) : Nat → Array Bool → Act → Prop
  | 0, listed, a => L listed a
  | f + 1, listed, a =>
    Region.ready md ops listed ≠ [] ∧ ∀ i ∈ Region.ready md ops listed, i < n ∧ qOp P ops C i (wpLC P md ops C n L f (listed.setIfInBounds i true)) a

theorem wpAny_of_headC {n g : Nat} {L : Array Bool → Act → Prop} {Q' : Exit → Act → World → Prop} (hL : ∀ listed a w, C w → L listed a → wpAny P md ops Q' g listed a w) :
    ∀ (f : Nat) (listed : Array Bool) (a : Act) (w : World), C w → wpLC P md ops C n L f listed a → wpAny P md ops Q' (f + g) listed a w
  | 0, listed, a, w, hw, h => by rw [Nat.zero_add]; exact hL _ _ _ hw h
  | f + 1, listed, a, w, hw, h => by
    rw [show f + 1 + g = (f + g) + 1 by omega]
    exact ⟨fun h0 => absurd h0 h.1, fun i hi => wpOp_of_qOp hw (fun a' w' hw' h' => wpAny_of_headC hL f _ a' w' hw' h') (h.2 i hi).2⟩

theorem wpLC_first {n i : Nat} {oi : Oper} {v : Value} {L : Array Bool → Act → Prop} (hi : ops[i]? = some oi) (hsel : ∀ (j : Nat) (o : Oper) cs b, ops[j]? = some o → o.op ≠ .select cs b)
    (hs : Region.sinkB md ops n = true) (hc : Region.chainB md ops n = true) (hn : n < ops.size) (hin : i < n)
    (hdone : ∀ listed a, L listed a → ∀ j ∈ Region.ready md ops listed, n ≤ j) :
    ∀ (f : Nat) (listed : Array Bool) (a : Act), HeadInv md ops n listed →
      (∀ j oj, ops[j]? = some oj → j ≠ i → listed.getD j true = false → (∀ e ∈ oj.after, Region.binds md e = true → e.on ≠ i) → oi.apart ops oj = true) →
      i ∈ Region.ready md ops listed → YieldsIn P ops C oi v a →
      wpLC P md ops C n L f (listed.setIfInBounds i true) (a.put oi.dst v) → wpLC P md ops C n L (f + 1) listed a := by
  intro f
  induction f with
  | zero =>
    intro listed a inv _ hr hy H
    have hun := (mem_ready.1 hr).1
    refine ⟨fun h => (by rw [h] at hr; cases hr), fun j hj => ?_⟩
    have hjn : j < n := by
      rcases Nat.lt_or_ge j n with h | h
      · exact h
      · exact absurd hj (tail_waits hs hc hn inv _ i rfl hin hun j h)
    refine ⟨hjn, ?_⟩
    by_cases hji : j = i
    · subst hji; exact hy.qOp hi H
    · have := hdone _ _ H j (ready_mono hj hji)
      omega
  | succ f ih =>
    intro listed a inv hfree hr hy H
    have hun := (mem_ready.1 hr).1
    refine ⟨fun h => (by rw [h] at hr; cases hr), fun j hj => ?_⟩
    have hjn : j < n := by
      rcases Nat.lt_or_ge j n with h | h
      · exact h
      · exact absurd hj (tail_waits hs hc hn inv _ i rfl hin hun j h)
    refine ⟨hjn, ?_⟩
    by_cases hji : j = i
    · subst hji; exact hy.qOp hi H
    · have h1 := (H.2 j (ready_mono hj hji)).2
      obtain ⟨hjun, oj, hoj, hall⟩ := mem_ready.1 hj
      have hnot : ∀ e ∈ oj.after, Region.binds md e = true → e.on ≠ i := fun e he hb heq => by
        have h1 := hall e he hb
        rw [heq, getD_both hun] at h1
        cases h1
      have h2 := qOp_put hoj (hfree j oj hoj hji hjun hnot) (fun cs b => hsel i oi cs b hi) (fun cs b => hsel j oj cs b hoj) hy h1
      have hfree' : ∀ k ok, ops[k]? = some ok → k ≠ i → (listed.setIfInBounds j true).getD k true = false →
          (∀ e ∈ ok.after, Region.binds md e = true → e.on ≠ i) → oi.apart ops ok = true := fun k ok hk hki hun hno => by
        refine hfree k ok hk hki ?_ hno
        by_cases hjk : j = k
        · subst hjk; exact hjun
        · rw [getD_set_ne true hjk] at hun; exact hun
      refine qOp_mono (fun a' h3 => ih (listed.setIfInBounds j true) a' (inv.set hj hjn) hfree' (ready_mono hr (Ne.symm hji)) h3.1 ?_) h2
      rw [Array.setIfInBounds_comm _ _ hji]
      exact h3.2

theorem wpLC_lex {n g : Nat} {Lq : Act → Prop} (hsel : Region.noSelect ops = true) (hs : Region.sinkB md ops n = true) (hc : Region.chainB md ops n = true) (hn : n < ops.size) :
    ∀ (l : List Oper) (k : Nat) (listed : Array Bool) (a : Act), (∀ j, j < l.length → l[j]? = ops[k + j]?) → k + l.length = n → HeadInv md ops n listed →
    Region.lexHead md ops g l.length k listed = true → wpQuiet P ops C Lq l a →
    wpLC P md ops C n (fun listed' a' => Region.seqB md ops g n listed' = true ∧ Lq a') l.length listed a
  | [], k, listed, a, _, hk, _, hB, h => by
    have : k = n := by simpa using hk
    subst this
    exact ⟨by simpa [Region.lexHead] using hB, h⟩
  | o :: l, k, listed, a, hl, hk, inv, hB, h => by
    have h0 : ops[k]? = some o := by simpa using (hl 0 (by simp)).symm
    simp only [List.length_cons, Region.lexHead, Bool.and_eq_true] at hB
    obtain ⟨⟨hr, hf⟩, hB'⟩ := hB
    have hkn : k < n := by simp only [List.length_cons] at hk; omega
    have hr' : k ∈ Region.ready md ops listed := by simpa using hr
    have hst : qOp P ops C k (wpQuiet P ops C Lq l) a := by unfold qOp; simp only [h0]; exact h
    obtain ⟨v, hy, hK⟩ := yieldsIn_of_qOp h0 hst
    exact wpLC_first h0 (Region.noSelect_spec hsel) hs hc hn hkn (fun listed' a' hL => seqB_ready hL.1) l.length listed a inv (Region.free_spec h0 hf) hr' hy
      (wpLC_lex hsel hs hc hn l (k + 1) _ _ (fun j hj => by have := hl (j + 1) (by simp; omega); simpa [Nat.add_assoc, Nat.add_comm 1 j] using this) (by simp only [List.length_cons] at hk; omega) (inv.set hr' hkn) hB' hK)

theorem wp_region_quiet_tail {id : Nat} {Q : Exit → Act → World → Prop} {a : Act} {w : World} {l : List Oper} (n : Nat) (hm : P.follows .mixedOrders = true) (hB : Region.lexTailB .any l.toArray n = true) (hC : C w.drew)
    (h : wpQuiet P l.toArray C (fun a' => ∀ w', C w' → wpList P l.toArray Q (l.drop n) a' w') (l.take n) a) : (Code.region id l.toArray true).wp P Q a w := by
  simp only [Region.lexTailB, Bool.and_eq_true, decide_eq_true_eq] at hB
  obtain ⟨⟨⟨⟨hsel, hn⟩, hs⟩, hc⟩, hlex⟩ := hB
  have hn' : n < l.length := by simpa using hn
  have htl : (l.take n).length = n := by simp; omega
  have hdl : (l.drop n).length = l.toArray.size - n := by simp
  have inv0 : HeadInv .any l.toArray n (Array.replicate l.toArray.size false) :=
    ⟨by simp, fun j oj _ hl => (by rw [getD_replicate_false] at hl; cases hl), fun t _ ht => getD_in (by simpa using ht) (getD_replicate_false _ _)⟩
  have H := wpLC_lex (md := .any) (g := l.toArray.size - n) hsel hs hc hn (l.take n) 0 _ a (fun j hj => by
    have hj' : j < n := by rw [htl] at hj; exact hj
    simp [hj']) (by simpa using htl) inv0 (by rw [htl]; exact hlex) h
  refine wp_region_any hm ?_
  have := wpAny_of_headC (Q' := Q) (g := l.toArray.size - n) (fun listed a' w' hw' hL => by
    have := wpAny_of_seq (md := .any) (Q' := Q) (l.drop n) n listed a' w' (fun j => by simp [List.getElem?_drop]) (by rw [hdl]; exact hL.1) (hL.2 w' hw')
    rwa [hdl] at this) _ _ _ _ hC H
  rw [htl, show n + (l.toArray.size - n) = l.toArray.size by omega] at this
  exact this

/-! an operation that panics, in whatever world of the class -/
def dieUpon (P : Program) (C : World → Prop) (X : List PanicEntry → Prop) (w : World) : Result Next → Prop
  | .ok (.enter f args) w' => w' = w ∧ Calls P f args w (fun e w'' => ∃ ch, e = .panicked ch ∧ X ch ∧ C w'')
  | .halt (.panic v) w' => C w' ∧ X [{ v := v, recovered := false }]
  | _ => False
def diesAt (P : Program) (ops : Array Oper) (C : World → Prop) (X : List PanicEntry → Prop) (p : Nat) (a : Act) : Prop :=
  ∃ o, ops[p]? = some o ∧ Region.wanted o (yielded ops a.tmps) = true ∧ ∀ w, C w → dieUpon P C X w ((execOp a.eval o).run P w)

def wpD (P : Program) (md : Region.Mode) (ops : Array Oper) (C : World → Prop) (X : List PanicEntry → Prop) (p : Nat) : Nat → Array Bool → Act → Prop
  | 0, listed, a => Region.ready md ops listed = [p] ∧ diesAt P ops C X p a
  | f + 1, listed, a =>
    Region.ready md ops listed ≠ [] ∧ ∀ i ∈ Region.ready md ops listed, (i = p ∧ diesAt P ops C X p a) ∨ (i ≠ p ∧ qOp P ops C i (wpD P md ops C X p f (listed.setIfInBounds i true)) a)

theorem wpOp_of_dies {X : List PanicEntry → Prop} {Q' : Exit → Act → World → Prop} {K : Act → World → Prop} {ds : List Deferred} (hX : ∀ ch a w, a.defers = ds → X ch → C w → Q' (.panic ch) a w) {p : Nat} {a : Act} {w : World} (hds : a.defers = ds) (hw : C w) (h : diesAt P ops C X p a) : wpOp P ops Q' p K a w := by
  obtain ⟨o, ho, hwant, hd⟩ := h
  unfold wpOp
  simp only [ho, hwant, if_true]
  refine .inl ?_
  have h1 := hd w hw
  unfold Oper.wp
  generalize (execOp a.eval o).run P w = r at *
  cases r with
  | ok n w' =>
    cases n <;> simp only [dieUpon] at h1
    case enter f args =>
      obtain ⟨rfl, hc⟩ := h1
      exact hc.mono fun e w'' ⟨ch, he, hx, hw''⟩ => by subst he; exact hX _ _ _ hds hx hw''
  | halt x w' =>
    cases x <;> simp only [dieUpon] at h1
    case panic v => exact hX _ _ _ hds h1.2 h1.1

theorem put_defers (a : Act) (d : Option Tmp) (v : Value) : (a.put d v).defers = a.defers := by cases d <;> rfl
theorem qOp_defers {i : Nat} {K : Act → Prop} {a : Act} (h : qOp P ops C i K a) : qOp P ops C i (fun a' => K a' ∧ a'.defers = a.defers) a := by
  unfold qOp at *
  split
  · simp_all
  · rename_i o ho
    simp only [ho] at h
    split
    · rename_i hw
      simp only [hw, if_true] at h
      obtain ⟨v, h1, h2⟩ := h
      exact ⟨v, h1, h2, put_defers _ _ _⟩
    · rename_i hw
      simp only [hw] at h
      exact ⟨h, put_defers _ _ _⟩

theorem wpAny_of_dies {X : List PanicEntry → Prop} {Q' : Exit → Act → World → Prop} {ds : List Deferred} (hX : ∀ ch a w, a.defers = ds → X ch → C w → Q' (.panic ch) a w) (p g : Nat) :
    ∀ (f : Nat) (listed : Array Bool) (a : Act) (w : World), a.defers = ds → C w → wpD P md ops C X p f listed a → wpAny P md ops Q' (f + 1 + g) listed a w
  | 0, listed, a, w, hds, hw, h => by
    rw [show 0 + 1 + g = g + 1 by omega]
    refine ⟨fun h0 => (by rw [h.1] at h0; cases h0), fun i hi => ?_⟩
    rw [h.1] at hi
    obtain rfl : i = p := by simpa using hi
    exact wpOp_of_dies hX hds hw h.2
  | f + 1, listed, a, w, hds, hw, h => by
    rw [show f + 1 + 1 + g = (f + 1 + g) + 1 by omega]
    refine ⟨fun h0 => absurd h0 h.1, fun i hi => ?_⟩
    rcases h.2 i hi with ⟨rfl, hd⟩ | ⟨_, hq⟩
    · exact wpOp_of_dies hX hds hw hd
    · exact wpOp_of_qOp hw (fun a' w' hw' h' => wpAny_of_dies hX p g f _ a' w' (h'.2.trans hds) hw' h'.1) (qOp_defers hq)

theorem diesAt_put {X : List PanicEntry → Prop} {p : Nat} {oi : Oper} {v : Value} {a : Act} (hap : ∀ op, ops[p]? = some op → oi.apart ops op = true) (hsp : ∀ op, ops[p]? = some op → ∀ cs b, op.op ≠ .select cs b)
    (h : diesAt P ops C X p (a.put oi.dst v)) : diesAt P ops C X p a := by
  obtain ⟨o, ho, hwant, hd⟩ := h
  obtain ⟨h1, h2, h3⟩ := Oper.apart_spec (hap o ho)
  rw [wanted_put o a oi.dst v h1] at hwant
  rw [execOp_put o (hsp o ho) a oi.dst v h1] at hd
  exact ⟨o, ho, hwant, hd⟩

theorem wpD_first {X : List PanicEntry → Prop} {p i : Nat} {oi : Oper} {v : Value} (hi : ops[i]? = some oi) (hip : i ≠ p) (hsel : ∀ (j : Nat) (o : Oper) cs b, ops[j]? = some o → o.op ≠ .select cs b) :
    ∀ (f : Nat) (listed : Array Bool) (a : Act),
      (∀ j oj, ops[j]? = some oj → j ≠ i → listed.getD j true = false → (∀ e ∈ oj.after, Region.binds md e = true → e.on ≠ i) → oi.apart ops oj = true) →
      i ∈ Region.ready md ops listed → YieldsIn P ops C oi v a →
      wpD P md ops C X p f (listed.setIfInBounds i true) (a.put oi.dst v) → wpD P md ops C X p (f + 1) listed a := by
  intro f
  induction f with
  | zero =>
    intro listed a hfree hr hy H
    have hun := (mem_ready.1 hr).1
    refine ⟨fun h => (by rw [h] at hr; cases hr), fun j hj => ?_⟩
    by_cases hji : j = i
    · subst hji; exact .inr ⟨hip, hy.qOp hi H⟩
    · obtain ⟨hjun, oj, hoj, hall⟩ := mem_ready.1 hj
      have hnot : ∀ e ∈ oj.after, Region.binds md e = true → e.on ≠ i := fun e he hb heq => by
        have h1 := hall e he hb
        rw [heq, getD_both hun] at h1
        cases h1
      have h1 := ready_mono hj hji
      rw [H.1] at h1
      obtain rfl : j = p := by simpa using h1
      exact .inl ⟨rfl, diesAt_put (fun op hop => hfree j op hop hji hjun (by rw [hoj] at hop; cases hop; exact hnot)) (fun op hop cs b => hsel j op cs b hop) H.2⟩
  | succ f ih =>
    intro listed a hfree hr hy H
    have hun := (mem_ready.1 hr).1
    refine ⟨fun h => (by rw [h] at hr; cases hr), fun j hj => ?_⟩
    by_cases hji : j = i
    · subst hji; exact .inr ⟨hip, hy.qOp hi H⟩
    · obtain ⟨hjun, oj, hoj, hall⟩ := mem_ready.1 hj
      have hnot : ∀ e ∈ oj.after, Region.binds md e = true → e.on ≠ i := fun e he hb heq => by
        have h1 := hall e he hb
        rw [heq, getD_both hun] at h1
        cases h1
      rcases H.2 j (ready_mono hj hji) with ⟨rfl, hd⟩ | ⟨hjp, hq⟩
      · exact .inl ⟨rfl, diesAt_put (fun op hop => hfree j op hop hji hjun (by rw [hoj] at hop; cases hop; exact hnot)) (fun op hop cs b => hsel j op cs b hop) hd⟩
      · refine .inr ⟨hjp, ?_⟩
        have h2 := qOp_put hoj (hfree j oj hoj hji hjun hnot) (fun cs b => hsel i oi cs b hi) (fun cs b => hsel j oj cs b hoj) hy hq
        have hfree' : ∀ k ok, ops[k]? = some ok → k ≠ i → (listed.setIfInBounds j true).getD k true = false →
            (∀ e ∈ ok.after, Region.binds md e = true → e.on ≠ i) → oi.apart ops ok = true := fun k ok hk hki hun hno => by
          refine hfree k ok hk hki ?_ hno
          by_cases hjk : j = k
          · subst hjk; exact hjun
          · rw [getD_set_ne true hjk] at hun; exact hun
        refine qOp_mono (fun a' h3 => ih (listed.setIfInBounds j true) a' hfree' (ready_mono hr (Ne.symm hji)) h3.1 ?_) h2
        rw [Array.setIfInBounds_comm _ _ hji]
        exact h3.2

def pickOps (l : List Oper) (ord : List Nat) : List Oper := ord.map fun k => l.getD k default
def ordB (md : Region.Mode) (ops : Array Oper) (p : Nat) : List Nat → Array Bool → Bool
  | [], listed => decide (Region.ready md ops listed = [p])
  | k :: r, listed => (Region.ready md ops listed).contains k && Region.free md ops listed k && (k != p) && decide (k < ops.size) && ordB md ops p r (listed.setIfInBounds k true)
theorem wpD_ord {X : List PanicEntry → Prop} {p : Nat} (hsel : Region.noSelect ops = true) : ∀ (ord : List Nat) (listed : Array Bool) (a : Act), ordB md ops p ord listed = true →
    wpQuiet P ops C (diesAt P ops C X p) (pickOps ops.toList ord) a → wpD P md ops C X p ord.length listed a
  | [], listed, a, hB, h => ⟨by simpa [ordB] using hB, h⟩
  | k :: r, listed, a, hB, h => by
    simp only [ordB, Bool.and_eq_true, decide_eq_true_eq, bne_iff_ne] at hB
    obtain ⟨⟨⟨⟨hr, hf⟩, hkp⟩, hk⟩, hB'⟩ := hB
    have h0 : ops[k]? = some ops[k] := Array.getElem?_eq_getElem hk
    have hst : qOp P ops C k (wpQuiet P ops C (diesAt P ops C X p) (pickOps ops.toList r)) a := by
      unfold qOp; simp only [h0]
      have e : ops.toList.getD k default = ops[k] := by simp [List.getD_eq_getElem?_getD, hk]
      simp only [pickOps, List.map_cons, e] at h
      exact h
    obtain ⟨v, hy, hK⟩ := yieldsIn_of_qOp h0 hst
    exact wpD_first h0 hkp (Region.noSelect_spec hsel) r.length listed a (Region.free_spec h0 hf) (by simpa using hr) hy (wpD_ord hsel r _ _ hB' hK)

/-- a drawn region in which operation p panics; ord: all that do not wait for it -/
theorem wp_region_dies {X : List PanicEntry → Prop} {id : Nat} {Q : Exit → Act → World → Prop} {a : Act} {w : World} {l : List Oper} (p : Nat) (ord : List Nat) (hm : P.follows .mixedOrders = true)
    (hB : (Region.noSelect l.toArray && decide (ord.length < l.length) && ordB .any l.toArray p ord (Array.replicate l.toArray.size false)) = true) (hC : C w.drew) (hX : ∀ ch a' w, a'.defers = a.defers → X ch → C w → Q (.panic ch) a' w)
    (h : wpQuiet P l.toArray C (diesAt P l.toArray C X p) (pickOps l ord) a) : (Code.region id l.toArray true).wp P Q a w := by
  simp only [Bool.and_eq_true, decide_eq_true_eq] at hB
  obtain ⟨⟨hsel, hlen⟩, hB⟩ := hB
  refine wp_region_any hm ?_
  have := wpAny_of_dies (md := .any) (Q' := Q) hX p (l.toArray.size - (ord.length + 1)) _ _ a w.drew rfl hC (wpD_ord hsel ord _ a hB h)
  rwa [show ord.length + 1 + (l.toArray.size - (ord.length + 1)) = l.toArray.size by simp; omega] at this
end

/-! the class of the worlds below which nothing has turned, its worlds named by a family -/
@[irreducible] def WQ (P : Program) (ops : Array Oper) (C : World → Prop) (Q : Act → Prop) (l : List Oper) (a : Act) : Prop := wpQuiet P ops C Q l a
theorem WQ_nil {P : Program} {ops : Array Oper} {C : World → Prop} {Q : Act → Prop} {a : Act} (h : Q a) : WQ P ops C Q [] a := by unfold WQ; exact h
theorem WQ_step {P : Program} {ops : Array Oper} {C : World → Prop} {Q : Act → Prop} {a : Act} {o : Oper} {rest : List Oper}
    (h : ∀ K : Act → Prop, (∀ a, WQ P ops C Q rest a → K a) → if Region.wanted o (yielded ops a.tmps) then o.quiet P a C K else K (a.put o.dst undef)) : WQ P ops C Q (o :: rest) a := by
  unfold WQ at *; exact wpQuiet_step h

theorem wp_below_tail {P : Program} {id : Nat} {Q : Exit → Act → World → Prop} {a : Act} {w : World} {l : List Oper} (n : Nat) (hm : P.follows .mixedOrders = true) (hB : Region.lexTailB .any l.toArray n = true)
    (h : ∀ (T : Type) (F : T → World), (∀ t, Below w.heap.size w (F t)) → (∀ w', Below w.heap.size w w' → ∃ t, w' = F t) →
      WQ P l.toArray (fun w' => ∃ t, w' = F t) (fun a' => ∀ t, wpList P l.toArray Q (l.drop n) a' (F t)) (l.take n) a) : (Code.region id l.toArray true).wp P Q a w := by
  have h1 := h { w' : World // Below w.heap.size w w' } Subtype.val (fun t => t.2) (fun w' hw' => ⟨⟨w', hw'⟩, rfl⟩)
  unfold WQ at h1
  refine wp_region_quiet_tail (C := fun w' => ∃ t : { w' : World // Below w.heap.size w w' }, w' = t.1) n hm hB ⟨⟨w.drew, (Below.refl _ _).drew⟩, rfl⟩ ?_
  have : (fun a' => ∀ w', (∃ t : { w' : World // Below w.heap.size w w' }, w' = t.1) → wpList P l.toArray Q (l.drop n) a' w') = (fun a' => ∀ t : { w' : World // Below w.heap.size w w' }, wpList P l.toArray Q (l.drop n) a' t.1) := by
    funext a'; apply propext
    exact ⟨fun h t => h _ ⟨t, rfl⟩, fun h w' ⟨t, ht⟩ => ht ▸ h t⟩
  rw [this]; exact h1

theorem wp_below_dies {P : Program} {X : List PanicEntry → Prop} {id : Nat} {Q : Exit → Act → World → Prop} {a : Act} {w : World} {l : List Oper} (p : Nat) (ord : List Nat) (hm : P.follows .mixedOrders = true)
    (hB : (Region.noSelect l.toArray && decide (ord.length < l.length) && ordB .any l.toArray p ord (Array.replicate l.toArray.size false)) = true) (hX : ∀ ch a' w', a'.defers = a.defers → X ch → Below w.heap.size w w' → Q (.panic ch) a' w')
    (h : ∀ (T : Type) (F : T → World), (∀ t, Below w.heap.size w (F t)) → (∀ w', Below w.heap.size w w' → ∃ t, w' = F t) →
      WQ P l.toArray (fun w' => ∃ t, w' = F t) (diesAt P l.toArray (fun w' => ∃ t, w' = F t) X p) (pickOps l ord) a) : (Code.region id l.toArray true).wp P Q a w := by
  have h1 := h { w' : World // Below w.heap.size w w' } Subtype.val (fun t => t.2) (fun w' hw' => ⟨⟨w', hw'⟩, rfl⟩)
  unfold WQ at h1
  exact wp_region_dies (C := fun w' => ∃ t : { w' : World // Below w.heap.size w w' }, w' = t.1) p ord hm hB ⟨⟨w.drew, (Below.refl _ _).drew⟩, rfl⟩ (fun ch a' w' hd hx ⟨t, ht⟩ => hX ch a' w' hd hx (ht ▸ t.2)) h1

/-- a callee's contract, met in a world of the family -/
theorem calls_family {P : Program} {f : FuncId} {args : Array Value} {T : Type} {F : T → World} {w W : World} {v : Value} (hF : Below W.heap.size W w) (hall : ∀ w', Below W.heap.size W w' → ∃ t, w' = F t)
    (h : Calls P f args w fun e w' => e = .returned v ∧ Below w.heap.size w w') : Calls P f args w fun e w'' => e = .returned v ∧ ∃ t, w'' = F t :=
  h.mono fun _ _ ⟨he, hb⟩ => ⟨he, hall _ (hF.trans (hb.mono hF.size))⟩
theorem dies_family {P : Program} {f : FuncId} {args : Array Value} {T : Type} {F : T → World} {w W : World} {ch : List PanicEntry} {X : List PanicEntry → Prop} (hF : Below W.heap.size W w) (hall : ∀ w', Below W.heap.size W w' → ∃ t, w' = F t) (hx : X ch)
    (h : Calls P f args w fun e w' => e = .panicked ch ∧ Below w.heap.size w w') : dieUpon P (fun w' => ∃ t, w' = F t) X w (.ok (.enter f args) w) :=
  ⟨rfl, h.mono fun _ _ ⟨he, hb⟩ => ⟨ch, he, hx, hall _ (hF.trans (hb.mono hF.size))⟩⟩
end Go.Proofs.YtgpdggjpbmgegaaDoor
