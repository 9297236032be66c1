/- A metered run as a plain function, and what is said of fuel. Plain Lean: no program in sight. -/
import Derived.Test.YtgpdggjpbmgegaaDoorWf
namespace Go.Proofs.YtgpdggjpbmgegaaDoor
open Go.RowKit
set_option linter.unusedVariables false
set_option linter.unusedSimpArgs false


structure POut where
  e : Int
  v : Int
  steps : Int
  mf : Int
  mw : Int
/-- a run of so much fuel; k: at most so many rounds -/
def runP (m : PMod) (lim : Int) : Nat → Int → Int → PSt → POut
  | 0, _, steps, s => ⟨90, 0, steps, s.mf, s.mw⟩
  | k + 1, left, steps, s =>
    if left < weightZ (insAt m s.top).op then ⟨90, 0, steps, s.mf, s.mw⟩ else
    match doP m lim s.pass (insAt m s.top) with
    | .next s' => runP m lim k (left - weightZ (insAt m s.top).op) (steps + weightZ (insAt m s.top).op) s'
    | .done v _ mf mw => ⟨0, v, steps + weightZ (insAt m s.top).op, mf, mw⟩
    | .trap e => ⟨e, 0, steps + weightZ (insAt m s.top).op, s.mf, s.mw⟩
def beginP (m : PMod) (k : Nat) (args : List Int) : PSt := enterP m [] 0 0 0 k 0 args
def meterP (m : PMod) (name : ByteArray) (args : List Int) (fuel : Int) : POut :=
  if fuel < 0 then ⟨1, 0, 0, 0, 0⟩ else
  if (mayP m).e ≠ 0 then ⟨(mayP m).e, 0, 0, 0, 0⟩ else
  if findZ m.funcs name < 0 then ⟨8, 0, 0, 0, 0⟩ else
  if fitsB (fnAt m (findZ m.funcs name).toNat).params args = false then ⟨2, 0, 0, 0, 0⟩ else
  runP m 64 (fuel.toNat + 1) fuel 0 (beginP m (findZ m.funcs name).toNat args)

/-- what every state of a metered run is -/
structure Inv (m : PMod) (s : PSt) : Prop where
  ok : StOk m s
  deep : (s.rest.length : Int) + 1 ≤ 64
  mf1 : 1 ≤ s.mf
  mf2 : s.mf ≤ 64

theorem weight_bd {op : Int} (h0 : 0 ≤ op) (h1 : op < 20) : 1 ≤ weightZ op ∧ weightZ op ≤ 8 := by
  obtain ⟨k, rfl⟩ := Int.eq_ofNat_of_zero_le h0
  have hk : k < 20 := by omega
  have : knownB (k : Int) = true := by simp [knownB]; omega
  unfold weightZ
  rw [if_pos this, Int.toNat_natCast]
  clear this h0 h1
  revert hk
  revert k
  decide
theorem Inv.weight {m : PMod} (hm : Fine m) {s : PSt} (h : Inv m s) : 1 ≤ weightZ (insAt m s.top).op ∧ weightZ (insAt m s.top).op ≤ 8 := by
  have := insAt_fine hm h.ok.top
  exact weight_bd this.op0 this.op1

/-- what a step comes to -/
theorem doP_shape (m : PMod) (lim : Int) (s : PSt) (x : PIns) :
    (∃ e, doP m lim s x = .trap e ∧ (e = 50 ∨ e = 51 ∨ e = 52 ∨ e = 91)) ∨ (∃ t, doP m lim s x = .next { s with top := t }) ∨
    (x.op = 0 ∧ s.rest = [] ∧ doP m lim s x = .done (s.top.rg x.a) (s.use - sizeOfFn m s.top.fn) s.mf s.mw) ∨
    (x.op = 0 ∧ ∃ r c, s.rest = r ++ [c] ∧ doP m lim s x = .next { rest := r, top := c.put s.top.into (s.top.rg x.a), use := s.use - sizeOfFn m s.top.fn, mf := s.mf, mw := s.mw }) ∨
    (¬ (0 < lim ∧ lim ≤ s.depth) ∧ doP m lim s x = .next (enterP m (s.rest ++ [s.top]) s.use s.mf s.mw x.n.toNat x.a (argsOf m s.top x))) := by
  unfold doP
  dsimp only
  have N : ∀ t, ∃ t', PRes.next { s with top := t } = PRes.next { s with top := t' } := fun t => ⟨t, rfl⟩
  by_cases h : x.op = 0
  · rw [if_pos h]
    cases hl : s.rest.getLast? with
    | none => exact .inr (.inr (.inl ⟨h, by simpa using hl, rfl⟩))
    | some c =>
      obtain ⟨r, e⟩ := List.getLast?_eq_some_iff.1 hl
      exact .inr (.inr (.inr (.inl ⟨h, r, c, e, by simp [e]⟩)))
  rw [if_neg h]
  by_cases h : x.op = 1
  · rw [if_pos h]; exact .inr (.inl (N _))
  rw [if_neg h]
  by_cases h : x.op = 2
  · rw [if_pos h]; exact .inr (.inl (N _))
  rw [if_neg h]
  by_cases h : x.op = 3 ∨ x.op = 4 ∨ x.op = 5 ∨ x.op = 8 ∨ x.op = 9
  · rw [if_pos h]; exact .inr (.inl (N _))
  rw [if_neg h]
  by_cases h : x.op = 6 ∨ x.op = 7
  · rw [if_pos h]
    split
    · exact .inl ⟨_, rfl, by simp⟩
    · exact .inr (.inl (N _))
  rw [if_neg h]
  by_cases h : x.op = 10
  · rw [if_pos h]; exact .inr (.inl (N _))
  rw [if_neg h]
  by_cases h : x.op = 11
  · rw [if_pos h]
    split
    · exact .inr (.inl (N _))
    · exact .inl ⟨_, rfl, by simp⟩
  rw [if_neg h]
  by_cases h : x.op = 12
  · rw [if_pos h]
    split
    · exact .inr (.inl (N _))
    · exact .inl ⟨_, rfl, by simp⟩
  rw [if_neg h]
  by_cases h : x.op = 13
  · rw [if_pos h]
    split
    · exact .inr (.inl (N _))
    · exact .inl ⟨_, rfl, by simp⟩
  rw [if_neg h]
  by_cases h : x.op = 14
  · rw [if_pos h]; exact .inr (.inl (N _))
  rw [if_neg h]
  by_cases h : x.op = 15
  · rw [if_pos h]; exact .inr (.inl (N _))
  rw [if_neg h]
  by_cases h : x.op = 16
  · rw [if_pos h]; exact .inr (.inl (N _))
  rw [if_neg h]
  by_cases h : x.op = 17
  · rw [if_pos h]; exact .inr (.inl (N _))
  rw [if_neg h]
  by_cases h : x.op = 18
  · rw [if_pos h]; exact .inr (.inl (N _))
  rw [if_neg h]
  by_cases h : fitsB (fnAt m x.n.toNat).params (argsOf m s.top x) = false
  · rw [if_pos h]; exact .inl ⟨_, rfl, by simp⟩
  rw [if_neg h]
  by_cases h : 0 < lim ∧ lim ≤ s.depth
  · rw [if_pos h]; exact .inl ⟨_, rfl, by simp⟩
  rw [if_neg h]
  exact .inr (.inr (.inr (.inr ⟨h, rfl⟩)))
/-- how a step turns the depth and the most of frames and words -/
theorem doP_next {m : PMod} {lim : Int} {s s' : PSt} {x : PIns} (h : doP m lim s x = .next s') :
    s.mf ≤ s'.mf ∧ s.mw ≤ s'.mw ∧ ((s'.rest.length ≤ s.rest.length ∧ s'.mf = s.mf) ∨ (s'.rest.length = s.rest.length + 1 ∧ (0 < lim → (s.rest.length : Int) + 1 < lim) ∧ s'.mf = max s.mf ((s.rest.length : Int) + 2))) := by
  rcases doP_shape m lim s x with ⟨e, h2, _⟩ | ⟨t, h2⟩ | ⟨_, _, h2⟩ | ⟨_, r, c, hr, h2⟩ | ⟨hd, h2⟩
  · rw [h2] at h; cases h
  · rw [h2] at h
    injection h with e
    subst e
    exact ⟨Int.le_refl _, Int.le_refl _, .inl ⟨Nat.le_refl _, rfl⟩⟩
  · rw [h2] at h; cases h
  · rw [h2] at h
    injection h with e
    subst e
    exact ⟨Int.le_refl _, Int.le_refl _, .inl ⟨by simp [hr], rfl⟩⟩
  · rw [h2] at h
    unfold PSt.depth at hd
    injection h with e
    subst e
    have hl : ((s.rest ++ [s.top]).length : Int) = (s.rest.length : Int) + 1 := by simp
    exact ⟨by simp only [enterP]; omega, by simp only [enterP]; omega, .inr ⟨by simp [enterP], fun hl => by have := not_and.1 hd hl; omega, by simp only [enterP]; omega⟩⟩
theorem doP_done {m : PMod} {lim : Int} {s : PSt} {x : PIns} {v use mf mw : Int} (h : doP m lim s x = .done v use mf mw) : mf = s.mf ∧ mw = s.mw ∧ x.op = 0 ∧ s.rest = [] ∧ v = s.top.rg x.a ∧ use = s.use - sizeOfFn m s.top.fn := by
  rcases doP_shape m lim s x with ⟨e, h2, _⟩ | ⟨t, h2⟩ | ⟨h0, hr, h2⟩ | ⟨_, r, c, hr, h2⟩ | ⟨hd, h2⟩
  · rw [h2] at h; cases h
  · rw [h2] at h; cases h
  · rw [h2] at h
    injection h with a b c d
    exact ⟨c.symm, d.symm, h0, hr, a.symm, b.symm⟩
  · rw [h2] at h; cases h
  · rw [h2] at h; cases h
theorem doP_trap {m : PMod} {lim : Int} {s : PSt} {x : PIns} {e : Int} (h : doP m lim s x = .trap e) : e = 50 ∨ e = 51 ∨ e = 52 ∨ e = 91 := by
  rcases doP_shape m lim s x with ⟨e', h2, h3⟩ | ⟨t, h2⟩ | ⟨h0, hr, h2⟩ | ⟨_, r, c, hr, h2⟩ | ⟨hd, h2⟩
  · rw [h2] at h; injection h with e; subst e; exact h3
  all_goals (rw [h2] at h; cases h)

theorem Inv.step {m : PMod} (hm : Fine m) (h64 : ∀ k i, k < m.funcs.length → i < (fnAt m k).code.length → InsOk ((fnAt m k).code.getD i default)) {s s' : PSt} (h : Inv m s) (hd : doP m 64 s.pass (insAt m s.top) = .next s') : Inv m s' := by
  have h1 := doP_next hd
  have e1 : s.pass.rest = s.rest := rfl
  have e2 : s.pass.mf = s.mf := rfl
  rw [e1, e2] at h1
  have := h.deep; have := h.mf1; have := h.mf2
  refine ⟨step_ok hm h64 h.ok hd, ?_, by omega, ?_⟩
  · omega
  · omega

section
variable {m : PMod} (hm : Fine m) (h64 : ∀ k i, k < m.funcs.length → i < (fnAt m k).code.length → InsOk ((fnAt m k).code.getD i default))
include hm h64
theorem runP_more : ∀ (k k' : Nat) (left steps : Int) (s : PSt), Inv m s → 0 ≤ left → left < k → left < k' → runP m 64 k left steps s = runP m 64 k' left steps s
  | 0, _, _, _, _, _, h0, h1, _ => by omega
  | _, 0, _, _, _, _, h0, _, h1 => by omega
  | k + 1, k' + 1, left, steps, s, hi, h0, h1, h2 => by
    have hw := hi.weight hm
    unfold runP
    split
    · rfl
    · cases hd : doP m 64 s.pass (insAt m s.top) with
      | next s' => exact runP_more k k' _ _ s' (hi.step hm h64 hd) (by omega) (by omega) (by omega)
      | done v u a b => rfl
      | trap e => rfl

/-- what a run answers, and what runs of less fuel do -/
theorem runP_law : ∀ (k : Nat) (left steps : Int) (s : PSt), Inv m s → 0 ≤ left → left < k → ∀ a, a = runP m 64 k left steps s →
    steps ≤ a.steps ∧ a.steps ≤ steps + left ∧ (a.e ≠ 0 → a.v = 0) ∧ s.mf ≤ a.mf ∧ a.mf ≤ 64 ∧ s.mw ≤ a.mw ∧ runP m 64 k (a.steps - steps) steps s = a ∧
    (a.e ≠ 90 → steps < a.steps ∧ ∀ less, 0 ≤ less → less < a.steps - steps → ∀ b, b = runP m 64 k less steps s → b.e = 90 ∧ b.v = 0 ∧ steps ≤ b.steps ∧ b.steps ≤ steps + less ∧ steps + less - b.steps < 8 ∧ b.mf ≤ a.mf ∧ b.mw ≤ a.mw)
  | 0, _, _, _, _, h0, h1, _, _ => by omega
  | k + 1, left, steps, s, hi, h0, h1, a, ha => by
    have hw := hi.weight hm
    have hmf := hi.mf2
    by_cases hl : left < weightZ (insAt m s.top).op
    · have e : a = ⟨90, 0, steps, s.mf, s.mw⟩ := by rw [ha]; unfold runP; rw [if_pos hl]
      subst e
      refine ⟨Int.le_refl _, by dsimp only; omega, fun _ => rfl, Int.le_refl _, hmf, Int.le_refl _, ?_, fun h => absurd rfl h⟩
      dsimp only
      unfold runP
      rw [if_pos (by omega)]
    · cases hd : doP m 64 s.pass (insAt m s.top) with
      | next s' =>
        have hs' := hi.step hm h64 hd
        have hmo := doP_next hd
        have e2 : s.pass.mf = s.mf := rfl
        have e3 : s.pass.mw = s.mw := rfl
        rw [e2, e3] at hmo
        have un : ∀ l, ¬ l < weightZ (insAt m s.top).op → runP m 64 (k + 1) l steps s = runP m 64 k (l - weightZ (insAt m s.top).op) (steps + weightZ (insAt m s.top).op) s' := by
          intro l hl2
          conv => lhs; unfold runP
          rw [if_neg hl2, hd]
        rw [un left hl] at ha
        obtain ⟨r1, r2, r3, r4, r5, r6, r7, r8⟩ := runP_law k _ _ s' hs' (by omega) (by omega) a ha
        refine ⟨by omega, by omega, r3, by omega, r5, by omega, ?_, fun h90 => ?_⟩
        · rw [un _ (by omega), show a.steps - steps - weightZ (insAt m s.top).op = a.steps - (steps + weightZ (insAt m s.top).op) by omega, r7]
        · obtain ⟨q1, q2⟩ := r8 h90
          refine ⟨by omega, fun less l0 l1 b hb => ?_⟩
          by_cases hl3 : less < weightZ (insAt m s.top).op
          · have e : b = ⟨90, 0, steps, s.mf, s.mw⟩ := by rw [hb]; unfold runP; rw [if_pos hl3]
            subst e
            exact ⟨rfl, rfl, Int.le_refl _, by dsimp only; omega, by dsimp only; omega, by dsimp only; omega, by dsimp only; omega⟩
          · rw [un _ hl3] at hb
            obtain ⟨t1, t2, t3, t4, t5, t6, t7⟩ := q2 _ (by omega) (by omega) b hb
            exact ⟨t1, t2, by omega, by omega, by omega, t6, t7⟩
      | done v u mf mw =>
        have hdn := doP_done hd
        have e2 : s.pass.mf = s.mf := rfl
        have e3 : s.pass.mw = s.mw := rfl
        rw [e2, e3] at hdn
        obtain ⟨d1, d2, _⟩ := hdn
        subst d1 d2
        have un : ∀ l, ¬ l < weightZ (insAt m s.top).op → runP m 64 (k + 1) l steps s = ⟨0, v, steps + weightZ (insAt m s.top).op, s.mf, s.mw⟩ := by
          intro l hl2
          unfold runP
          rw [if_neg hl2, hd]
        have e := ha.trans (un left hl)
        subst e
        refine ⟨by dsimp only; omega, by dsimp only; omega, fun h => absurd rfl h, Int.le_refl _, hmf, Int.le_refl _, ?_, fun _ => ⟨by dsimp only; omega, fun less l0 l1 b hb => ?_⟩⟩
        · dsimp only; exact un _ (by omega)
        · dsimp only at l1
          have e : b = ⟨90, 0, steps, s.mf, s.mw⟩ := by rw [hb]; unfold runP; rw [if_pos (by omega)]
          subst e
          exact ⟨rfl, rfl, Int.le_refl _, by dsimp only; omega, by dsimp only; omega, Int.le_refl _, Int.le_refl _⟩
      | trap t =>
        have un : ∀ l, ¬ l < weightZ (insAt m s.top).op → runP m 64 (k + 1) l steps s = ⟨t, 0, steps + weightZ (insAt m s.top).op, s.mf, s.mw⟩ := by
          intro l hl2
          unfold runP
          rw [if_neg hl2, hd]
        have e := ha.trans (un left hl)
        subst e
        refine ⟨by dsimp only; omega, by dsimp only; omega, fun _ => rfl, Int.le_refl _, hmf, Int.le_refl _, ?_, fun _ => ⟨by dsimp only; omega, fun less l0 l1 b hb => ?_⟩⟩
        · dsimp only; exact un _ (by omega)
        · dsimp only at l1
          have e : b = ⟨90, 0, steps, s.mf, s.mw⟩ := by rw [hb]; unfold runP; rw [if_pos (by omega)]
          subst e
          exact ⟨rfl, rfl, Int.le_refl _, by dsimp only; omega, by dsimp only; omega, Int.le_refl _, Int.le_refl _⟩
end

theorem fitsB_length {ps : List PSpan} {xs : List Int} (h : ¬ fitsB ps xs = false) : xs.length = ps.length := by
  by_cases e : xs.length = ps.length
  · exact e
  · exact absurd (fitsB_len ps xs e) h
theorem begin_inv {m : PMod} (hm : Fine m) {k : Nat} (hk : k < m.funcs.length) {args : List Int} (hf : ¬ fitsB (fnAt m k).params args = false) (ha : ∀ v ∈ args, In64 v) : Inv m (beginP m k args) := by
  have hl := fitsB_length hf
  have hn := (hm.fn k hk).np
  refine ⟨⟨fun f hf => by simp [beginP, enterP] at hf, frameOf_ok hm hk 0 (by omega) ha, ?_, ?_⟩, by simp [beginP, enterP], by simp only [beginP, enterP]; omega, by simp only [beginP, enterP, List.length_nil]; omega⟩
  · intro i a b h1 h2
    simp [beginP, enterP] at h2
  · simp [beginP, enterP, useOf, frameOf]
theorem mayP_e {m : PMod} : (mayP m).e ≠ 90 := by
  have hw : ∀ f, (wholeP m f).1 ≠ 90 := by
    intro f; unfold wholeP wholeQ wholeTail; grind
  have hfi : ∀ h r g, fieldP h r g ≠ 90 := by intro h r g; unfold fieldP; grind
  have hki : ∀ nf np n r c b N, kindP nf np n r c b N ≠ 90 := by intro nf np n r c b N; unfold kindP; grind
  have hro : ∀ r c R x, rowP m r c R x ≠ 90 := by
    intro r c R x; unfold rowP
    repeat' split
    all_goals first | exact hfi _ _ _ | exact hki _ _ _ _ _ _ _
  have hi : ∀ x i, bodyI m x i ≠ 90 := by
    intro x i; unfold bodyI instrP
    split
    · decide
    · exact hro _ _ _ _
  have hb : ∀ x, (bodyP m x).1 ≠ 90 := by
    intro x; unfold bodyP
    split
    · exact hi _ _
    · split
      · decide
      · show (64 : Int) ≠ 90; decide
  unfold mayP mayWholes mayFuncs
  repeat' split
  all_goals first | decide | exact hw _ | exact hb _ | (show (66 : Int) ≠ 90; decide)

/-- what the statement on fuel says, of the plain function -/
theorem meterP_law (m : PMod) (name : ByteArray) (args : List Int) (fuel : Int) (h64 : ∀ k i, k < m.funcs.length → i < (fnAt m k).code.length → InsOk ((fnAt m k).code.getD i default)) (ha : ∀ v ∈ args, In64 v) (a : POut) (e : a = meterP m name args fuel) :
    (a.mf = 0 → a = ⟨a.e, 0, 0, 0, 0⟩ ∧ a.e ≠ 0 ∧ a.e ≠ 90) ∧
    (a.mf ≠ 0 → 0 ≤ a.steps ∧ a.steps ≤ fuel ∧ (a.e ≠ 0 → a.v = 0) ∧ 1 ≤ a.mf ∧ a.mf ≤ 64 ∧ meterP m name args a.steps = a ∧
      (a.e ≠ 90 → 0 < a.steps ∧ ∀ less, 0 ≤ less → less < a.steps → ∀ b, b = meterP m name args less → b.e = 90 ∧ b.v = 0 ∧ b.steps ≤ less ∧ less - b.steps < 8 ∧ b.mf ≤ a.mf ∧ b.mw ≤ a.mw)) := by
  by_cases h0 : fuel < 0
  · have : a = ⟨1, 0, 0, 0, 0⟩ := by rw [e]; unfold meterP; rw [if_pos h0]
    subst this
    exact ⟨fun _ => ⟨rfl, by decide, by decide⟩, fun h => absurd rfl h⟩
  · by_cases h1 : (mayP m).e ≠ 0
    · have : a = ⟨(mayP m).e, 0, 0, 0, 0⟩ := by rw [e]; unfold meterP; rw [if_neg h0, if_pos h1]
      subst this
      exact ⟨fun _ => ⟨rfl, h1, mayP_e⟩, fun h => absurd rfl h⟩
    · by_cases h2 : findZ m.funcs name < 0
      · have : a = ⟨8, 0, 0, 0, 0⟩ := by rw [e]; unfold meterP; rw [if_neg h0, if_neg h1, if_pos h2]
        subst this
        exact ⟨fun _ => ⟨rfl, by decide, by decide⟩, fun h => absurd rfl h⟩
      · by_cases h3 : fitsB (fnAt m (findZ m.funcs name).toNat).params args = false
        · have : a = ⟨2, 0, 0, 0, 0⟩ := by rw [e]; unfold meterP; rw [if_neg h0, if_neg h1, if_neg h2, if_pos h3]
          subst this
          exact ⟨fun _ => ⟨rfl, by decide, by decide⟩, fun h => absurd rfl h⟩
        · have hm := fine_of (Decidable.not_not.1 h1)
          have hk : (findZ m.funcs name).toNat < m.funcs.length := by have := findZ_bd m.funcs name; omega
          have hi := begin_inv hm hk h3 ha
          have un : ∀ f, 0 ≤ f → meterP m name args f = runP m 64 (f.toNat + 1) f 0 (beginP m (findZ m.funcs name).toNat args) := by
            intro f hf; unfold meterP; rw [if_neg (by omega), if_neg h1, if_neg h2, if_neg h3]
          rw [un fuel (by omega)] at e
          have un2 : ∀ f, 0 ≤ f → f ≤ fuel → meterP m name args f = runP m 64 (fuel.toNat + 1) f 0 (beginP m (findZ m.funcs name).toNat args) := by
            intro f hf hf2; rw [un f hf]; exact runP_more hm h64 _ _ _ _ _ hi hf (by omega) (by omega)
          obtain ⟨r1, r2, r3, r4, r5, r6, r7, r8⟩ := runP_law hm h64 _ _ _ _ hi (by omega) (by omega) a e
          have := hi.mf1
          refine ⟨fun h => by omega, fun _ => ⟨r1, by omega, r3, by omega, r5, ?_, fun h90 => ⟨(r8 h90).1, fun less l0 l1 b hb => ?_⟩⟩⟩
          · rw [un2 _ (by omega) (by omega)]
            simpa using r7
          · rw [un2 _ l0 (by omega)] at hb
            obtain ⟨t1, t2, t3, t4, t5, t6, t7⟩ := (r8 h90).2 less l0 (by omega) b hb
            exact ⟨t1, t2, by omega, by omega, t6, t7⟩
end Go.Proofs.YtgpdggjpbmgegaaDoor
