/- What stays true of a run: every frame is of a function of the module, stands at an instruction of its code and has its registers and words. Plain Lean: no program in sight. -/
import Derived.Test.YtgpdggjpbmgegaaDoorHeap
import Derived.Test.YtgpdggjpbmgegaaDoorMach
namespace Go.Proofs.YtgpdggjpbmgegaaDoor
open Go.RowKit
set_option linter.unusedVariables false
set_option linter.unusedSimpArgs false


structure FnFine (m : PMod) (f : PFunc) : Prop where
  r1 : 1 ≤ f.regs
  r2 : f.regs ≤ 64
  np : (f.params.length : Int) ≤ f.regs
  np8 : f.params.length ≤ 8
  w0 : 0 ≤ f.words
  w1 : f.words ≤ 4096
  c1 : 1 ≤ f.code.length
  c2 : f.code.length ≤ 1024
structure InsFine (m : PMod) (f : PFunc) (x : PIns) : Prop where
  op0 : 0 ≤ x.op
  op1 : x.op < 20
  a0 : 0 ≤ x.a
  a1 : x.a < f.regs
  b0 : 0 ≤ x.b
  b1 : x.b < f.regs
  c0 : 0 ≤ x.c
  c1 : x.c < f.regs
  tgt : 14 ≤ x.op → x.op ≤ 18 → 0 ≤ x.n ∧ x.n < f.code.length
  call : x.op = 19 → 0 ≤ x.n ∧ x.n < m.funcs.length ∧ x.b + (fnAt m x.n.toNat).params.length ≤ f.regs
/-- a module with which nothing is wrong -/
structure Fine (m : PMod) : Prop where
  few : m.funcs.length ≤ 32
  fn : ∀ k, k < m.funcs.length → FnFine m (fnAt m k)
  ins : ∀ k i, k < m.funcs.length → i < (fnAt m k).code.length → InsFine m (fnAt m k) ((fnAt m k).code.getD i default)
  last : ∀ k i, k < m.funcs.length → i + 1 = (fnAt m k).code.length → ((fnAt m k).code.getD i default).op = 0 ∨ ((fnAt m k).code.getD i default).op = 14 ∨ ((fnAt m k).code.getD i default).op = 18

theorem fieldP_ok {has : Bool} {r regs : Int} (hr : 1 ≤ regs) (h : fieldP has r regs = 0) : 0 ≤ r ∧ r < regs := by
  unfold fieldP at h; cases has <;> simp at h <;> grind
theorem insFine {m : PMod} {f : PFunc} {x : PIns} (hr : 1 ≤ f.regs) (h : instrP m f.regs f.code.length x = 0) : InsFine m f x := by
  unfold instrP at h
  have hk : knownB x.op = true := by
    cases hk : knownB x.op
    · rw [hk] at h; simp at h
    · rfl
  rw [hk] at h
  simp only [Bool.true_eq_false, if_false] at h
  unfold rowP at h
  have hk2 : 0 ≤ x.op ∧ x.op < 20 := by simpa [knownB] using hk
  split at h
  · rename_i h1; exact absurd h h1
  · rename_i h1
    split at h
    · rename_i h2; exact absurd h h2
    · rename_i h2
      split at h
      · rename_i h3; exact absurd h h3
      · rename_i h3
        have fa := fieldP_ok hr (Decidable.not_not.1 h1)
        have fb := fieldP_ok hr (Decidable.not_not.1 h2)
        have fc := fieldP_ok hr (Decidable.not_not.1 h3)
        refine ⟨hk2.1, hk2.2, fa.1, fa.2, fb.1, fb.2, fc.1, fc.2, fun l1 l2 => ?_, fun l => ?_⟩
        · have hn : (rowAt x.op.toNat).n = 2 := by
            rcases (show x.op = 14 ∨ x.op = 15 ∨ x.op = 16 ∨ x.op = 17 ∨ x.op = 18 by omega) with e | e | e | e | e <;> rw [e] <;> rfl
          rw [hn] at h
          unfold kindP at h
          grind
        · have hn : (rowAt x.op.toNat).n = 4 := by rw [l]; rfl
          rw [hn] at h
          unfold kindP paramsOf at h
          unfold fnAt
          grind
theorem fine_of {m : PMod} (h : (mayP m).e = 0) : Fine m := by
  unfold mayP at h
  split at h
  · simp at h
  · split at h
    · simp at h
    · split at h
      · simp at h
      · rename_i h32
        unfold mayWholes at h
        split at h
        · rename_i f hf
          have := (firstI_spec hf).2.1
          simp at this
          exact absurd h this
        · rename_i hw
          have hw2 := firstI_no hw
          have hwh : ∀ k, k < m.funcs.length → (wholeP m k).1 = 0 := fun k hk => by simpa using hw2 k hk
          unfold mayFuncs at h
          split at h
          · rename_i f hf
            have := (firstI_spec hf).2.1
            simp at this
            exact absurd h this
          · rename_i hb
            have hb2 := firstI_no hb
            have hbo : ∀ k, k < m.funcs.length → (bodyP m (fnAt m k)).1 = 0 := fun k hk => by unfold fnAt; simpa using hb2 k hk
            have hbody : ∀ k, k < m.funcs.length → (∀ i, i < (fnAt m k).code.length → bodyI m (fnAt m k) i = 0) ∧ (lastOp (fnAt m k) = 0 ∨ lastOp (fnAt m k) = 14 ∨ lastOp (fnAt m k) = 18) := by
              intro k hk
              have := hbo k hk
              unfold bodyP at this
              split at this
              · rename_i i hi
                have h2 := (firstI_spec hi).2.1
                simp at h2
                exact absurd this h2
              · rename_i hi
                refine ⟨fun i hlt => by simpa using firstI_no hi i hlt, ?_⟩
                split at this
                · assumption
                · simp at this
            have hfn : ∀ k, k < m.funcs.length → FnFine m (fnAt m k) := fun k hk => by
              have := wholeP_ok (hwh k hk)
              unfold fnAt
              exact ⟨this.2.2.2.1, this.2.2.2.2.1, this.2.2.2.2.2.1, this.2.2.1, this.2.2.2.2.2.2.1, this.2.2.2.2.2.2.2.1, this.2.2.2.2.2.2.2.2.1, this.2.2.2.2.2.2.2.2.2.1⟩
            refine ⟨by omega, hfn, fun k i hk hi => insFine (hfn k hk).r1 ((hbody k hk).1 i hi), fun k i hk hi => ?_⟩
            have := (hbody k hk).2
            unfold lastOp at this
            rw [← hi] at this
            simpa using this

/-- a frame is one of the module's -/
structure FrOk (m : PMod) (f : PFr) : Prop where
  fn : f.fn < m.funcs.length
  at0 : 0 ≤ f.at_
  at1 : f.at_ < (fnAt m f.fn).code.length
  rl : (f.regs.length : Int) = (fnAt m f.fn).regs
  wl : (f.words.length : Int) = (fnAt m f.fn).words
  r64 : ∀ v ∈ f.regs, In64 v
  w64 : ∀ v ∈ f.words, In64 v
def frKey (f : PFr) : Int × Nat := (f.into, f.regs.length)
def Links (l : List (Int × Nat)) : Prop := ∀ i a b, l[i]? = some a → l[i + 1]? = some b → 0 ≤ b.1 ∧ b.1 < a.2
theorem Links.left {l k : List (Int × Nat)} (h : Links (l ++ k)) : Links l := fun i a b ha hb => by
  have h1 := (List.getElem?_eq_some_iff.1 ha).1
  have h2 := (List.getElem?_eq_some_iff.1 hb).1
  exact h i a b (by rw [List.getElem?_append_left h1]; exact ha) (by rw [List.getElem?_append_left h2]; exact hb)
theorem Links.snoc {l : List (Int × Nat)} {c t : Int × Nat} (h : Links (l ++ [c])) (h2 : 0 ≤ t.1 ∧ t.1 < c.2) : Links (l ++ [c] ++ [t]) := fun i a b ha hb => by
  by_cases e : i + 1 < (l ++ [c]).length
  · exact h i a b (by rw [List.getElem?_append_left (by omega)] at ha; exact ha) (by rw [List.getElem?_append_left e] at hb; exact hb)
  · have h3 := (List.getElem?_eq_some_iff.1 hb).1
    simp at e h3
    have hi : i = l.length := by omega
    subst hi
    simp at ha hb
    subst ha hb
    exact h2
theorem Links.pair {l : List (Int × Nat)} {c t : Int × Nat} (h : Links (l ++ [c] ++ [t])) : 0 ≤ t.1 ∧ t.1 < c.2 := h l.length c t (by simp) (by simp)
def useOf (m : PMod) (l : List PFr) : Int := (l.map fun f => sizeOfFn m f.fn).sum

structure StOk (m : PMod) (s : PSt) : Prop where
  rest : ∀ f ∈ s.rest, FrOk m f
  top : FrOk m s.top
  links : Links ((s.rest ++ [s.top]).map frKey)
  use : s.use = useOf m (s.rest ++ [s.top])

theorem useOf_bd {m : PMod} (hm : Fine m) : ∀ (l : List PFr), (∀ f ∈ l, f.fn < m.funcs.length) → 0 ≤ useOf m l ∧ useOf m l ≤ 4160 * l.length
  | [], _ => by simp [useOf]
  | f :: l, h => by
    have ih := useOf_bd hm l (fun g hg => h g (by simp [hg]))
    have k := hm.fn _ (h f (by simp))
    have e : useOf m (f :: l) = sizeOfFn m f.fn + useOf m l := by simp [useOf]
    rw [e]
    unfold sizeOfFn
    have := k.r1; have := k.r2; have := k.w0; have := k.w1
    simp only [List.length_cons]
    omega
theorem StOk.bd {m : PMod} (hm : Fine m) {s : PSt} (h : StOk m s) : 0 ≤ s.use ∧ s.use ≤ 4160 * s.rest.length + 4160 := by
  have := useOf_bd hm (s.rest ++ [s.top]) (fun f hf => by
    rcases List.mem_append.1 hf with k | k
    · exact (h.rest f k).fn
    · rw [List.mem_singleton.1 k]; exact h.top.fn)
  rw [h.use]; simp at this; omega
theorem getD64 {l : List Int} (h : ∀ v ∈ l, In64 v) (i : Nat) : In64 (l.getD i 0) := by
  rw [List.getD_eq_getElem?_getD]
  cases e : l[i]? with
  | none => simp [In64]
  | some v => exact h v (List.mem_of_getElem? e)
theorem set64 {l : List Int} (h : ∀ v ∈ l, In64 v) (i : Nat) {u : Int} (hu : In64 u) : ∀ v ∈ l.set i u, In64 v := fun v hv => by
  rcases List.mem_or_eq_of_mem_set hv with k | k
  · exact h v k
  · rw [k]; exact hu
theorem wrap64_In (n : Int) : In64 (wrap64 n) := by unfold In64 wrap64; omega
theorem numV64 (op : Int) {a b : Int} (ha : In64 a) (hb : In64 b) : In64 (numV op a b) := by
  unfold numV
  repeat' split
  all_goals first | exact wrap64_In _ | (simp [In64]; done) | skip
  unfold In64 at *
  have h1 : (a.tmod b).natAbs ≤ a.natAbs := by rw [Int.natAbs_tmod]; exact Nat.mod_le _ _
  have h2 : a < 0 → a.tmod b ≤ 0 := fun h => by
    have := Int.tmod_nonneg b (show 0 ≤ -a by omega)
    rw [Int.neg_tmod] at this; omega
  have h3 : 0 ≤ a → 0 ≤ a.tmod b := fun h => Int.tmod_nonneg b h
  omega

theorem frameOf_ok {m : PMod} (hm : Fine m) {k : Nat} (hk : k < m.funcs.length) (into : Int) {xs : List Int} (hx : (xs.length : Int) ≤ (fnAt m k).regs) (h64 : ∀ v ∈ xs, In64 v) : FrOk m (frameOf m k into xs) := by
  have f := hm.fn k hk
  have := f.r1; have := f.w0; have := f.c1
  have hz : ∀ n v, v ∈ List.replicate n (0 : Int) → In64 v := fun n v hv => by rw [(List.mem_replicate.1 hv).2]; simp [In64]
  refine ⟨hk, Int.le_refl 0, by show (0 : Int) < ((fnAt m k).code.length : Int); omega, ?_, ?_, ?_, ?_⟩
  · simp only [frameOf, zeros, List.drop_replicate, List.length_append, List.length_replicate]; omega
  · simp only [frameOf, zeros, List.length_replicate]; omega
  · intro v hv
    simp only [frameOf, zeros, List.drop_replicate] at hv
    rcases List.mem_append.1 hv with h | h
    · exact h64 v h
    · exact hz _ v h
  · intro v hv; exact hz _ v hv

theorem insAt_fine {m : PMod} (hm : Fine m) {f : PFr} (h : FrOk m f) : InsFine m (fnAt m f.fn) (insAt m f) := hm.ins _ _ h.fn (by have := h.at0; have := h.at1; omega)
theorem insAt_last {m : PMod} (hm : Fine m) {f : PFr} (h : FrOk m f) (ho : (insAt m f).op ≠ 0) (h14 : (insAt m f).op ≠ 14) (h18 : (insAt m f).op ≠ 18) : f.at_ + 1 < (fnAt m f.fn).code.length := by
  have h0 := h.at0; have h1 := h.at1
  by_cases e : f.at_.toNat + 1 = (fnAt m f.fn).code.length
  · have := hm.last _ _ h.fn e
    unfold insAt at ho h14 h18
    omega
  · omega

theorem StOk.keep {m : PMod} {s : PSt} (h : StOk m s) {t : PFr} (ht : FrOk m t) (hk : frKey t = frKey s.top) (hf : t.fn = s.top.fn) : StOk m { s with top := t } := by
  refine ⟨h.rest, ht, ?_, ?_⟩
  · have := h.links
    simp only [List.map_append, List.map_cons, List.map_nil] at this ⊢
    rw [hk]; exact this
  · have := h.use
    simp only [useOf, List.map_append, List.map_cons, List.map_nil] at this ⊢
    rw [hf]; exact this
theorem FrOk.put {m : PMod} {f : PFr} (h : FrOk m f) (i v : Int) (hv : In64 v) : FrOk m (f.put i v) :=
  ⟨h.fn, h.at0, h.at1, by simpa [PFr.put] using h.rl, h.wl, set64 h.r64 _ hv, h.w64⟩
theorem FrOk.goto {m : PMod} {f : PFr} (h : FrOk m f) (n : Int) (h0 : 0 ≤ n) (h1 : n < (fnAt m f.fn).code.length) : FrOk m (f.goto n) := ⟨h.fn, h0, h1, h.rl, h.wl, h.r64, h.w64⟩

/-- a step leads from such a state to such a state -/
theorem step_ok {m : PMod} (hm : Fine m) (h64 : ∀ k i, k < m.funcs.length → i < (fnAt m k).code.length → InsOk ((fnAt m k).code.getD i default)) {s s' : PSt} (h : StOk m s) {lim : Int} (hd : doP m lim s.pass (insAt m s.top) = .next s') : StOk m s' := by
  have hf := insAt_fine hm h.top
  have hl := insAt_last hm h.top
  have hx : InsOk (insAt m s.top) := h64 _ _ h.top.fn (by have := h.top.at0; have := h.top.at1; omega)
  have h0 := h.top.at0
  generalize insAt m s.top = x at *
  have hp : ∀ (_ : x.op ≠ 0) (_ : x.op ≠ 14) (_ : x.op ≠ 18), FrOk m s.pass.top := fun a b c => h.top.goto _ (by omega) (hl a b c)
  have h64r : ∀ i, In64 (s.pass.top.rg i) := fun i => getD64 h.top.r64 _
  have hn64 : In64 x.n := hx.2.2.2.2
  have K : ∀ t, FrOk m t → frKey t = frKey s.top → t.fn = s.top.fn → PRes.next { s.pass with top := t } = .next s' → StOk m s' := by
    intro t a b c e
    injection e with e
    subst e
    exact h.keep a b c
  have kp : ∀ i v, frKey (s.pass.top.put i v) = frKey s.top := fun i v => by simp [frKey, PFr.put, PSt.pass, PFr.goto]
  have kg : ∀ n, frKey (s.pass.top.goto n) = frKey s.top := fun n => by simp [frKey, PSt.pass, PFr.goto]
  unfold doP at hd
  dsimp only at hd
  have gg : ∀ n, 0 ≤ n → n < ((fnAt m s.top.fn).code.length : Int) → FrOk m (s.pass.top.goto n) := fun n a b => (h.top.goto n a b)
  by_cases o0 : x.op = 0
  · rw [if_pos o0] at hd
    split at hd
    · cases hd
    · rename_i c hc
      injection hd with e
      subst e
      obtain ⟨r, hr⟩ : ∃ r, s.rest = r ++ [c] := by
        obtain ⟨hne, e⟩ := List.getLast?_eq_some_iff.1 hc
        exact ⟨_, e⟩
      have hr2 : s.pass.rest = r ++ [c] := hr
      have hlk := h.links
      have hus := h.use
      rw [hr] at hlk hus
      simp only [List.map_append, List.map_cons, List.map_nil] at hlk
      refine ⟨fun f hf2 => h.rest f (by rw [hr]; rw [hr2] at hf2; simp at hf2; simp [hf2]), (h.rest c (by rw [hr]; simp)).put _ _ (h64r _), ?_, ?_⟩
      · rw [hr2]
        have := hlk.left
        simpa [frKey, PFr.put] using this
      · rw [hr2]
        simp only [useOf, List.map_append, List.map_cons, List.map_nil, List.sum_append, List.sum_cons, List.sum_nil, List.dropLast_concat] at hus ⊢
        have e1 : (c.put s.pass.top.into (s.pass.top.rg x.a)).fn = c.fn := rfl
        have e2 : s.pass.use = s.use := rfl
        have e3 : s.pass.top.fn = s.top.fn := rfl
        rw [e1, e2, e3, hus]; omega
  · rw [if_neg o0] at hd
    by_cases o1 : x.op = 1
    · rw [if_pos o1] at hd; exact K _ ((hp (by omega) (by omega) (by omega)).put _ _ hn64) (kp _ _) rfl hd
    · rw [if_neg o1] at hd
      by_cases o2 : x.op = 2
      · rw [if_pos o2] at hd; exact K _ ((hp (by omega) (by omega) (by omega)).put _ _ (h64r _)) (kp _ _) rfl hd
      · rw [if_neg o2] at hd
        by_cases o3 : x.op = 3 ∨ x.op = 4 ∨ x.op = 5 ∨ x.op = 8 ∨ x.op = 9
        · rw [if_pos o3] at hd; exact K _ ((hp (by omega) (by omega) (by omega)).put _ _ (numV64 _ (h64r _) (h64r _))) (kp _ _) rfl hd
        · rw [if_neg o3] at hd
          by_cases o4 : x.op = 6 ∨ x.op = 7
          · rw [if_pos o4] at hd
            split at hd
            · cases hd
            · exact K _ ((hp (by omega) (by omega) (by omega)).put _ _ (numV64 _ (h64r _) (h64r _))) (kp _ _) rfl hd
          · rw [if_neg o4] at hd
            by_cases o5 : x.op = 10
            · rw [if_pos o5] at hd; exact K _ ((hp (by omega) (by omega) (by omega)).put _ _ (by unfold truthZ; split <;> simp [In64])) (kp _ _) rfl hd
            · rw [if_neg o5] at hd
              by_cases o6 : x.op = 11
              · rw [if_pos o6] at hd
                split at hd
                · exact K _ ((hp (by omega) (by omega) (by omega)).put _ _ (getD64 h.top.w64 _)) (kp _ _) rfl hd
                · cases hd
              · rw [if_neg o6] at hd
                by_cases o7 : x.op = 12
                · rw [if_pos o7] at hd
                  split at hd
                  · have q := hp (by omega) (by omega) (by omega)
                    exact K { s.pass.top with words := s.pass.top.words.set (s.pass.top.rg x.b + x.n).toNat (s.pass.top.rg x.a) } ⟨q.fn, q.at0, q.at1, q.rl, by simpa using q.wl, q.r64, set64 q.w64 _ (h64r _)⟩ rfl rfl hd
                  · cases hd
                · rw [if_neg o7] at hd
                  by_cases o8 : x.op = 13
                  · rw [if_pos o8] at hd
                    split at hd
                    · exact K _ (hp (by omega) (by omega) (by omega)) rfl rfl hd
                    · cases hd
                  · rw [if_neg o8] at hd
                    by_cases o9 : x.op = 14
                    · rw [if_pos o9] at hd
                      have := hf.tgt (by omega) (by omega)
                      exact K _ (gg _ this.1 this.2) (kg _) rfl hd
                    · rw [if_neg o9] at hd
                      by_cases o10 : x.op = 15
                      · rw [if_pos o10] at hd
                        have := hf.tgt (by omega) (by omega)
                        split at hd
                        · exact K _ (gg _ this.1 this.2) (kg _) rfl hd
                        · exact K _ (hp (by omega) (by omega) (by omega)) rfl rfl hd
                      · rw [if_neg o10] at hd
                        by_cases o11 : x.op = 16
                        · rw [if_pos o11] at hd
                          have := hf.tgt (by omega) (by omega)
                          split at hd
                          · exact K _ (gg _ this.1 this.2) (kg _) rfl hd
                          · exact K _ (hp (by omega) (by omega) (by omega)) rfl rfl hd
                        · rw [if_neg o11] at hd
                          by_cases o12 : x.op = 17
                          · rw [if_pos o12] at hd
                            have := hf.tgt (by omega) (by omega)
                            split at hd
                            · exact K _ (gg _ this.1 this.2) (kg _) rfl hd
                            · exact K _ (hp (by omega) (by omega) (by omega)) rfl rfl hd
                          · rw [if_neg o12] at hd
                            by_cases o13 : x.op = 18
                            · rw [if_pos o13] at hd
                              have := hf.tgt (by omega) (by omega)
                              exact K _ ((h.top.put _ _ (wrap64_In _)).goto _ this.1 this.2) (by simp [frKey, PFr.put, PSt.pass, PFr.goto]) rfl hd
                            · rw [if_neg o13] at hd
                              split at hd
                              · cases hd
                              · split at hd
                                · cases hd
                                · injection hd with e
                                  subst e
                                  have o19 : x.op = 19 := by have := hf.op0; have := hf.op1; omega
                                  obtain ⟨n0, n1, n2⟩ := hf.call o19
                                  have q := hp (by omega) (by omega) (by omega)
                                  have hnl : x.n.toNat < m.funcs.length := by omega
                                  have hal : ((argsOf m s.pass.top x).length : Int) ≤ (fnAt m x.n.toNat).regs := by
                                    have := (hm.fn _ hnl).np
                                    unfold argsOf
                                    rw [List.length_take]; omega
                                  have ha64 : ∀ v ∈ argsOf m s.pass.top x, In64 v := fun v hv => q.r64 v (List.mem_of_mem_drop (List.mem_of_mem_take hv))
                                  refine ⟨?_, frameOf_ok hm hnl _ hal ha64, ?_, ?_⟩
                                  · intro f hf2
                                    rcases List.mem_append.1 hf2 with k | k
                                    · exact h.rest f k
                                    · rw [List.mem_singleton.1 k]; exact q
                                  · have hlk := h.links
                                    simp only [enterP, List.map_append, List.map_cons, List.map_nil] at hlk ⊢
                                    refine Links.snoc (by simpa [frKey, PSt.pass, PFr.goto] using hlk) ?_
                                    have := h.top.rl
                                    have := hf.a0; have := hf.a1
                                    simp only [frKey, frameOf, PSt.pass, PFr.goto]
                                    omega
                                  · have hus := h.use
                                    simp only [enterP, useOf, List.map_append, List.map_cons, List.map_nil, List.sum_append, List.sum_cons, List.sum_nil] at hus ⊢
                                    have e1 : (frameOf m x.n.toNat x.a (argsOf m s.pass.top x)).fn = x.n.toNat := rfl
                                    have e2 : s.pass.use = s.use := rfl
                                    have e3 : s.pass.top.fn = s.top.fn := rfl
                                    have e4 : s.pass.rest = s.rest := rfl
                                    rw [e1, e2, e3, e4, hus]; omega
end Go.Proofs.YtgpdggjpbmgegaaDoor
