/- Arguments opened with the reach: how long a module's lists are, at most. -/
import Derived.Test.YtgpdggjpbmgegaaDoorLiftM
import Derived.Test.YtgpdggjpbmgegaaDoorLens
namespace Go.Proofs.YtgpdggjpbmgegaaDoor
open Go.ChangeShapes Go.WideShapes Go.ChangeAt Go.RowKit Go.Deep Go.Joins
set_option linter.unusedVariables false
set_option linter.unusedSimpArgs false

def Within {H : Type} (t : TypeId) (d : DataW H) : Prop := ∀ u ∈ d.weights Tryd.prog t, u ≤ reachBytes
theorem weightsAll_mem {H : Type} {P : Program} {e : TypeId} {d : DataW H} {u : Nat} (hu : u ∈ d.weights P e) : ∀ {l : List (DataW H)}, d ∈ l → u ∈ DataW.weightsAll P e l
  | x :: r, h => by
    rw [DataW.weightsAll]
    rcases List.mem_cons.1 h with e | e
    · subst e; exact List.mem_append.2 (.inl hu)
    · exact List.mem_append.2 (.inr (weightsAll_mem hu e))

section
variable {H : Type} {enc : TypeId × Value → H} {W : World} {base : Nat} {sp : Nat → Bool} {hd : Bool}

/-- a slice's length, and its elements' own weights -/
theorem slice_within {t e : TypeId} (ht : Tryd.prog.underlying t = some (.slice e)) {len k : Nat} {D : Nat → DataW H} (hw : Within t (.slice ((List.range len).map D) ((List.range k).map fun j => D (len + j)))) :
    len * Tryd.prog.bytesOf e ≤ reachBytes ∧ ∀ i, i < len → Within e (D i) := by
  unfold Within at *
  rw [DataW.weights, ht] at hw
  refine ⟨?_, fun i hi u hu => hw u ?_⟩
  · have := hw _ (List.mem_cons.2 (.inl rfl))
    simp only [List.length_map, List.length_range] at this
    exact Nat.le_trans (Nat.mul_le_mul_right _ (by omega)) this
  · refine List.mem_cons.2 (.inr (List.mem_append.2 (.inl (weightsAll_mem hu ?_))))
    exact List.mem_map.2 ⟨i, List.mem_range.2 hi, rfl⟩

theorem b2 : Tryd.prog.bytesOf 2 = 8 := by kernel_rfl
theorem b74 : Tryd.prog.bytesOf 74 = 16 := by kernel_rfl
theorem b47 : Tryd.prog.bytesOf 47 = 40 := by kernel_rfl
theorem b51 : Tryd.prog.bytesOf 51 = 80 := by kernel_rfl

/-- how long a slice is -/
theorem len_within {t e : TypeId} {k : Nat} (ht : Tryd.prog.underlying t = some (.slice e)) (hb : Tryd.prog.bytesOf e = k) {fuel : Nat} {a : Option Addr} {n c : Nat} {x : DataW H × List MemPlace}
    (h : DataW.trod enc Tryd.prog W base sp hd fuel t [.slice a n c] = some x) (hw : Within t x.1) : n * k ≤ reachBytes := by
  rcases open_slice ht h with ⟨e1, _⟩ | ⟨a', len, cap, m, n', D, Pl, e1, hb', hl, hm, hmm, rfl, hx⟩
  · simp only [List.cons.injEq, Value.slice.injEq, and_true] at e1
    rw [e1.2.1]; omega
  · simp only [List.cons.injEq, Value.slice.injEq, and_true] at e1
    rw [e1.2.1, ← hb]
    exact (slice_within ht hw).1

set_option maxRecDepth 100000 in
theorem func_within {fuel : Nat} {f : PFunc} {k : HF} {x : DataW H × List MemPlace} (h : DataW.trod enc Tryd.prog W base sp hd fuel 51 [.string f.name, .slice k.pa k.pl k.pc, .int .i64 f.regs, .int .i64 f.words, .slice k.ca k.cl k.cc] = some x) (hw : Within 51 x.1) : k.pl * 16 ≤ reachBytes ∧ k.cl * 40 ≤ reachBytes := by
  obtain ⟨xs, m, rfl, rfl, hl, hlen, hf⟩ := DataW.trod_struct Tryd.underlying51 h
  match xs, hlen with
  | [y0, y1, y2, y3, y4], _ =>
    have k1 : DataW.trod enc Tryd.prog W base sp hd m 49 [.slice k.pa k.pl k.pc] = some y1 := by have := hf 1 _ rfl; simpa [c49] using this
    have k4 : DataW.trod enc Tryd.prog W base sp hd m 48 [.slice k.ca k.cl k.cc] = some y4 := by have := hf 4 _ rfl; simpa [c48] using this
    have w1 : Within 49 y1.1 := fun u hu => hw u (by
      rw [List.map_cons, List.map_cons, List.map_cons, List.map_cons, List.map_cons, List.map_nil, DataW.weights, Tryd.underlying51]
      simp only [List.map_cons, List.map_nil, DataW.weightsEach, List.mem_append]
      exact .inr (.inl hu))
    have w4 : Within 48 y4.1 := fun u hu => hw u (by
      rw [List.map_cons, List.map_cons, List.map_cons, List.map_cons, List.map_cons, List.map_nil, DataW.weights, Tryd.underlying51]
      simp only [List.map_cons, List.map_nil, DataW.weightsEach, List.mem_append]
      exact .inr (.inr (.inr (.inr (.inl hu)))))
    exact ⟨len_within Tryd.underlying49 b74 k1 w1, len_within Tryd.underlying48 b47 k4 w4⟩

set_option maxRecDepth 100000 in
theorem open_modS {r : Reach} {b0 : Nat} {v : Value} {d : DataW H} {p : List MemPlace} (hv : Value.okWide Tryd.prog W r b0 26 v) (h : DataW.Trod enc Tryd.prog W base sp hd 26 v d p) (hw : Within 26 d) : ∃ m, ModAt W.heap.size W v m ∧ LenMod m := by
  obtain ⟨v0, v1, y0, y1, n, rfl, rfl, _, h0, h1⟩ := open_agg2 Tryd.underlying26 (by kernel_rfl) (by kernel_rfl) hv h
  have w0 : Within 23 y0.1 := fun u hu => hw u (by
    rw [DataW.weights, Tryd.underlying26]
    simp only [List.map_cons, List.map_nil, DataW.weightsEach, List.mem_append]
    exact .inl hu)
  have w1 : Within 24 y1.1 := fun u hu => hw u (by
    rw [DataW.weights, Tryd.underlying26]
    simp only [List.map_cons, List.map_nil, DataW.weightsEach, List.mem_append]
    exact .inr (.inl hu))
  obtain ⟨ta, tl, tc, zs, e0, q0, _⟩ := open_nums h0
  simp only [List.cons.injEq, and_true] at e0
  subst e0
  have hr : reachBytes ≤ 140737488355328 := by decide
  have t0 := len_within Tryd.underlying23 b2 h0 w0
  rcases open_slice Tryd.underlying24 h1 with ⟨e1, _⟩ | ⟨a, len, cap, mm, n', D, Pl, e1, hb, hl, hm, hmm, e2, hx⟩
  · simp only [List.cons.injEq, and_true] at e1
    subst e1
    refine ⟨⟨zs, []⟩, ⟨ta, tl, tc, none, 0, 0, rfl, q0, rfl, Nat.zero_le _, 0, 0, fun h => absurd h (Nat.lt_irrefl 0), fun _ => default, fun i h => absurd h (Nat.not_lt_zero i)⟩, ?_, Nat.zero_le _, fun i h => absurd h (Nat.not_lt_zero i)⟩
    show zs.length ≤ _
    have := q0.1
    omega
  · simp only [List.cons.injEq, and_true] at e1
    subst e1
    have hws : Within 24 (DataW.slice ((List.range len).map D) ((List.range (mm - len)).map fun j => D (len + j))) := by
      have := w1; rw [e2] at this; exact this
    obtain ⟨wl, we⟩ := slice_within Tryd.underlying24 hws
    rw [b51] at wl
    have hlm : len ≤ mm := by rw [hmm]; split <;> omega
    obtain ⟨Z, hZ⟩ := choose_lt (α := PFunc × HF) (n := len) (p := fun i z => FuncOk W.heap.size W z.2 z.1 ∧ z.1.params.length ≤ 140737488355328 ∧ z.1.code.length ≤ 140737488355328 ∧ ∀ j, j < 5 → W.cell? ((a.add (i * 5)).add j) = [.string z.1.name, .slice z.2.pa z.2.pl z.2.pc, .int .i64 z.1.regs, .int .i64 z.1.words, .slice z.2.ca z.2.cl z.2.cc][j]?) (fun i hi => by
      obtain ⟨ce, h3, h4⟩ := hx i (by omega)
      rw [c51] at h3
      obtain ⟨_, hlen, hce⟩ := World.cells?_some h3
      obtain ⟨f, k, rfl, ok⟩ := open_func h4
      have hb := func_within h4 (we i hi)
      have ok2 := ok
      obtain ⟨_, ⟨p1, _⟩, ⟨c1, _⟩, _, _⟩ := ok2
      exact ⟨(f, k), ok, by simp only []; omega, by simp only []; omega, hce⟩)
    have ha : 0 < len → a = ⟨a.block, a.off, none⟩ ∧ a.block < W.heap.size := by
      intro h0
      obtain ⟨_, _, _, hce⟩ := hZ 0 h0
      have h1 := hce 0 (by omega)
      simp only [Nat.zero_mul] at h1
      have e0 : (a.add 0).add 0 = a.add 0 := by simp [Addr.add]
      rw [e0] at h1
      have h1' : W.cell? (a.add 0) = some (.string (Z 0).1.name) := h1
      refine ⟨?_, ?_⟩
      · rcases at_spot h1' with e | e
        · exact e
        · omega
      · have := lt_of_cell? h1'; simpa [Addr.add] using this
    have eg : ∀ i, i < len → ((List.range len).map fun i => (Z i).1).getD i default = (Z i).1 := fun i hi => by simp [List.getD_eq_getElem?_getD, List.getElem?_map, List.getElem?_range hi]
    refine ⟨⟨zs, (List.range len).map fun i => (Z i).1⟩, ⟨ta, tl, tc, some a, len, cap, rfl, q0, by simp, by omega, a.block, a.off, fun h0 => ⟨by rw [← (ha h0).1], (ha h0).2⟩, fun i => (Z i).2, fun i hi => ?_⟩, ?_, ?_, fun i hi => ?_⟩
    · have hi' : i < len := by simpa using hi
      obtain ⟨ok, _, _, hce⟩ := hZ i hi'
      rw [eg i hi']
      have hc : ∀ j, j < 5 → W.cell? ⟨a.block, a.off + i * 5 + j, none⟩ = [.string (Z i).1.name, .slice (Z i).2.pa (Z i).2.pl (Z i).2.pc, .int .i64 (Z i).1.regs, .int .i64 (Z i).1.words, .slice (Z i).2.ca (Z i).2.cl (Z i).2.cc][j]? := by
        intro j hj
        have := hce j hj
        rw [(ha (by omega)).1, add_plain, add_plain] at this
        exact this
      exact ⟨⟨hc 0 (by omega), hc 1 (by omega), hc 2 (by omega), hc 3 (by omega), hc 4 (by omega)⟩, ok⟩
    · show zs.length ≤ _
      have := q0.1
      omega
    · show ((List.range len).map fun i => (Z i).1).length ≤ _
      simp; omega
    · have hi' : i < len := by simpa using hi
      unfold fnAt
      dsimp only
      rw [eg i hi']
      exact ⟨(hZ i hi').2.1, (hZ i hi').2.2.1⟩
set_option maxRecDepth 100000 in
theorem open_numsS {v : Value} {d : DataW H} {p : List MemPlace} {r : Reach} {b0 : Nat} (hv : Value.okWide Tryd.prog W r b0 23 v) (h : DataW.Trod enc Tryd.prog W base sp hd 23 v d p) (hw : Within 23 d) : ∃ a n c zs, v = .slice a n c ∧ NumsAt W.heap.size W a n zs ∧ n ≤ c ∧ c ≤ maxLen ∧ n ≤ 140737488355328 := by
  obtain ⟨a, n, c, zs, rfl, w0, w1, w2⟩ := open_numsV hv h
  obtain ⟨fuel, hf⟩ := h
  have hr : reachBytes ≤ 140737488355328 := by decide
  have hf2 : DataW.trod enc Tryd.prog W base sp hd fuel 23 [.slice a n c] = some (d, p) := by simpa [Value.cells] using hf
  have := len_within Tryd.underlying23 b2 hf2 hw
  exact ⟨a, n, c, zs, rfl, w0, w1, w2, by omega⟩
end
end Go.Proofs.YtgpdggjpbmgegaaDoor
