/- Arguments opened: a module of code, a slice of numbers, as they are read, lie in memory as the walks ask. -/
import Derived.Test.YtgpdggjpbmgegaaDoorLift
import Derived.Deep.Slices
import Derived.Lib.SmallJoins
namespace Go.Proofs.YtgpdggjpbmgegaaDoor
open Go.ChangeShapes Go.WideShapes Go.ChangeAt Go.RowKit Go.Deep Go.Joins
set_option linter.unusedVariables false
set_option linter.unusedSimpArgs false

theorem wf64 {n : Int} (h : (Lit.int .i64 n).wf = true) : In64 n := bounds_i64 h
theorem c2 : Tryd.prog.cellsOf 2 = 1 := by kernel_rfl
theorem c3 : Tryd.prog.cellsOf 3 = 1 := by kernel_rfl
theorem c9 : Tryd.prog.cellsOf 9 = 1 := by kernel_rfl
theorem c49 : Tryd.prog.cellsOf 49 = 1 := by kernel_rfl
theorem c48 : Tryd.prog.cellsOf 48 = 1 := by kernel_rfl
theorem c74 : Tryd.prog.cellsOf 74 = 2 := by kernel_rfl
theorem c47 : Tryd.prog.cellsOf 47 = 5 := by kernel_rfl
theorem c51 : Tryd.prog.cellsOf 51 = 5 := by kernel_rfl

/-- the address of a cell that is there -/
theorem at_spot {w : World} {a : Addr} {k : Nat} {v : Value} (h : w.cell? (a.add k) = some v) : a = ⟨a.block, a.off, none⟩ ∨ 0 < k := by
  by_cases hk : k = 0
  · subst hk
    have h2 := World.cell?_spot h
    obtain ⟨b, o, s⟩ := a
    simp [Addr.add] at h2
    subst h2
    exact .inl rfl
  · exact .inr (by omega)
theorem add_plain (b o k : Nat) : (⟨b, o, none⟩ : Addr).add k = ⟨b, o + k, none⟩ := by
  unfold Addr.add; split
  · rename_i h; simp [h]
  · rfl

section
variable {H : Type} {enc : TypeId × Value → H} {W : World} {base : Nat} {sp : Nat → Bool} {hd : Bool}

theorem open_nums {fuel : Nat} {cs : List Value} {x : DataW H × List MemPlace} (h : DataW.trod enc Tryd.prog W base sp hd fuel 23 cs = some x) : ∃ a n c zs, cs = [.slice a n c] ∧ NumsAt W.heap.size W a n zs ∧ n ≤ c ∧ c ≤ maxLen := by
  rcases open_slice1 Tryd.underlying23 c2 h with ⟨rfl, _⟩ | ⟨a, len, cap, m, n, V, D, Pl, rfl, hb, hl, hm, hmm, _, hx⟩
  · exact ⟨none, 0, 0, [], rfl, ⟨rfl, Nat.zero_le _, 0, 0, fun h => absurd h (Nat.lt_irrefl 0), fun i h => absurd h (Nat.not_lt_zero i)⟩, Nat.le_refl _, Nat.zero_le _⟩
  · have hlm : len ≤ m := by rw [hmm]; split <;> omega
    obtain ⟨Z, hZ⟩ := choose_lt (α := Int) (n := len) (p := fun i z => W.cell? (a.add i) = some (.int .i64 z) ∧ In64 z) (fun i hi => by
      obtain ⟨h1, h2⟩ := hx i (by omega)
      obtain ⟨z, e1, _, e3⟩ := DataW.trod_int Tryd.underlying2 h2
      simp only [List.cons.injEq, and_true] at e1
      exact ⟨z, by rw [h1, e1], wf64 e3⟩)
    refine ⟨some a, len, cap, (List.range len).map Z, rfl, ⟨by simp, by omega, a.block, a.off, fun h0 => ?_, fun i hi => ?_⟩, hl, hm⟩
    · have h1 := (hZ 0 h0).1
      refine ⟨?_, ?_⟩
      · rcases at_spot h1 with e | e
        · rw [← e]
        · omega
      · have := lt_of_cell? h1; simpa [Addr.add] using this
    · have e : a = ⟨a.block, a.off, none⟩ := by
        rcases at_spot (hZ 0 (by omega)).1 with e | e
        · exact e
        · omega
      have h1 := hZ i hi
      rw [e, add_plain] at h1
      have e2 : ((List.range len).map Z).getD i 0 = Z i := by simp [List.getD_eq_getElem?_getD, List.getElem?_map, List.getElem?_range hi]
      rw [e2]
      exact h1

set_option maxRecDepth 100000 in
theorem open_span {fuel : Nat} {cs : List Value} {x : DataW H × List MemPlace} (h : DataW.trod enc Tryd.prog W base sp hd fuel 74 cs = some x) : ∃ p : PSpan, cs = [.int .i64 p.lo, .int .i64 p.hi] ∧ In64 p.lo ∧ In64 p.hi := by
  obtain ⟨y0, y1, n, _, hl, h0, h1⟩ := trod_struct2 Tryd.underlying74 h
  rw [c74] at hl
  match cs, hl with
  | [q0, q1], _ =>
    have k0 : DataW.trod enc Tryd.prog W base sp hd n 2 [q0] = some y0 := by simpa [c2] using h0
    have k1 : DataW.trod enc Tryd.prog W base sp hd n 2 [q1] = some y1 := by simpa [c2] using h1
    obtain ⟨z0, e0, _, w0⟩ := DataW.trod_int Tryd.underlying2 k0
    obtain ⟨z1, e1, _, w1⟩ := DataW.trod_int Tryd.underlying2 k1
    exact ⟨⟨z0, z1⟩, by simp_all, wf64 w0, wf64 w1⟩

set_option maxRecDepth 100000 in
theorem open_ins {fuel : Nat} {cs : List Value} {x : DataW H × List MemPlace} (h : DataW.trod enc Tryd.prog W base sp hd fuel 47 cs = some x) : ∃ p : PIns, cs = [.int .i64 p.op, .int .i64 p.a, .int .i64 p.b, .int .i64 p.c, .int .i64 p.n] ∧ InsOk p := by
  obtain ⟨xs, m, rfl, rfl, hl, hlen, hf⟩ := DataW.trod_struct Tryd.underlying47 h
  rw [c47] at hl
  match cs, hl with
  | [q0, q1, q2, q3, q4], _ =>
    match xs, hlen with
    | [y0, y1, y2, y3, y4], _ =>
      have k0 : DataW.trod enc Tryd.prog W base sp hd m 3 [q0] = some y0 := by have := hf 0 _ rfl; simpa [c3] using this
      have k1 : DataW.trod enc Tryd.prog W base sp hd m 3 [q1] = some y1 := by have := hf 1 _ rfl; simpa [c3] using this
      have k2 : DataW.trod enc Tryd.prog W base sp hd m 3 [q2] = some y2 := by have := hf 2 _ rfl; simpa [c3] using this
      have k3 : DataW.trod enc Tryd.prog W base sp hd m 3 [q3] = some y3 := by have := hf 3 _ rfl; simpa [c3] using this
      have k4 : DataW.trod enc Tryd.prog W base sp hd m 2 [q4] = some y4 := by have := hf 4 _ rfl; simpa [c2] using this
      obtain ⟨z0, e0, _, w0⟩ := DataW.trod_int Tryd.underlying3 k0
      obtain ⟨z1, e1, _, w1⟩ := DataW.trod_int Tryd.underlying3 k1
      obtain ⟨z2, e2, _, w2⟩ := DataW.trod_int Tryd.underlying3 k2
      obtain ⟨z3, e3, _, w3⟩ := DataW.trod_int Tryd.underlying3 k3
      obtain ⟨z4, e4, _, w4⟩ := DataW.trod_int Tryd.underlying2 k4
      simp only [List.cons.injEq, and_true] at e0 e1 e2 e3 e4
      subst e0 e1 e2 e3 e4
      exact ⟨⟨z0, z1, z2, z3, z4⟩, rfl, wf64 w0, wf64 w1, wf64 w2, wf64 w3, wf64 w4⟩

/-- a slice of elements of k cells: each element's cells -/
theorem open_elems {t e : TypeId} {k : Nat} (hk0 : 0 < k) (ht : Tryd.prog.underlying t = some (.slice e)) (hc : Tryd.prog.cellsOf e = k) {α : Type} [Inhabited α] (q : α → List Value → Prop)
    (hq : ∀ (n : Nat) (cs : List Value) (y : DataW H × List MemPlace), DataW.trod enc Tryd.prog W base sp hd n e cs = some y → ∃ z, q z cs)
    {fuel : Nat} {cs : List Value} {x : DataW H × List MemPlace} (h : DataW.trod enc Tryd.prog W base sp hd fuel t cs = some x) :
    ∃ a n c, ∃ zs : List α, cs = [.slice a n c] ∧ zs.length = n ∧ n ≤ maxLen ∧ ∃ b o, BaseAt W.heap.size a n b o ∧ ∀ i, i < n → ∃ ce, ce.length = k ∧ q (zs.getD i default) ce ∧ ∀ j, j < k → W.cell? ⟨b, o + i * k + j, none⟩ = ce[j]? := by
  rcases open_slice ht h with ⟨rfl, _⟩ | ⟨a, len, cap, m, n, D, Pl, rfl, hb, hl, hm, hmm, _, hx⟩
  · exact ⟨none, 0, 0, [], rfl, rfl, Nat.zero_le _, 0, 0, fun h => absurd h (Nat.lt_irrefl 0), fun i h => absurd h (Nat.not_lt_zero i)⟩
  · have hlm : len ≤ m := by rw [hmm]; split <;> omega
    have hx2 : ∀ i, i < len → ∃ z, ∃ ce, ce.length = k ∧ q z ce ∧ ∀ j, j < k → W.cell? ((a.add (i * k)).add j) = ce[j]? := by
      intro i hi
      obtain ⟨ce, h1, h2⟩ := hx i (by omega)
      rw [hc] at h1
      obtain ⟨_, hlen, hce⟩ := World.cells?_some h1
      obtain ⟨z, hz⟩ := hq _ _ _ h2
      exact ⟨z, ce, hlen, hz, hce⟩
    obtain ⟨Z, hZ⟩ := choose_lt hx2
    have ha : 0 < len → a = ⟨a.block, a.off, none⟩ ∧ a.block < W.heap.size := by
      intro h0
      obtain ⟨ce, hcl, _, hce⟩ := hZ 0 h0
      have h1 := hce 0 hk0
      rw [List.getElem?_eq_getElem (by omega)] at h1
      simp only [Nat.zero_mul] at h1
      have e0 : (a.add 0).add 0 = a.add 0 := by simp [Addr.add]
      rw [e0] at h1
      refine ⟨?_, ?_⟩
      · rcases at_spot h1 with e | e
        · exact e
        · omega
      · have := lt_of_cell? h1; simpa [Addr.add] using this
    refine ⟨some a, len, cap, (List.range len).map Z, rfl, by simp, by omega, a.block, a.off, fun h0 => ⟨by rw [← (ha h0).1], (ha h0).2⟩, fun i hi => ?_⟩
    obtain ⟨ce, hcl, hz, hce⟩ := hZ i hi
    have e2 : ((List.range len).map Z).getD i default = Z i := by simp [List.getD_eq_getElem?_getD, List.getElem?_map, List.getElem?_range hi]
    rw [e2]
    refine ⟨ce, hcl, hz, fun j hj => ?_⟩
    have := hce j hj
    rw [(ha (by omega)).1, add_plain, add_plain] at this
    exact this

theorem open_spans {fuel : Nat} {cs : List Value} {x : DataW H × List MemPlace} (h : DataW.trod enc Tryd.prog W base sp hd fuel 49 cs = some x) : ∃ a n c zs, cs = [.slice a n c] ∧ SpansAt W.heap.size W a n zs := by
  obtain ⟨a, n, c, zs, rfl, hl, hm, b, o, hb, hz⟩ := open_elems (k := 2) (by omega) Tryd.underlying49 c74 (fun (p : PSpan) cs => cs = [.int .i64 p.lo, .int .i64 p.hi] ∧ In64 p.lo ∧ In64 p.hi) (fun n cs y h => open_span h) h
  refine ⟨a, n, c, zs, rfl, hl, hm, b, o, hb, fun i hi => ?_⟩
  obtain ⟨ce, _, ⟨rfl, w0, w1⟩, hc⟩ := hz i hi
  exact ⟨hc 0 (by omega), hc 1 (by omega), w0, w1⟩
theorem open_code {fuel : Nat} {cs : List Value} {x : DataW H × List MemPlace} (h : DataW.trod enc Tryd.prog W base sp hd fuel 48 cs = some x) : ∃ a n c zs, cs = [.slice a n c] ∧ CodeAt W.heap.size W a n zs := by
  obtain ⟨a, n, c, zs, rfl, hl, hm, b, o, hb, hz⟩ := open_elems (k := 5) (by omega) Tryd.underlying48 c47 (fun (p : PIns) cs => cs = [.int .i64 p.op, .int .i64 p.a, .int .i64 p.b, .int .i64 p.c, .int .i64 p.n] ∧ InsOk p) (fun n cs y h => open_ins h) h
  refine ⟨a, n, c, zs, rfl, hl, hm, b, o, hb, fun i hi => ?_⟩
  obtain ⟨ce, _, ⟨rfl, w0⟩, hc⟩ := hz i hi
  exact ⟨⟨hc 0 (by omega), hc 1 (by omega), hc 2 (by omega), hc 3 (by omega), hc 4 (by omega)⟩, w0⟩

set_option maxRecDepth 100000 in
theorem open_func {fuel : Nat} {cs : List Value} {x : DataW H × List MemPlace} (h : DataW.trod enc Tryd.prog W base sp hd fuel 51 cs = some x) :
    ∃ (f : PFunc) (k : HF), cs = [.string f.name, .slice k.pa k.pl k.pc, .int .i64 f.regs, .int .i64 f.words, .slice k.ca k.cl k.cc] ∧ FuncOk W.heap.size W k f := by
  obtain ⟨xs, m, rfl, rfl, hl, hlen, hf⟩ := DataW.trod_struct Tryd.underlying51 h
  rw [c51] at hl
  match cs, hl with
  | [q0, q1, q2, q3, q4], _ =>
    match xs, hlen with
    | [y0, y1, y2, y3, y4], _ =>
      have k0 : DataW.trod enc Tryd.prog W base sp hd m 9 [q0] = some y0 := by have := hf 0 _ rfl; simpa [c9] using this
      have k1 : DataW.trod enc Tryd.prog W base sp hd m 49 [q1] = some y1 := by have := hf 1 _ rfl; simpa [c49] using this
      have k2 : DataW.trod enc Tryd.prog W base sp hd m 3 [q2] = some y2 := by have := hf 2 _ rfl; simpa [c3] using this
      have k3 : DataW.trod enc Tryd.prog W base sp hd m 3 [q3] = some y3 := by have := hf 3 _ rfl; simpa [c3] using this
      have k4 : DataW.trod enc Tryd.prog W base sp hd m 48 [q4] = some y4 := by have := hf 4 _ rfl; simpa [c48] using this
      obtain ⟨z0, e0, _, w0⟩ := DataW.trod_string Tryd.underlying9 k0
      obtain ⟨pa, pl, pc, ps, e1, w1⟩ := open_spans k1
      obtain ⟨z2, e2, _, w2⟩ := DataW.trod_int Tryd.underlying3 k2
      obtain ⟨z3, e3, _, w3⟩ := DataW.trod_int Tryd.underlying3 k3
      obtain ⟨ca, cl, cc, zs, e4, w4⟩ := open_code k4
      simp only [List.cons.injEq, and_true] at e0 e1 e2 e3 e4
      subst e0 e1 e2 e3 e4
      exact ⟨⟨z0, ps, z2, z3, zs⟩, ⟨pa, pl, pc, ca, cl, cc⟩, rfl, w0, w1, w4, wf64 w2, wf64 w3⟩
instance : Inhabited (PFunc × HF) := ⟨(default, default)⟩
theorem open_funcs {fuel : Nat} {cs : List Value} {x : DataW H × List MemPlace} (h : DataW.trod enc Tryd.prog W base sp hd fuel 24 cs = some x) : ∃ a n c zs, cs = [.slice a n c] ∧ FuncsAt W.heap.size W a n zs := by
  obtain ⟨a, n, c, zs, rfl, hl, hm, b, o, hb, hz⟩ := open_elems (k := 5) (by omega) Tryd.underlying24 c51 (fun (p : PFunc × HF) cs => cs = [.string p.1.name, .slice p.2.pa p.2.pl p.2.pc, .int .i64 p.1.regs, .int .i64 p.1.words, .slice p.2.ca p.2.cl p.2.cc] ∧ FuncOk W.heap.size W p.2 p.1)
    (fun n cs y h => by obtain ⟨f, k, e⟩ := open_func h; exact ⟨(f, k), e⟩) h
  refine ⟨a, n, c, zs.map (·.1), rfl, by simpa using hl, hm, b, o, hb, fun i => (zs.getD i default).2, fun i hi => ?_⟩
  obtain ⟨ce, _, ⟨rfl, w0⟩, hc⟩ := hz i hi
  have e : (zs.map (·.1)).getD i default = (zs.getD i default).1 := by
    simp [List.getD_eq_getElem?_getD, List.getElem?_map, List.getElem?_eq_getElem (show i < zs.length by omega)]
  rw [e]
  exact ⟨⟨hc 0 (by omega), hc 1 (by omega), hc 2 (by omega), hc 3 (by omega), hc 4 (by omega)⟩, w0⟩

set_option maxRecDepth 100000 in
theorem open_mod {r : Reach} {b0 : Nat} {v : Value} {d : DataW H} {p : List MemPlace} (hv : Value.okWide Tryd.prog W r b0 26 v) (h : DataW.Trod enc Tryd.prog W base sp hd 26 v d p) : ∃ m, ModAt W.heap.size W v m := by
  obtain ⟨v0, v1, y0, y1, n, rfl, _, _, h0, h1⟩ := open_agg2 Tryd.underlying26 (by kernel_rfl) (by kernel_rfl) hv h
  obtain ⟨ta, tl, tc, zs, e0, w0, _⟩ := open_nums h0
  obtain ⟨fa, fl, fc, fs, e1, w1⟩ := open_funcs h1
  simp only [List.cons.injEq, and_true] at e0 e1
  subst e0 e1
  exact ⟨⟨zs, fs⟩, ta, tl, tc, fa, fl, fc, rfl, w0, w1⟩
set_option maxRecDepth 100000 in
theorem open_numsV {v : Value} {d : DataW H} {p : List MemPlace} {r : Reach} {b0 : Nat} (hv : Value.okWide Tryd.prog W r b0 23 v) (h : DataW.Trod enc Tryd.prog W base sp hd 23 v d p) : ∃ a n c zs, v = .slice a n c ∧ NumsAt W.heap.size W a n zs ∧ n ≤ c ∧ c ≤ maxLen := by
  obtain ⟨a0, n0, c0, rfl⟩ := okWide_slice Tryd.underlying23 hv
  obtain ⟨fuel, hf⟩ := h
  obtain ⟨a, n, c, zs, e, w0, w1⟩ := open_nums hf
  simp [Value.cells] at e
  obtain ⟨rfl, rfl, rfl⟩ := e
  exact ⟨a0, n0, c0, zs, rfl, w0, w1⟩
end
end Go.Proofs.YtgpdggjpbmgegaaDoor
