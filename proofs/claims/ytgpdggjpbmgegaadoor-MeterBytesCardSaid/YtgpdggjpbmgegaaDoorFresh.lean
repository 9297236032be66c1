/- A module in memory of the call's own: how it lies, and that it reads as a module. -/
import Derived.Test.YtgpdggjpbmgegaaDoorCopyF
namespace Go.Proofs.YtgpdggjpbmgegaaDoor
open Go.RowKit
set_option linter.unusedVariables false
set_option linter.unusedSimpArgs false


structure K4 where
  pb : Nat
  pcap : Nat
  cb : Nat
  ccap : Nat
def fcell (f : PFunc) (x : K4) : List Value := [.string f.name, .slice (some ⟨x.pb, 0, none⟩) f.params.length x.pcap, .int .i64 f.regs, .int .i64 f.words, .slice (some ⟨x.cb, 0, none⟩) f.code.length x.ccap]
def FnGood (w : World) (M : Nat) (f : PFunc) (x : K4) : Prop := M ≤ x.pb ∧ M ≤ x.cb ∧
  w.ownsRow 0 74 2 (.slice (some ⟨x.pb, 0, none⟩) f.params.length x.pcap) f.params.length (f.params.flatMap spanC) ∧ w.ownsRow 0 47 5 (.slice (some ⟨x.cb, 0, none⟩) f.code.length x.ccap) f.code.length (f.code.flatMap insC)
/-- the functions, each with the places of its lists -/
structure FnRow (w : World) (M : Nat) (fv : Value) (zs : List (PFunc × K4)) : Prop where
  row : w.ownsRow 0 51 5 fv zs.length (zs.flatMap fun z => fcell z.1 z.2)
  far : ∀ b, fv.ownBlock = some b → M ≤ b ∧ ∀ z ∈ zs, b ≠ z.2.pb ∧ b ≠ z.2.cb
  each : ∀ z ∈ zs, FnGood w M z.1 z.2
  dist : (zs.flatMap fun z => [z.2.pb, z.2.cb]).Nodup
theorem FnGood.chg {S : Nat → Prop} {w w' : World} {M : Nat} {f : PFunc} {x : K4} (h : FnGood w M f x) (c : Chg S w w') (h1 : ¬ S x.pb) (h2 : ¬ S x.cb) : FnGood w' M f x :=
  ⟨h.1, h.2.1, ownsRow_chg c h.2.2.1 h1, ownsRow_chg c h.2.2.2 h2⟩
theorem ownsRow_chgV {S : Nat → Prop} {w w' : World} (c : Chg S w w') {e size n : Nat} {v : Value} {xs : List Value} (h : w.ownsRow 0 e size v n xs) (hg : ∀ k, v.ownBlock = some k → ¬ S k) : w'.ownsRow 0 e size v n xs := by
  obtain ⟨h1, h2⟩ := h
  refine ⟨h1, ?_⟩
  rcases h2 with h2 | ⟨g, cap, cur, rfl, hb, hh, rest⟩
  · exact .inl h2
  · exact .inr ⟨g, cap, cur, rfl, hb, by rw [c.block g (Array.getElem?_eq_some_iff.1 hh).1 (hg g rfl)]; exact hh, rest⟩
theorem FnRow.chg {S : Nat → Prop} {w w' : World} {M : Nat} {fv : Value} {zs : List (PFunc × K4)} (h : FnRow w M fv zs) (c : Chg S w w') (hS : ∀ k, S k → k < M) : FnRow w' M fv zs :=
  ⟨ownsRow_chgV c h.row (fun k hk hs => by have := (h.far k hk).1; have := hS k hs; omega), h.far, fun z hz => (h.each z hz).chg c (fun hs => by have := (h.each z hz).1; have := hS _ hs; omega) (fun hs => by have := (h.each z hz).2.1; have := hS _ hs; omega), h.dist⟩
theorem FnRow.push {w w' : World} {M : Nat} {fv fv2 : Value} {zs : List (PFunc × K4)} (h : FnRow w M fv zs) {f : PFunc} {x : K4} (hx : FnGood w M f x) (hfar : ∀ b, fv.ownBlock = some b → b ≠ x.pb ∧ b ≠ x.cb) (hxx : x.pb ≠ x.cb) (hnew : ∀ z ∈ zs, z.2.pb ≠ x.pb ∧ z.2.pb ≠ x.cb ∧ z.2.cb ≠ x.pb ∧ z.2.cb ≠ x.cb) (hM : M ≤ w.heap.size)
    (hrow : w'.ownsRow 0 51 5 fv2 (zs.length + 1) ((zs.flatMap fun z => fcell z.1 z.2) ++ fcell f x)) (hg : w.grownBy w' fv.ownBlock) (hn : fv2.ownBlock = fv.ownBlock ∨ (fv2.ownBlock = some w.heap.size ∧ Below w.heap.size w w')) : FnRow w' M fv2 (zs ++ [(f, x)]) := by
  have c : Chg (fun k => fv.ownBlock = some k) w w' := chg_grown hg
  have lt : ∀ y : K4, ∀ g, FnGood w M g y → y.pb < w.heap.size ∧ y.cb < w.heap.size := fun y g hy => ⟨(hy.2.2.1.lt _ rfl).2, (hy.2.2.2.lt _ rfl).2⟩
  refine ⟨by simpa using hrow, fun b hb => ?_, fun z hz => ?_, ?_⟩
  · rcases hn with e | ⟨e, _⟩
    · rw [e] at hb
      refine ⟨(h.far b hb).1, fun z hz => ?_⟩
      rcases List.mem_append.1 hz with k | k
      · exact (h.far b hb).2 z k
      · rw [List.mem_singleton.1 k]; exact hfar b hb
    · rw [e] at hb
      cases hb
      refine ⟨hM, fun z hz => ?_⟩
      rcases List.mem_append.1 hz with k | k
      · have := lt z.2 z.1 (h.each z k); omega
      · rw [List.mem_singleton.1 k]; have := lt x f hx; show w.heap.size ≠ x.pb ∧ w.heap.size ≠ x.cb; omega
  · rcases List.mem_append.1 hz with k | k
    · exact (h.each z k).chg c (fun e => ((h.far _ e).2 z k).1 rfl) (fun e => ((h.far _ e).2 z k).2 rfl)
    · rw [List.mem_singleton.1 k]; exact hx.chg c (fun e => (hfar _ e).1 rfl) (fun e => (hfar _ e).2 rfl)
  · rw [List.flatMap_append, List.nodup_append]
    refine ⟨h.dist, by simp [hxx], fun a ha b hb => ?_⟩
    obtain ⟨z, hz, hz2⟩ := List.mem_flatMap.1 ha
    have := hnew z hz
    simp only [List.flatMap_cons, List.flatMap_nil, List.append_nil, List.mem_cons, List.not_mem_nil, or_false] at hb hz2
    grind

theorem own_cells {w : World} {e size b n cap : Nat} {xs : List Value} (h : w.ownsRow 0 e size (.slice (some ⟨b, 0, none⟩) n cap) n xs) {j : Nat} {u : Value} (hu : xs[j]? = some u) : w.cell? ⟨b, j, none⟩ = some u := by
  have := h.cells (g := b) rfl j u hu
  unfold Addr.add at this
  split at this
  · rename_i e0; subst e0; exact this
  · simpa using this
theorem FnGood.ok {w : World} {M B : Nat} {f : PFunc} {x : K4} (h : FnGood w M f x) {W0 : World} {k : HF} (h0 : FuncOk B W0 k f) : FuncOk w.heap.size w ⟨some ⟨x.pb, 0, none⟩, f.params.length, x.pcap, some ⟨x.cb, 0, none⟩, f.code.length, x.ccap⟩ f := by
  obtain ⟨n1, ⟨_, n2, _, _, _, n3⟩, ⟨_, n4, _, _, _, n5⟩, n6, n7⟩ := h0
  obtain ⟨_, _, hp, hc⟩ := h
  refine ⟨n1, ⟨rfl, ?_, x.pb, 0, fun _ => ⟨rfl, (hp.lt _ rfl).2⟩, fun i hi => ?_⟩, ⟨rfl, ?_, x.cb, 0, fun _ => ⟨rfl, (hc.lt _ rfl).2⟩, fun i hi => ?_⟩, n6, n7⟩
  · rcases hp.2 with ⟨e, _⟩ | ⟨_, _, _, e, _, _, q1, q2, _⟩
    · cases e
    · cases e; exact Nat.le_trans q1 q2
  · have hi' : i < f.params.length := hi
    have e : f.params.getD i default = f.params[i] := getD_eq _ i hi'
    have c0 := flat_at spanC 2 (fun _ => rfl) f.params i 0 hi' (by omega)
    have c1 := flat_at spanC 2 (fun _ => rfl) f.params i 1 hi' (by omega)
    have := n3 i (by omega)
    rw [e] at this ⊢
    refine ⟨?_, ?_, this.2.2⟩
    · have := own_cells hp (j := i * 2 + 0) (u := .int .i64 f.params[i].lo) (by rw [c0]; rfl)
      simpa using this
    · have := own_cells hp (j := i * 2 + 1) (u := .int .i64 f.params[i].hi) (by rw [c1]; rfl)
      simpa using this
  · rcases hc.2 with ⟨e, _⟩ | ⟨_, _, _, e, _, _, q1, q2, _⟩
    · cases e
    · cases e; exact Nat.le_trans q1 q2
  · have hi' : i < f.code.length := hi
    have e : f.code.getD i default = f.code[i] := getD_eq _ i hi'
    have cc : ∀ r u, r < 5 → (insC f.code[i])[r]? = some u → w.cell? ⟨x.cb, 0 + i * 5 + r, none⟩ = some u := fun r u hr hu => by
      have := own_cells hc (j := i * 5 + r) (u := u) (by rw [flat_at insC 5 (fun _ => rfl) f.code i r hi' hr]; exact hu)
      simpa using this
    have := n5 i (by omega)
    rw [e] at this ⊢
    exact ⟨⟨cc 0 _ (by omega) rfl, cc 1 _ (by omega) rfl, cc 2 _ (by omega) rfl, cc 3 _ (by omega) rfl, cc 4 _ (by omega) rfl⟩, this.2⟩

/-- a module's copy -/
def FreshAt (N M : Nat) (w : World) (m : PMod) (tb tcap : Nat) (fv : Value) (zs : List (PFunc × K4)) : Prop := N ≤ tb ∧ tb < M ∧ w.ownsRow 0 2 1 (.slice (some ⟨tb, 0, none⟩) m.thr.length tcap) m.thr.length (Nums m.thr) ∧ zs.map (·.1) = m.funcs ∧ FnRow w M fv zs
theorem FreshAt.chg {S : Nat → Prop} {N M : Nat} {w w' : World} {m : PMod} {tb tcap : Nat} {fv : Value} {zs : List (PFunc × K4)} (h : FreshAt N M w m tb tcap fv zs) (c : Chg S w w') (h1 : ¬ S tb) (h2 : ∀ k, fv.ownBlock = some k → ¬ S k) (h3 : ∀ z ∈ zs, ¬ S z.2.pb ∧ ¬ S z.2.cb) : FreshAt N M w' m tb tcap fv zs := by
  obtain ⟨a, b, ht, hz, hr⟩ := h
  exact ⟨a, b, ownsRow_chg c ht h1, hz, ownsRow_chgV c hr.row h2, hr.far, fun z hz => (hr.each z hz).chg c (h3 z hz).1 (h3 z hz).2, hr.dist⟩
/-- all its blocks are there -/
theorem FreshAt.lt {N M : Nat} {w : World} {m : PMod} {tb tcap : Nat} {fv : Value} {zs : List (PFunc × K4)} (h : FreshAt N M w m tb tcap fv zs) : tb < w.heap.size ∧ (∀ k, fv.ownBlock = some k → k < w.heap.size) ∧ ∀ z ∈ zs, z.2.pb < w.heap.size ∧ z.2.cb < w.heap.size := by
  obtain ⟨a, b, ht, hz, hr⟩ := h
  exact ⟨(ht.lt _ rfl).2, fun k hk => (hr.row.lt k hk).2, fun z hz => ⟨((hr.each z hz).2.2.1.lt _ rfl).2, ((hr.each z hz).2.2.2.lt _ rfl).2⟩⟩
theorem FreshAt.at_ {N M : Nat} {w : World} {m : PMod} {tb tcap : Nat} {fv : Value} {zs : List (PFunc × K4)} (h : FreshAt N M w m tb tcap fv zs) {B : Nat} {W0 : World} {v0 : Value} (h0 : ModAt B W0 v0 m) : ModAt w.heap.size w (.agg #[.slice (some ⟨tb, 0, none⟩) m.thr.length tcap, fv]) m := by
  obtain ⟨_, _, ht, hz, hr⟩ := h
  obtain ⟨_, _, _, _, _, _, _, ⟨_, t2, _, _, _, t3⟩, ⟨f1, f2, _, _, _, H, f3⟩⟩ := h0
  have hlz : zs.length = m.funcs.length := by rw [← hz]; simp
  have hform : ∃ fa fc, fv = .slice fa zs.length fc ∧ (0 < zs.length → ∃ b, fa = some ⟨b, 0, none⟩ ∧ b < w.heap.size ∧ w.ownsRow 0 51 5 (.slice (some ⟨b, 0, none⟩) zs.length fc) zs.length (zs.flatMap fun z => fcell z.1 z.2)) := by
    rcases hr.row.2 with ⟨e, e2⟩ | ⟨g, cap, cur, e, _⟩
    · exact ⟨none, 0, by rw [e, e2], fun h => by omega⟩
    · have hrow := hr.row
      rw [e] at hrow
      exact ⟨some ⟨g, 0, none⟩, cap, e, fun _ => ⟨g, rfl, (hrow.lt _ rfl).2, hrow⟩⟩
  obtain ⟨fa, fc, rfl, hb⟩ := hform
  refine ⟨_, _, _, _, _, _, rfl, ⟨rfl, by omega, tb, 0, fun _ => ⟨rfl, (ht.lt _ rfl).2⟩, fun i hi => ?_⟩, by omega, by omega, ?_⟩
  · have hi' : i < m.thr.length := hi
    refine ⟨?_, (t3 i (by omega)).2⟩
    have := own_cells ht (j := i) (u := .int .i64 (m.thr.getD i 0)) (Nums_some (getD_some hi'))
    simpa using this
  · by_cases h0 : 0 < zs.length
    · obtain ⟨b, rfl, hbl, hrow⟩ := hb h0
      refine ⟨b, 0, fun _ => ⟨rfl, hbl⟩, fun i => match zs[i]? with | some z => ⟨some ⟨z.2.pb, 0, none⟩, z.1.params.length, z.2.pcap, some ⟨z.2.cb, 0, none⟩, z.1.code.length, z.2.ccap⟩ | none => default, fun i hi => ?_⟩
      dsimp only
      rw [List.getElem?_eq_getElem hi]
      dsimp only
      have e : m.funcs.getD i default = zs[i].1 := by
        rw [← hz]; simp [List.getD_eq_getElem?_getD, List.getElem?_map, List.getElem?_eq_getElem hi]
      have hok := (f3 i (by omega)).2
      rw [e] at hok ⊢
      have cc : ∀ r u, r < 5 → (fcell zs[i].1 zs[i].2)[r]? = some u → w.cell? ⟨b, 0 + i * 5 + r, none⟩ = some u := fun r u hr hu => by
        have := own_cells hrow (j := i * 5 + r) (u := u) (by rw [flat_at (fun z : PFunc × K4 => fcell z.1 z.2) 5 (fun _ => rfl) zs i r hi hr]; exact hu)
        simpa using this
      exact ⟨⟨cc 0 _ (by omega) rfl, cc 1 _ (by omega) rfl, cc 2 _ (by omega) rfl, cc 3 _ (by omega) rfl, cc 4 _ (by omega) rfl⟩, (hr.each zs[i] (List.getElem_mem hi)).ok hok⟩
    · exact ⟨0, 0, fun h => absurd h h0, fun _ => default, fun i hi => absurd (Nat.lt_of_le_of_lt (Nat.zero_le i) hi) h0⟩
end Go.Proofs.YtgpdggjpbmgegaaDoor
