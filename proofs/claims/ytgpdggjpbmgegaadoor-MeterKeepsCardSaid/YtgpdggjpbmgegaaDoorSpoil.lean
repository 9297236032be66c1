/- R9.Spoil: what it writes lies in the module's own lists, all of them the caller's own. -/
import Derived.Test.YtgpdggjpbmgegaaDoorCopy
import Derived.Deep.RegionHeld3
import Derived.Deep.AppendLies
namespace Go.Proofs.YtgpdggjpbmgegaaDoor
open Go.RowKit
set_option linter.unusedVariables false
set_option linter.unusedSimpArgs false


/-- a row of the call's own, whatever lies in it -/
def RowEx (w : World) (e size : Nat) (v : Value) (n : Nat) : Prop := ∃ xs, w.ownsRow 0 e size v n xs
theorem RowEx.setCell {w : World} {e size n : Nat} {v : Value} (h : RowEx w e size v n) (p : Addr) (u : Value) : RowEx (w.setCell p u) e size v n := by
  obtain ⟨xs, hl, h | ⟨g, cap, cur, rfl, hb, hh, h1, h2, h3, h4⟩⟩ := h
  · exact ⟨xs, hl, .inl h⟩
  · by_cases e0 : p.block = g
    · refine ⟨((if p.spot.isSome then cur else cur.setIfInBounds p.off u)).toList.take (n * size), ?_, .inr ⟨g, cap, (if p.spot.isSome then cur else cur.setIfInBounds p.off u), rfl, hb, ?_, h1, h2, ?_, rfl⟩⟩
      · have : n * size ≤ cap * size := Nat.mul_le_mul_right _ h1
        rw [List.length_take]
        split <;> simp only [Array.length_toList, Array.size_setIfInBounds, h3] <;> omega
      · have hlt := (Array.getElem?_eq_some_iff.1 hh).1
        have he := (Array.getElem?_eq_some_iff.1 hh).2
        subst e0
        simp only [World.setCell]
        rw [Array.getElem?_eq_getElem (by simpa using hlt), Array.getElem_modify]
        simp [he]
      · split <;> simp [h3]
    · refine ⟨xs, hl, .inr ⟨g, cap, cur, rfl, hb, ?_, h1, h2, h3, h4⟩⟩
      rw [Below.heap_setCell _ _ _ _ (by intro x; exact e0 x.symm)]
      exact hh
theorem RowEx.chg {S : Nat → Prop} {w w' : World} {e size n : Nat} {v : Value} (h : RowEx w e size v n) (c : Chg S w w') (hg : ∀ k, v.ownBlock = some k → ¬ S k) : RowEx w' e size v n := by
  obtain ⟨xs, h⟩ := h
  exact ⟨xs, ownsRow_chgV c h hg⟩
theorem RowEx.cell {w : World} {e size n g cap : Nat} (h : RowEx w e size (.slice (some ⟨g, 0, none⟩) n cap) n) (j : Nat) (hj : j < n * size) : ∃ u, w.cell? ⟨g, j, none⟩ = some u := by
  obtain ⟨xs, h⟩ := h
  have := h.cellAt j hj
  rw [List.getElem?_eq_getElem (by rw [h.1]; exact hj)] at this
  exact ⟨_, this⟩
theorem RowEx.frozen {w : World} {e size n g cap : Nat} (h : RowEx w e size (.slice (some ⟨g, 0, none⟩) n cap) n) (j : Nat) : w.frozen? ⟨g, j, none⟩ = false := by
  obtain ⟨xs, h⟩ := h; exact h.frozenAt j
theorem RowEx.lt {w : World} {e size n : Nat} {v : Value} (h : RowEx w e size v n) {k : Nat} (hk : v.ownBlock = some k) : k < w.heap.size := by
  obtain ⟨xs, h⟩ := h; exact (h.lt k hk).2

def hdrP (z : PFunc × K4) : Value := .slice (some ⟨z.2.pb, 0, none⟩) z.1.params.length z.2.pcap
def hdrC (z : PFunc × K4) : Value := .slice (some ⟨z.2.cb, 0, none⟩) z.1.code.length z.2.ccap
/-- how the copy lies while it is spoilt: the lists of the functions from number a on (parameters), b on (code) are as they were -/
structure SPI (N K : Nat) (w wr : World) (b0 : Nat) (hT fv : Value) (g : Nat) (zs : List (PFunc × K4)) (a b : Nat) : Prop where
  bel : Chg (fun k => N ≤ k ∧ k < K) w wr
  box : Own wr b0 [hT, fv]
  row : RowEx wr 51 5 fv zs.length
  hp : ∀ j, (hj : j < zs.length) → a ≤ j → wr.cell? ⟨g, j * 5 + 1, none⟩ = some (hdrP zs[j])
  hc : ∀ j, (hj : j < zs.length) → b ≤ j → wr.cell? ⟨g, j * 5 + 4, none⟩ = some (hdrC zs[j])
  lp : ∀ j, (hj : j < zs.length) → a ≤ j → RowEx wr 74 2 (hdrP zs[j]) zs[j].1.params.length
  lc : ∀ j, (hj : j < zs.length) → b ≤ j → RowEx wr 47 5 (hdrC zs[j]) zs[j].1.code.length
section
variable {N K : Nat} {w wr wr' : World} {b0 : Nat} {hT fv : Value} {g : Nat} {zs : List (PFunc × K4)} {a b : Nat}
theorem SPI.set (h : SPI N K w wr b0 hT fv g zs a b) (p : Addr) (u : Value) (h1 : (N ≤ p.block ∧ p.block < K) ∨ w.heap.size ≤ p.block) (h2 : p.block ≠ b0) (h3 : p.block ≠ g) : SPI N K w (wr.setCell p u) b0 hT fv g zs a b :=
  ⟨h.bel.setCell (p := p) h1 u, h.box.setOther u h2, h.row.setCell p u,
    fun j hj ha => by rw [World.cell?_setCell_other _ _ _ _ (by intro e; rw [e] at h3; exact h3 rfl)]; exact h.hp j hj ha,
    fun j hj ha => by rw [World.cell?_setCell_other _ _ _ _ (by intro e; rw [e] at h3; exact h3 rfl)]; exact h.hc j hj ha,
    fun j hj ha => (h.lp j hj ha).setCell p u, fun j hj ha => (h.lc j hj ha).setCell p u⟩
/-- a cell of the functions' own row, of which no more is asked -/
theorem SPI.setG (h : SPI N K w wr b0 hT fv g zs a b) (o : Nat) (u : Value) (h1 : (N ≤ g ∧ g < K) ∨ w.heap.size ≤ g) (h2 : g ≠ b0) (h3 : ∀ j, a ≤ j → o ≠ j * 5 + 1) (h4 : ∀ j, b ≤ j → o ≠ j * 5 + 4) : SPI N K w (wr.setCell ⟨g, o, none⟩ u) b0 hT fv g zs a b :=
  ⟨h.bel.setCell (p := ⟨g, o, none⟩) h1 u, h.box.setOther u h2, h.row.setCell _ u,
    fun j hj ha => by rw [World.cell?_setCell_other _ _ _ _ (by intro e; injection e with _ e; exact h3 j ha e)]; exact h.hp j hj ha,
    fun j hj ha => by rw [World.cell?_setCell_other _ _ _ _ (by intro e; injection e with _ e; exact h4 j ha e)]; exact h.hc j hj ha,
    fun j hj ha => (h.lp j hj ha).setCell _ u, fun j hj ha => (h.lc j hj ha).setCell _ u⟩
theorem SPI.box0 (h : SPI N K w wr b0 hT fv g zs a b) (u : Value) (h1 : w.heap.size ≤ b0) (h2 : b0 ≠ g) : SPI N K w (wr.setCell ⟨b0, 0, none⟩ u) b0 u fv g zs a b :=
  ⟨h.bel.setCell (p := ⟨b0, 0, none⟩) (.inr h1) u, h.box.set 0 u (by simp), h.row.setCell _ u,
    fun j hj ha => by rw [World.cell?_setCell_other _ _ _ _ (by intro e; injection e; omega)]; exact h.hp j hj ha,
    fun j hj ha => by rw [World.cell?_setCell_other _ _ _ _ (by intro e; injection e; omega)]; exact h.hc j hj ha,
    fun j hj ha => (h.lp j hj ha).setCell _ u, fun j hj ha => (h.lc j hj ha).setCell _ u⟩
theorem SPI.chg (h : SPI N K w wr b0 hT fv g zs a b) {S : Nat → Prop} (c : Chg S wr wr') (h1 : ∀ k, S k → (N ≤ k ∧ k < K) ∨ w.heap.size ≤ k) (h2 : ¬ S b0) (h3 : ¬ S g) (hg : ∀ k, fv.ownBlock = some k → k = g) (hgl : 0 < zs.length → g < wr.heap.size) {a' b' : Nat} (ha : a ≤ a') (hb : b ≤ b')
    (h4 : ∀ j, (hj : j < zs.length) → a' ≤ j → ¬ S zs[j].2.pb) (h5 : ∀ j, (hj : j < zs.length) → b' ≤ j → ¬ S zs[j].2.cb) : SPI N K w wr' b0 hT fv g zs a' b' :=
  ⟨h.bel.trans2 c (fun k hk hs => by have := h1 k hs; omega), c.own h.box h2, h.row.chg c (fun k hk hs => by rw [hg k hk] at hs; exact h3 hs),
    fun j hj hl => by rw [World.cell?_of_block (w := wr) (c.block g (hgl (by omega)) h3)]; exact h.hp j hj (by omega),
    fun j hj hl => by rw [World.cell?_of_block (w := wr) (c.block g (hgl (by omega)) h3)]; exact h.hc j hj (by omega),
    fun j hj hl => (h.lp j hj (by omega)).chg c (fun k hk hs => by simp [hdrP, Value.ownBlock] at hk; exact h4 j hj hl (by rw [hk]; exact hs)),
    fun j hj hl => (h.lc j hj (by omega)).chg c (fun k hk hs => by simp [hdrC, Value.ownBlock] at hk; exact h5 j hj hl (by rw [hk]; exact hs))⟩
end
/-- the numbers of the blocks -/
structure Sts (N M K b0 tb : Nat) (fv : Value) (g : Nat) (zs : List (PFunc × K4)) : Prop where
  n1 : N ≤ tb
  n2 : tb < M
  n3 : M ≤ g
  n4 : g ≠ b0
  n5 : tb < K
  n6 : K ≤ b0
  n7 : g < K ∨ (b0 < g ∧ zs.length = 0)
  fvb : ∀ k, fv.ownBlock = some k → k = g
  form : ∃ a c, fv = .slice a zs.length c ∧ (0 < zs.length → a = some ⟨g, 0, none⟩)
  p : ∀ j, (hj : j < zs.length) → M ≤ zs[j].2.pb ∧ zs[j].2.pb < K ∧ zs[j].2.pb ≠ g ∧ M ≤ zs[j].2.cb ∧ zs[j].2.cb < K ∧ zs[j].2.cb ≠ g ∧ zs[j].2.pb ≠ zs[j].2.cb
  d : ∀ i j, (hi : i < zs.length) → (hj : j < zs.length) → i < j → zs[i].2.pb ≠ zs[j].2.pb ∧ zs[i].2.pb ≠ zs[j].2.cb ∧ zs[i].2.cb ≠ zs[j].2.pb ∧ zs[i].2.cb ≠ zs[j].2.cb
theorem dist_of : ∀ (zs : List (PFunc × K4)), (zs.flatMap fun z => [z.2.pb, z.2.cb]).Nodup → (∀ j, (hj : j < zs.length) → zs[j].2.pb ≠ zs[j].2.cb) ∧ ∀ i j, (hi : i < zs.length) → (hj : j < zs.length) → i < j → zs[i].2.pb ≠ zs[j].2.pb ∧ zs[i].2.pb ≠ zs[j].2.cb ∧ zs[i].2.cb ≠ zs[j].2.pb ∧ zs[i].2.cb ≠ zs[j].2.cb
  | [], _ => ⟨fun j hj => by simp at hj, fun i j hi => by simp at hi⟩
  | z :: zs, h => by
    rw [List.flatMap_cons, List.nodup_append] at h
    obtain ⟨h1, h2, h3⟩ := h
    obtain ⟨r1, r2⟩ := dist_of zs h2
    have hm : ∀ j, (hj : j < zs.length) → zs[j].2.pb ∈ (zs.flatMap fun z => [z.2.pb, z.2.cb]) ∧ zs[j].2.cb ∈ (zs.flatMap fun z => [z.2.pb, z.2.cb]) := fun j hj =>
      ⟨List.mem_flatMap.2 ⟨zs[j], List.getElem_mem hj, by simp⟩, List.mem_flatMap.2 ⟨zs[j], List.getElem_mem hj, by simp⟩⟩
    refine ⟨fun j hj => ?_, fun i j hi hj hij => ?_⟩
    · cases j with
      | zero => simpa using h1
      | succ j => exact r1 j (by simpa using hj)
    · cases j with
      | zero => omega
      | succ j =>
        have hj' : j < zs.length := by simpa using hj
        cases i with
        | zero => exact ⟨h3 _ (by simp) _ (hm j hj').1, h3 _ (by simp) _ (hm j hj').2, h3 _ (by simp) _ (hm j hj').1, h3 _ (by simp) _ (hm j hj').2⟩
        | succ i => exact r2 i j (by simpa using hi) hj' (by omega)
theorem fresh_sts {N M K : Nat} {w : World} {tb tcap n : Nat} {ths : List Int} {fv : Value} {zs : List (PFunc × K4)} (h1 : N ≤ tb) (h2 : tb < M) (ht : w.ownsRow 0 2 1 (.slice (some ⟨tb, 0, none⟩) n tcap) n (Nums ths)) (hM : M ≤ w.heap.size) (hr : FnRow w M fv zs) {W0 : World} (hw : Below w.heap.size w W0) (hN : N ≤ w.heap.size)
    (hK : K ≤ w.heap.size) (k1 : tb < K) (k2 : ∀ k, fv.ownBlock = some k → k < K) (k3 : ∀ z ∈ zs, z.2.pb < K ∧ z.2.cb < K) (hbox : Own W0 w.heap.size [.slice (some ⟨tb, 0, none⟩) n tcap, fv]) : ∃ g, Sts N M K w.heap.size tb fv g zs ∧ SPI N K w W0 w.heap.size (.slice (some ⟨tb, 0, none⟩) n tcap) fv g zs 0 0 := by
  obtain ⟨d1, d2⟩ := dist_of zs hr.dist
  have htl := (ht.lt _ rfl).2
  have hpc : ∀ j, (hj : j < zs.length) → zs[j].2.pb < w.heap.size ∧ zs[j].2.cb < w.heap.size := fun j hj =>
    ⟨((hr.each zs[j] (List.getElem_mem hj)).2.2.1.lt _ rfl).2, ((hr.each zs[j] (List.getElem_mem hj)).2.2.2.lt _ rfl).2⟩
  have c : Chg (fun _ => False) w W0 := Chg.of hw
  have hr0 := hr.chg c (fun k h => h.elim)
  rcases hr.row.2 with ⟨e, e2⟩ | ⟨g, cap, cur, e, _⟩
  · refine ⟨w.heap.size + 1, ⟨h1, h2, by omega, by omega, k1, hK, .inr ⟨by omega, e2⟩, fun k hk => by rw [e] at hk; simp [Value.ownBlock] at hk, ⟨none, 0, by rw [e, e2], fun h => by omega⟩, fun j hj => by omega, fun i j hi => by omega⟩, ⟨Chg.of hw, hbox, ⟨_, hr0.row⟩, fun j hj => by omega, fun j hj => by omega, fun j hj => by omega, fun j hj => by omega⟩⟩
  · have hob : fv.ownBlock = some g := by rw [e]; rfl
    have hfar := hr.far g hob
    have hgl := (hr.row.lt g hob).2
    refine ⟨g, ⟨h1, h2, hfar.1, by omega, k1, hK, .inl (k2 g hob), fun k hk => by rw [hob] at hk; cases hk; rfl, ⟨_, _, e, fun _ => rfl⟩, fun j hj => ?_, d2⟩, ⟨Chg.of hw, hbox, ⟨_, hr0.row⟩, fun j hj _ => ?_, fun j hj _ => ?_, fun j hj _ => ?_, fun j hj _ => ?_⟩⟩
    · have f := hfar.2 zs[j] (List.getElem_mem hj)
      have q := hr.each zs[j] (List.getElem_mem hj)
      exact ⟨q.1, (k3 zs[j] (List.getElem_mem hj)).1, fun e => f.1 e.symm, q.2.1, (k3 zs[j] (List.getElem_mem hj)).2, fun e => f.2 e.symm, d1 j hj⟩
    · have hrow := hr0.row
      rw [e] at hrow
      exact own_cells hrow (j := j * 5 + 1) (by rw [flat_at (fun z : PFunc × K4 => fcell z.1 z.2) 5 (fun _ => rfl) zs j 1 hj (by omega)]; rfl)
    · have hrow := hr0.row
      rw [e] at hrow
      exact own_cells hrow (j := j * 5 + 4) (by rw [flat_at (fun z : PFunc × K4 => fcell z.1 z.2) 5 (fun _ => rfl) zs j 4 hj (by omega)]; rfl)
    · exact ⟨_, (hr0.each zs[j] (List.getElem_mem hj)).2.2.1⟩
    · exact ⟨_, (hr0.each zs[j] (List.getElem_mem hj)).2.2.2⟩
end Go.Proofs.YtgpdggjpbmgegaaDoor
