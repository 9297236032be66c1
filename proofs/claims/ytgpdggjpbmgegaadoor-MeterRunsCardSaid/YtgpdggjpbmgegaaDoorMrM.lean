/- The reference machine (R20): what its memory is in each state of a run, and how the parts of a step keep that. The reference machine (R20): a step, the operations on registers. The reference machine (R20): a step, the operations that call. -/
import Derived.Test.YtgpdggjpbmgegaaDoorMrH
import Derived.Test.YtgpdggjpbmgegaaDoorFuel
namespace Go.Proofs.YtgpdggjpbmgegaaDoor
open Go.RowKit
set_option linter.unusedVariables false
set_option linter.unusedSimpArgs false

structure K2 where
  rb : Nat
  wb : Nat
def frCells (z : PFr × K2) : List Value := [.int .i64 z.1.fn, .int .i64 z.1.at_, .int .i64 z.1.into, .slice (some ⟨z.2.rb, 0, none⟩) z.1.regs.length z.1.regs.length, .slice (some ⟨z.2.wb, 0, none⟩) z.1.words.length z.1.words.length]
def frBs (z : PFr × K2) : List Nat := [z.2.rb, z.2.wb]
structure FrGood (N : Nat) (w : World) (z : PFr × K2) : Prop where
  rb : N ≤ z.2.rb
  wb : N ≤ z.2.wb
  r : Own w z.2.rb (Nums z.1.regs)
  wo : Own w z.2.wb (Nums z.1.words)
theorem FrGood.chg {N : Nat} {S : Nat → Prop} {w w' : World} {z : PFr × K2} (h : FrGood N w z) (c : Chg S w w') (h1 : ¬ S z.2.rb) (h2 : ¬ S z.2.wb) : FrGood N w' z := ⟨h.rb, h.wb, c.own h.r h1, c.own h.wo h2⟩
/-- the machine, its frames, the innermost apart -/
structure RefAt (N : Nat) (w : World) (xb yb cap : Nat) (x : MC) (zr : List (PFr × K2)) (z : PFr × K2) : Prop where
  own : Own w xb x.cells
  fr : x.fr = .slice (some ⟨yb, 0, none⟩) (zr.length + 1) cap
  row : w.ownsRow 0 105 5 (.slice (some ⟨yb, 0, none⟩) (zr.length + 1) cap) (zr.length + 1) ((zr ++ [z]).flatMap frCells)
  each : ∀ y ∈ zr ++ [z], FrGood N w y
  nx : N ≤ xb
  ny : N ≤ yb
  dist : (xb :: yb :: (zr ++ [z]).flatMap frBs).Nodup

theorem frCells_len : ∀ (zs : List (PFr × K2)), (zs.flatMap frCells).length = zs.length * 5
  | [] => rfl
  | z :: zs => by rw [List.flatMap_cons, List.length_append, frCells_len zs]; simp [frCells]; omega
theorem frCells_top (zr : List (PFr × K2)) (z : PFr × K2) (i : Nat) (hi : i < 5) : ((zr ++ [z]).flatMap frCells)[zr.length * 5 + i]? = (frCells z)[i]? := by
  rw [List.flatMap_append, List.getElem?_append_right (by rw [frCells_len]; omega), frCells_len]
  simp
theorem frCells_set (zr : List (PFr × K2)) (z t : PFr × K2) (i : Nat) (v : Value) (hi : i < 5) (h : (frCells z).set i v = frCells t) : ((zr ++ [z]).flatMap frCells).set (zr.length * 5 + i) v = (zr ++ [t]).flatMap frCells := by
  rw [List.flatMap_append, List.flatMap_append, List.set_append_right _ _ (by rw [frCells_len]; omega), frCells_len]
  simp [h]

theorem RefAt.ne {N : Nat} {w : World} {xb yb cap : Nat} {x : MC} {zr : List (PFr × K2)} {z : PFr × K2} (h : RefAt N w xb yb cap x zr z) : xb ≠ yb ∧ xb ≠ z.2.rb ∧ xb ≠ z.2.wb ∧ yb ≠ z.2.rb ∧ yb ≠ z.2.wb ∧ z.2.rb ≠ z.2.wb := by
  have d := h.dist
  simp only [List.flatMap_append, List.flatMap_cons, List.flatMap_nil, List.append_nil, frBs, List.nodup_cons, List.mem_cons, List.mem_append, List.mem_flatMap, List.nodup_append, List.not_mem_nil, or_false, not_or] at d
  obtain ⟨⟨a1, a2, a3, a4⟩, ⟨b1, b2, b3⟩, c1, ⟨d1, _⟩, _⟩ := d
  exact ⟨a1, a3, a4, b2, b3, d1⟩
theorem RefAt.old {N : Nat} {w : World} {xb yb cap : Nat} {x : MC} {zr : List (PFr × K2)} {z : PFr × K2} (h : RefAt N w xb yb cap x zr z) : ∀ y ∈ zr, xb ≠ y.2.rb ∧ xb ≠ y.2.wb ∧ yb ≠ y.2.rb ∧ yb ≠ y.2.wb ∧ y.2.rb ≠ z.2.rb ∧ y.2.rb ≠ z.2.wb ∧ y.2.wb ≠ z.2.rb ∧ y.2.wb ≠ z.2.wb := by
  have d := h.dist
  intro y hy
  simp only [List.flatMap_append, List.flatMap_cons, List.flatMap_nil, List.append_nil, frBs, List.nodup_cons, List.mem_cons, List.mem_append, List.mem_flatMap, List.nodup_append, List.not_mem_nil, or_false, not_or, not_exists, not_and] at d
  obtain ⟨⟨a1, a2, a3, a4⟩, ⟨b1, b2, b3⟩, c1, ⟨d1, _⟩, e1⟩ := d
  have q1 := a2 y hy
  have q2 := b1 y hy
  have q3 := fun u hu => e1 u ⟨y, hy, hu⟩
  have q4 := q3 y.2.rb (.inl rfl)
  have q5 := q3 y.2.wb (.inr rfl)
  refine ⟨q1.1, q1.2, q2.1, q2.2, q4 _ (.inl rfl), q4 _ (.inr rfl), q5 _ (.inl rfl), q5 _ (.inr rfl)⟩
theorem RefAt.lt {N : Nat} {w : World} {xb yb cap : Nat} {x : MC} {zr : List (PFr × K2)} {z : PFr × K2} (h : RefAt N w xb yb cap x zr z) : xb < w.heap.size ∧ yb < w.heap.size ∧ ∀ y ∈ zr ++ [z], y.2.rb < w.heap.size ∧ y.2.wb < w.heap.size :=
  ⟨h.own.1, (h.row.lt yb rfl).2, fun y hy => ⟨(h.each y hy).r.1, (h.each y hy).wo.1⟩⟩

/-- the innermost frame is another one: its place, its registers and its words -/
theorem RefAt.upd {N : Nat} {w w' : World} {xb yb cap : Nat} {x : MC} {zr : List (PFr × K2)} {z : PFr × K2} (h : RefAt N w xb yb cap x zr z) (c : Chg (fun j => j = yb ∨ j = z.2.rb ∨ j = z.2.wb) w w') (t : PFr)
    (hrow : w'.ownsRow 0 105 5 (.slice (some ⟨yb, 0, none⟩) (zr.length + 1) cap) (zr.length + 1) ((zr ++ [(t, z.2)]).flatMap frCells)) (hr : Own w' z.2.rb (Nums t.regs)) (hw : Own w' z.2.wb (Nums t.words)) : RefAt N w' xb yb cap x zr (t, z.2) := by
  have e := h.each z (by simp)
  have ne := h.ne
  refine ⟨c.own h.own (by omega), h.fr, hrow, fun y hy => ?_, h.nx, h.ny, ?_⟩
  · rcases List.mem_append.1 hy with k | k
    · have := h.old y k
      exact (h.each y (by simp [k])).chg c (by omega) (by omega)
    · rw [List.mem_singleton.1 k]; exact ⟨e.rb, e.wb, hr, hw⟩
  · have := h.dist
    simpa [List.flatMap_append, frBs] using this
/-- nothing of it is changed -/
theorem RefAt.keep {N : Nat} {w w' : World} {xb yb cap : Nat} {x : MC} {zr : List (PFr × K2)} {z : PFr × K2} (h : RefAt N w xb yb cap x zr z) (c : Below w.heap.size w w') : RefAt N w' xb yb cap x zr z :=
  ⟨h.own.below c, h.fr, ownsRow_chg (S := fun _ => False) (Chg.of c) h.row (fun h => h), fun y hy => (h.each y hy).chg (S := fun _ => False) (Chg.of c) (fun h => h) (fun h => h), h.nx, h.ny, h.dist⟩
/-- registers and words change, the place does not -/
theorem RefAt.updR {N : Nat} {w w' : World} {xb yb cap : Nat} {x : MC} {zr : List (PFr × K2)} {z : PFr × K2} (h : RefAt N w xb yb cap x zr z) (c : Chg (fun j => j = z.2.rb ∨ j = z.2.wb) w w') (t : PFr) (e1 : t.fn = z.1.fn) (e2 : t.at_ = z.1.at_) (e3 : t.into = z.1.into) (e4 : t.regs.length = z.1.regs.length) (e5 : t.words.length = z.1.words.length)
    (hr : Own w' z.2.rb (Nums t.regs)) (hw : Own w' z.2.wb (Nums t.words)) : RefAt N w' xb yb cap x zr (t, z.2) := by
  have ne := h.ne
  refine h.upd (c.mono (fun k _ h => .inr h)) t ?_ hr hw
  have he : frCells (t, z.2) = frCells z := by simp [frCells, e1, e2, e3, e4, e5]
  have := ownsRow_chg c h.row (by omega)
  simpa [List.flatMap_append, he] using this
/-- the machine's cells change -/
theorem RefAt.setX {N : Nat} {w w' : World} {xb yb cap : Nat} {x x' : MC} {zr : List (PFr × K2)} {z : PFr × K2} (h : RefAt N w xb yb cap x zr z) (c : Chg (· = xb) w w') (ho : Own w' xb x'.cells) (hf : x'.fr = x.fr) : RefAt N w' xb yb cap x' zr z := by
  have ne := h.ne
  refine ⟨ho, hf.trans h.fr, ownsRow_chg c h.row (fun e => ne.1 e.symm), fun y hy => ?_, h.nx, h.ny, h.dist⟩
  rcases List.mem_append.1 hy with k | k
  · have := h.old y k
    exact (h.each y hy).chg c (by omega) (by omega)
  · rw [List.mem_singleton.1 k]; exact (h.each z (by simp)).chg c (by omega) (by omega)

/-- a frame more -/
theorem RefAt.push {N : Nat} {w w' : World} {xb yb cap : Nat} {x x' : MC} {zr : List (PFr × K2)} {z : PFr × K2} (h : RefAt N w xb yb cap x zr z) (hN : N ≤ w.heap.size) (sb cap2 : Nat) (t : PFr × K2) (c : Chg (fun j => j = xb ∨ j = yb) w w') (ho : Own w' xb x'.cells) (hf : x'.fr = .slice (some ⟨sb, 0, none⟩) (zr.length + 1 + 1) cap2)
    (hrow : w'.ownsRow 0 105 5 (.slice (some ⟨sb, 0, none⟩) (zr.length + 1 + 1) cap2) (zr.length + 1 + 1) ((zr ++ [z]).flatMap frCells ++ frCells t)) (hsb : sb = yb ∨ w.heap.size ≤ sb) (h1 : w.heap.size ≤ t.2.rb) (h2 : w.heap.size ≤ t.2.wb) (h3 : t.2.rb ≠ t.2.wb) (h4 : sb ≠ t.2.rb) (h5 : sb ≠ t.2.wb) (hr : Own w' t.2.rb (Nums t.1.regs)) (hw : Own w' t.2.wb (Nums t.1.words)) : RefAt N w' xb sb cap2 x' (zr ++ [z]) t := by
  have ne := h.ne
  have lt := h.lt
  have ny := h.ny
  have hall : ∀ y ∈ zr ++ [z], xb ≠ y.2.rb ∧ xb ≠ y.2.wb ∧ yb ≠ y.2.rb ∧ yb ≠ y.2.wb := by
    intro y hy
    rcases List.mem_append.1 hy with k | k
    · have := h.old y k; omega
    · rw [List.mem_singleton.1 k]; omega
  refine ⟨ho, by simpa using hf, by simpa [List.flatMap_append] using hrow, fun y hy => ?_, h.nx, by omega, ?_⟩
  · rcases List.mem_append.1 hy with k | k
    · have := hall y k
      exact (h.each y k).chg c (by omega) (by omega)
    · rw [List.mem_singleton.1 k]; exact ⟨by omega, by omega, hr, hw⟩
  · have d := h.dist
    have e : (zr ++ [z] ++ [t]).flatMap frBs = (zr ++ [z]).flatMap frBs ++ [t.2.rb, t.2.wb] := by rw [List.flatMap_append]; simp [frBs]
    rw [e]
    have hb : ∀ b ∈ (zr ++ [z]).flatMap frBs, b < w.heap.size ∧ b ≠ yb := by
      intro b hb
      obtain ⟨y, hy, hm⟩ := List.mem_flatMap.1 hb
      have q := lt.2.2 y hy
      have q2 := hall y hy
      simp only [frBs, List.mem_cons, List.not_mem_nil, or_false] at hm
      omega
    rw [List.nodup_cons, List.nodup_cons] at d ⊢
    obtain ⟨d1, d2, d3⟩ := d
    refine ⟨fun hx => ?_, fun hx => ?_, ?_⟩
    · rcases List.mem_cons.1 hx with k | k
      · omega
      · rcases List.mem_append.1 k with k | k
        · exact d1 (List.mem_cons_of_mem _ k)
        · simp only [List.mem_cons, List.not_mem_nil, or_false] at k; omega
    · rcases List.mem_append.1 hx with k | k
      · have := hb _ k; omega
      · simp only [List.mem_cons, List.not_mem_nil, or_false] at k; omega
    · rw [List.nodup_append]
      refine ⟨d3, by simp [h3], fun a ha b hbb => ?_⟩
      have := hb a ha
      simp only [List.mem_cons, List.not_mem_nil, or_false] at hbb
      omega

theorem ownsRow_less {w : World} {e size g n m cap : Nat} {xs : List Value} (h : w.ownsRow 0 e size (.slice (some ⟨g, 0, none⟩) n cap) n xs) (hm : m ≤ n) : w.ownsRow 0 e size (.slice (some ⟨g, 0, none⟩) m cap) m (xs.take (m * size)) := by
  obtain ⟨h1, h2⟩ := h
  have hle : m * size ≤ n * size := Nat.mul_le_mul_right _ hm
  refine ⟨by simp; omega, ?_⟩
  rcases h2 with ⟨e, _⟩ | ⟨g', cap', cur, e, a, b, c, d, f, k⟩
  · cases e
  · cases e
    refine .inr ⟨g, cap, cur, rfl, a, b, by omega, d, f, ?_⟩
    rw [← k, List.take_take, Nat.min_eq_left hle]
/-- a frame less: the one below it has a register written -/
theorem RefAt.pop {N : Nat} {w w' : World} {xb yb cap : Nat} {x x' : MC} {zr : List (PFr × K2)} {c z : PFr × K2} (h : RefAt N w xb yb cap x (zr ++ [c]) z) (ch : Chg (fun j => j = xb ∨ j = c.2.rb) w w') (ho : Own w' xb x'.cells) (hf : x'.fr = .slice (some ⟨yb, 0, none⟩) (zr.length + 1) cap) (t : PFr) (e1 : t.fn = c.1.fn) (e2 : t.at_ = c.1.at_) (e3 : t.into = c.1.into) (e4 : t.regs.length = c.1.regs.length) (e5 : t.words = c.1.words)
    (hr : Own w' c.2.rb (Nums t.regs)) : RefAt N w' xb yb cap x' zr (t, c.2) := by
  have ne := h.ne
  have oc := h.old c (by simp)
  have ec := h.each c (by simp)
  have d := h.dist
  have e : (zr ++ [c] ++ [z]).flatMap frBs = (zr ++ [c]).flatMap frBs ++ frBs z := by rw [List.flatMap_append]; simp
  rw [e, ← List.cons_append, ← List.cons_append, List.nodup_append] at d
  have d0 := d.1
  have hz : ∀ y ∈ zr, c.2.rb ≠ y.2.rb ∧ c.2.rb ≠ y.2.wb ∧ c.2.rb ≠ c.2.wb := by
    intro y hy
    have dd := d0
    simp only [List.flatMap_append, List.flatMap_cons, List.flatMap_nil, List.append_nil, frBs, List.nodup_cons, List.mem_cons, List.mem_append, List.mem_flatMap, List.nodup_append, List.not_mem_nil, or_false, not_or, not_exists, not_and] at dd
    obtain ⟨_, _, _, ⟨d1, _⟩, q⟩ := dd
    have q1 := q y.2.rb ⟨y, hy, .inl rfl⟩ c.2.rb (.inl rfl)
    have q2 := q y.2.wb ⟨y, hy, .inr rfl⟩ c.2.rb (.inl rfl)
    exact ⟨Ne.symm q1, Ne.symm q2, d1⟩
  have hcc : c.2.rb ≠ c.2.wb := by
    have dd := d0
    simp only [List.flatMap_append, List.flatMap_cons, List.flatMap_nil, List.append_nil, frBs, List.nodup_cons, List.mem_cons, List.mem_append, List.mem_flatMap, List.nodup_append, List.not_mem_nil, or_false, not_or, not_exists, not_and] at dd
    obtain ⟨_, _, _, ⟨d1, _⟩, q⟩ := dd
    exact d1
  have he : frCells (t, c.2) = frCells c := by simp [frCells, e1, e2, e3, e4, e5]
  refine ⟨ho, hf, ?_, fun y hy => ?_, h.nx, h.ny, ?_⟩
  · have r1 := ownsRow_chg ch h.row (by omega)
    have r2 := ownsRow_less r1 (m := zr.length + 1) (by simp)
    have q : (((zr ++ [c]) ++ [z]).flatMap frCells).take ((zr.length + 1) * 5) = (zr ++ [(t, c.2)]).flatMap frCells := by
      rw [List.flatMap_append, List.take_append_of_le_length (by rw [frCells_len]; simp), List.take_of_length_le (by rw [frCells_len]; simp)]
      rw [List.flatMap_append, List.flatMap_append]
      simp [he]
    rw [q] at r2
    exact r2
  · rcases List.mem_append.1 hy with k | k
    · have q := hz y k
      have q2 := h.old y (by simp [k])
      exact (h.each y (by simp [k])).chg ch (by omega) (by omega)
    · rw [List.mem_singleton.1 k]
      exact ⟨ec.rb, ec.wb, hr, by rw [e5]; exact ch.own ec.wo (by dsimp only; omega)⟩
  · simpa [List.flatMap_append, frBs] using d0

/-- memory and state agree -/
def RefIs (N : Nat) (w : World) (xb : Nat) (x : MC) (s : PSt) : Prop :=
  ∃ yb cap zr z, RefAt N w xb yb cap x zr z ∧ s.rest = zr.map Prod.fst ∧ s.top = z.1 ∧ x.use = s.use ∧ x.mf = s.mf ∧ x.mw = s.mw
/-- what a step makes -/
def MStep (N xb : Nat) (x : MC) (r : PRes) (w w' : World) : Prop :=
  Chg (fun j => N ≤ j) w w' ∧ match r with
  | .next s' => ∃ fr, RefIs N w' xb { x with fr := fr, use := s'.use, mf := s'.mf, mw := s'.mw } s'
  | .done v _ mf mw => ∃ u fr, Own w' xb { x with use := u, fr := fr, e := 0, v := v, mf := mf, mw := mw, en := true }.cells
  | .trap e => Own w' xb { x with e := e, v := 0, en := true }.cells

theorem calls_same {P : Program} {f : FuncId} {args : Array Value} {w : World} {v : Ending} (h : Calls P f args w fun e w' => e = v ∧ w' = w) : Calls P f args w fun e w' => e = v ∧ Below w.heap.size w w' := h.mono fun _ _ ⟨h1, h2⟩ => ⟨h1, h2 ▸ Below.refl _ _⟩
theorem RefAt.goto {N : Nat} {w w1 : World} {xb yb cap : Nat} {x : MC} {zr : List (PFr × K2)} {z : PFr × K2} (h : RefAt N w xb yb cap x zr z) (hb : Below w.heap.size w w1) (n : Int) : RefAt N (w1.setCell ⟨yb, zr.length * 5 + 1, none⟩ (.int .i64 n)) xb yb cap x zr (z.1.goto n, z.2) := by
  have h1 := h.keep hb
  have e := h1.each z (by simp)
  have ne := h1.ne
  refine h1.upd ((Chg.refl _ _).setCell (.inl (.inl rfl)) _) (z.1.goto n) ?_ (e.r.setOther _ (by simp; omega)) (e.wo.setOther _ (by simp; omega))
  rw [← frCells_set zr z (z.1.goto n, z.2) 1 (.int .i64 n) (by omega) (by simp [frCells, PFr.goto])]
  exact (World.ownsRow.stored h1.row _ _).1

theorem RefAt.put {N : Nat} {w w1 : World} {xb yb cap : Nat} {x : MC} {zr : List (PFr × K2)} {z : PFr × K2} (h : RefAt N w xb yb cap x zr z) (a : Nat) (v : Int) (ha : a < z.1.regs.length) (hb : Below w.heap.size w w1) : RefAt N (w1.setCell ⟨z.2.rb, a, none⟩ (.int .i64 v)) xb yb cap x zr (z.1.put a v, z.2) := by
  have h1 := h.keep hb
  have e := h1.each z (by simp)
  have ne := h1.ne
  refine h1.updR ((Chg.refl _ _).setCell (.inl (.inl rfl)) _) (z.1.put a v) rfl rfl rfl (by simp [PFr.put]) rfl ?_ (e.wo.setOther _ (by simp; omega))
  have := e.r.setNum a v ha
  simpa [PFr.put] using this

set_option maxRecDepth 100000 in
set_option maxHeartbeats 2000000 in
theorem mdo_set (N xb yb cap a b c : Nat) (op n : Int) (hop : op = 1) (x : MC) (zr : List (PFr × K2)) (z : PFr × K2) (w : World) (h : RefAt N w xb yb cap x zr z) (hN : N ≤ w.heap.size) (hd : zr.length ≤ 1000000) (hat : 0 ≤ z.1.at_ ∧ z.1.at_ ≤ 1024) (hm : z.1.regs.length ≤ 64) (va vb vc : Int) (ha : z.1.regs[a]? = some va) (hb : z.1.regs[b]? = some vb) (hc : z.1.regs[c]? = some vc) :
    Calls Tryd.prog 55 #[.pointer (some ⟨xb, 0, none⟩), .agg #[.int .i64 op, .int .i64 a, .int .i64 b, .int .i64 c, .int .i64 n]] w (fun e w' => e = .returned (.tuple #[]) ∧ Chg (fun j => N ≤ j) w w' ∧ RefAt N w' xb yb cap x zr ((z.1.goto (z.1.at_ + 1)).put a n, z.2)) := by
  subst hop
  have o := own11 h.own
  rw [h.fr] at o
  have c1 := own_cells h.row ((frCells_top zr z 1 (by omega)).trans rfl)
  have f1 := h.row.frozenAt (zr.length * 5 + 1)
  have hyl : yb < w.heap.size := h.lt.2.1
  have w3 : IntKind.i64.wrap ((zr.length : Int) + 1 - 1) = (zr.length : Int) := by rw [IntWalk.i64_in _ (by omega)]; omega
  have w4 : IntKind.i64.wrap (z.1.at_ + 1) = z.1.at_ + 1 := IntWalk.i64_in _ (by omega)
  have w5 : IntKind.i64.wrap (zr.length : Int) = (zr.length : Int) := IntWalk.i64_in _ (by omega)
  have i4 : (zr.length : Int) < (zr.length : Int) + 1 := by omega
  have H := Lib.hid h; clear h
  go_enter Tryd.func55, Tryd.ntmps55
  go_wp2
  refine wp_still 11 (by kernel_rfl) (by kernel_rfl) ?_; simp only [List.take_succ_cons, List.take_zero, List.drop_succ_cons, List.drop_zero]; repeat (refine WS_step (fun K hK => ?_); go_simp; refine hK _ ?_; clear hK K)
  refine WS_nil ?_
  go_wp2_with fail
  
  generalize hW1 : World.drew _ = W1
  have hr1 : RefAt N W1 xb yb cap x zr (z.1.goto (z.1.at_ + 1), z.2) := by rw [← hW1]; exact (H.out.goto (Below.refl _ _) _).keep (by repeat (first | with_reducible exact Below.refl _ _ | with_reducible assumption | with_reducible refine Below.drew ?_ | with_reducible refine Below.drewN ?_ _ | with_reducible refine Below.alloc ?_ (by first | omega | (simp <;> omega) | (simp at * <;> omega)) _ | with_reducible refine Below.setCell ?_ (by first | omega | (simp <;> omega) | (simp at * <;> omega)) _ | (with_reducible refine Below.trans ?_ (Below.mono (by first | with_reducible assumption | exact hF _) (by first | omega | (simp <;> omega) | (simp at * <;> omega))))))
  have hk1 : Chg (fun j => N ≤ j) w W1 := by rw [← hW1]; exact (((Chg.refl _ _).setCell (.inl (by simpa using H.out.ny)) _).alloc _).drew
  have oi1 := own5 (show Own W1 w.heap.size [.int .i64 1, .int .i64 a, .int .i64 b, .int .i64 c, .int .i64 n] by rw [← hW1]; exact (Own.new' _ _ _ _ (by simp)).drew)
  clear hW1 c1 f1 hyl o
  have hz1 := hk1.size
  have cr := own_cells hr1.row ((frCells_top zr _ 3 (by omega)).trans rfl)
  have g1 := hr1.each _ (by simp : (z.1.goto (z.1.at_ + 1), z.2) ∈ zr ++ [(z.1.goto (z.1.at_ + 1), z.2)])
  have hl1 := hr1.lt.2.2 _ (by simp : (z.1.goto (z.1.at_ + 1), z.2) ∈ zr ++ [(z.1.goto (z.1.at_ + 1), z.2)])
  have hl2 := hr1.lt
  have hn1 := hr1.ne
  have fr1 := g1.r.2.2
  dsimp only [PFr.goto] at cr hl1 fr1
  have HR := Lib.hid hr1; clear hr1
  have ra := g1.r.num (i := a) (v := va) ha
  have rb := g1.r.num (i := b) (v := vb) hb
  have rc := g1.r.num (i := c) (v := vc) hc
  have la := some_lt ha
  have lb := some_lt hb
  have lc := some_lt hc
  clear ha hb hc
  dsimp only [PFr.goto] at ra rb rc
  have G1 := Lib.hid g1; clear g1
  refine wp_still 9 (by kernel_rfl) (by kernel_rfl) ?_; simp only [List.take_succ_cons, List.take_zero, List.drop_succ_cons, List.drop_zero]; repeat (refine WS_step (fun K hK => ?_); go_simp; refine hK _ ?_; clear hK K)
  refine WS_nil ?_; go_wp2
  go_end0
  go_light
  exact ⟨rfl, hk1.trans (((Chg.refl _ _).setCell (.inl (by simpa using G1.out.rb)) _).drew), (HR.out.put a n la (Below.refl _ _)).keep (by repeat (first | with_reducible exact Below.refl _ _ | with_reducible assumption | with_reducible refine Below.drew ?_ | with_reducible refine Below.drewN ?_ _ | with_reducible refine Below.alloc ?_ (by first | omega | (simp <;> omega) | (simp at * <;> omega)) _ | with_reducible refine Below.setCell ?_ (by first | omega | (simp <;> omega) | (simp at * <;> omega)) _ | (with_reducible refine Below.trans ?_ (Below.mono (by first | with_reducible assumption | exact hF _) (by first | omega | (simp <;> omega) | (simp at * <;> omega))))))⟩

set_option maxRecDepth 100000 in
set_option maxHeartbeats 2000000 in
theorem mdo_move (N xb yb cap a b c : Nat) (op n : Int) (hop : op = 2) (x : MC) (zr : List (PFr × K2)) (z : PFr × K2) (w : World) (h : RefAt N w xb yb cap x zr z) (hN : N ≤ w.heap.size) (hd : zr.length ≤ 1000000) (hat : 0 ≤ z.1.at_ ∧ z.1.at_ ≤ 1024) (hm : z.1.regs.length ≤ 64) (va vb vc : Int) (ha : z.1.regs[a]? = some va) (hb : z.1.regs[b]? = some vb) (hc : z.1.regs[c]? = some vc) :
    Calls Tryd.prog 55 #[.pointer (some ⟨xb, 0, none⟩), .agg #[.int .i64 op, .int .i64 a, .int .i64 b, .int .i64 c, .int .i64 n]] w (fun e w' => e = .returned (.tuple #[]) ∧ Chg (fun j => N ≤ j) w w' ∧ RefAt N w' xb yb cap x zr ((z.1.goto (z.1.at_ + 1)).put a vb, z.2)) := by
  subst hop
  have o := own11 h.own
  rw [h.fr] at o
  have c1 := own_cells h.row ((frCells_top zr z 1 (by omega)).trans rfl)
  have f1 := h.row.frozenAt (zr.length * 5 + 1)
  have hyl : yb < w.heap.size := h.lt.2.1
  have w3 : IntKind.i64.wrap ((zr.length : Int) + 1 - 1) = (zr.length : Int) := by rw [IntWalk.i64_in _ (by omega)]; omega
  have w4 : IntKind.i64.wrap (z.1.at_ + 1) = z.1.at_ + 1 := IntWalk.i64_in _ (by omega)
  have w5 : IntKind.i64.wrap (zr.length : Int) = (zr.length : Int) := IntWalk.i64_in _ (by omega)
  have i4 : (zr.length : Int) < (zr.length : Int) + 1 := by omega
  have H := Lib.hid h; clear h
  go_enter Tryd.func55, Tryd.ntmps55
  go_wp2
  refine wp_still 11 (by kernel_rfl) (by kernel_rfl) ?_; simp only [List.take_succ_cons, List.take_zero, List.drop_succ_cons, List.drop_zero]; repeat (refine WS_step (fun K hK => ?_); go_simp; refine hK _ ?_; clear hK K)
  refine WS_nil ?_
  go_wp2_with fail
  
  generalize hW1 : World.drew _ = W1
  have hr1 : RefAt N W1 xb yb cap x zr (z.1.goto (z.1.at_ + 1), z.2) := by rw [← hW1]; exact (H.out.goto (Below.refl _ _) _).keep (by repeat (first | with_reducible exact Below.refl _ _ | with_reducible assumption | with_reducible refine Below.drew ?_ | with_reducible refine Below.drewN ?_ _ | with_reducible refine Below.alloc ?_ (by first | omega | (simp <;> omega) | (simp at * <;> omega)) _ | with_reducible refine Below.setCell ?_ (by first | omega | (simp <;> omega) | (simp at * <;> omega)) _ | (with_reducible refine Below.trans ?_ (Below.mono (by first | with_reducible assumption | exact hF _) (by first | omega | (simp <;> omega) | (simp at * <;> omega))))))
  have hk1 : Chg (fun j => N ≤ j) w W1 := by rw [← hW1]; exact (((Chg.refl _ _).setCell (.inl (by simpa using H.out.ny)) _).alloc _).drew
  have oi1 := own5 (show Own W1 w.heap.size [.int .i64 2, .int .i64 a, .int .i64 b, .int .i64 c, .int .i64 n] by rw [← hW1]; exact (Own.new' _ _ _ _ (by simp)).drew)
  clear hW1 c1 f1 hyl o
  have hz1 := hk1.size
  have cr := own_cells hr1.row ((frCells_top zr _ 3 (by omega)).trans rfl)
  have g1 := hr1.each _ (by simp : (z.1.goto (z.1.at_ + 1), z.2) ∈ zr ++ [(z.1.goto (z.1.at_ + 1), z.2)])
  have hl1 := hr1.lt.2.2 _ (by simp : (z.1.goto (z.1.at_ + 1), z.2) ∈ zr ++ [(z.1.goto (z.1.at_ + 1), z.2)])
  have hl2 := hr1.lt
  have hn1 := hr1.ne
  have fr1 := g1.r.2.2
  dsimp only [PFr.goto] at cr hl1 fr1
  have HR := Lib.hid hr1; clear hr1
  have ra := g1.r.num (i := a) (v := va) ha
  have rb := g1.r.num (i := b) (v := vb) hb
  have rc := g1.r.num (i := c) (v := vc) hc
  have la := some_lt ha
  have lb := some_lt hb
  have lc := some_lt hc
  clear ha hb hc
  dsimp only [PFr.goto] at ra rb rc
  have G1 := Lib.hid g1; clear g1
  refine wp_still 15 (by kernel_rfl) (by kernel_rfl) ?_; simp only [List.take_succ_cons, List.take_zero, List.drop_succ_cons, List.drop_zero]; repeat (refine WS_step (fun K hK => ?_); go_simp; refine hK _ ?_; clear hK K)
  refine WS_nil ?_; go_wp2
  go_end0
  go_light
  exact ⟨rfl, hk1.trans (((Chg.refl _ _).setCell (.inl (by simpa using G1.out.rb)) _).drew), (HR.out.put a vb la (Below.refl _ _)).keep (by repeat (first | with_reducible exact Below.refl _ _ | with_reducible assumption | with_reducible refine Below.drew ?_ | with_reducible refine Below.drewN ?_ _ | with_reducible refine Below.alloc ?_ (by first | omega | (simp <;> omega) | (simp at * <;> omega)) _ | with_reducible refine Below.setCell ?_ (by first | omega | (simp <;> omega) | (simp at * <;> omega)) _ | (with_reducible refine Below.trans ?_ (Below.mono (by first | with_reducible assumption | exact hF _) (by first | omega | (simp <;> omega) | (simp at * <;> omega))))))⟩

set_option maxRecDepth 100000 in
set_option maxHeartbeats 2000000 in
theorem mdo_not (N xb yb cap a b c : Nat) (op n : Int) (hop : op = 10) (x : MC) (zr : List (PFr × K2)) (z : PFr × K2) (w : World) (h : RefAt N w xb yb cap x zr z) (hN : N ≤ w.heap.size) (hd : zr.length ≤ 1000000) (hat : 0 ≤ z.1.at_ ∧ z.1.at_ ≤ 1024) (hm : z.1.regs.length ≤ 64) (va vb vc : Int) (ha : z.1.regs[a]? = some va) (hb : z.1.regs[b]? = some vb) (hc : z.1.regs[c]? = some vc) :
    Calls Tryd.prog 55 #[.pointer (some ⟨xb, 0, none⟩), .agg #[.int .i64 op, .int .i64 a, .int .i64 b, .int .i64 c, .int .i64 n]] w (fun e w' => e = .returned (.tuple #[]) ∧ Chg (fun j => N ≤ j) w w' ∧ RefAt N w' xb yb cap x zr ((z.1.goto (z.1.at_ + 1)).put a (truthZ (vb == 0)), z.2)) := by
  subst hop
  have o := own11 h.own
  rw [h.fr] at o
  have c1 := own_cells h.row ((frCells_top zr z 1 (by omega)).trans rfl)
  have f1 := h.row.frozenAt (zr.length * 5 + 1)
  have hyl : yb < w.heap.size := h.lt.2.1
  have w3 : IntKind.i64.wrap ((zr.length : Int) + 1 - 1) = (zr.length : Int) := by rw [IntWalk.i64_in _ (by omega)]; omega
  have w4 : IntKind.i64.wrap (z.1.at_ + 1) = z.1.at_ + 1 := IntWalk.i64_in _ (by omega)
  have w5 : IntKind.i64.wrap (zr.length : Int) = (zr.length : Int) := IntWalk.i64_in _ (by omega)
  have i4 : (zr.length : Int) < (zr.length : Int) + 1 := by omega
  have H := Lib.hid h; clear h
  go_enter Tryd.func55, Tryd.ntmps55
  go_wp2
  refine wp_still 11 (by kernel_rfl) (by kernel_rfl) ?_; simp only [List.take_succ_cons, List.take_zero, List.drop_succ_cons, List.drop_zero]; repeat (refine WS_step (fun K hK => ?_); go_simp; refine hK _ ?_; clear hK K)
  refine WS_nil ?_
  go_wp2_with fail
  
  generalize hW1 : World.drew _ = W1
  have hr1 : RefAt N W1 xb yb cap x zr (z.1.goto (z.1.at_ + 1), z.2) := by rw [← hW1]; exact (H.out.goto (Below.refl _ _) _).keep (by repeat (first | with_reducible exact Below.refl _ _ | with_reducible assumption | with_reducible refine Below.drew ?_ | with_reducible refine Below.drewN ?_ _ | with_reducible refine Below.alloc ?_ (by first | omega | (simp <;> omega) | (simp at * <;> omega)) _ | with_reducible refine Below.setCell ?_ (by first | omega | (simp <;> omega) | (simp at * <;> omega)) _ | (with_reducible refine Below.trans ?_ (Below.mono (by first | with_reducible assumption | exact hF _) (by first | omega | (simp <;> omega) | (simp at * <;> omega))))))
  have hk1 : Chg (fun j => N ≤ j) w W1 := by rw [← hW1]; exact (((Chg.refl _ _).setCell (.inl (by simpa using H.out.ny)) _).alloc _).drew
  have oi1 := own5 (show Own W1 w.heap.size [.int .i64 10, .int .i64 a, .int .i64 b, .int .i64 c, .int .i64 n] by rw [← hW1]; exact (Own.new' _ _ _ _ (by simp)).drew)
  clear hW1 c1 f1 hyl o
  have hz1 := hk1.size
  have cr := own_cells hr1.row ((frCells_top zr _ 3 (by omega)).trans rfl)
  have g1 := hr1.each _ (by simp : (z.1.goto (z.1.at_ + 1), z.2) ∈ zr ++ [(z.1.goto (z.1.at_ + 1), z.2)])
  have hl1 := hr1.lt.2.2 _ (by simp : (z.1.goto (z.1.at_ + 1), z.2) ∈ zr ++ [(z.1.goto (z.1.at_ + 1), z.2)])
  have hl2 := hr1.lt
  have hn1 := hr1.ne
  have fr1 := g1.r.2.2
  dsimp only [PFr.goto] at cr hl1 fr1
  have HR := Lib.hid hr1; clear hr1
  have ra := g1.r.num (i := a) (v := va) ha
  have rb := g1.r.num (i := b) (v := vb) hb
  have rc := g1.r.num (i := c) (v := vc) hc
  have la := some_lt ha
  have lb := some_lt hb
  have lc := some_lt hc
  clear ha hb hc
  dsimp only [PFr.goto] at ra rb rc
  have G1 := Lib.hid g1; clear g1
  refine wp_below_tail 17 (by kernel_rfl) (by kernel_rfl) (fun T F hF hall => ?_); simp only [List.take_succ_cons, List.take_zero, List.drop_succ_cons, List.drop_zero]; have hFc := fun t => (bcell (hF t)).1; have hFf := fun t => (bcell (hF t)).2; have hFs := fun t => (hF t).size; have hNE : Nonempty T := (hall _ (Below.refl _ _)).elim fun t _ => ⟨t⟩; repeat (refine WQ_step (fun K hK => ?_); go_simp; refine hK _ ?_; clear hK K)
  (refine WQ_step (fun K hK => ?_); go_simp; refine ⟨_, fun t => calls_family (hF t) hall (calls_same (mtruth_any (vb == 0) (F t))), hK _ ?_⟩; clear hK K)
  repeat (refine WQ_step (fun K hK => ?_); go_simp; refine hK _ ?_; clear hK K)
  refine WQ_nil (fun t => ?_); have hft := hF t; go_wp2
  go_end0
  go_light
  exact ⟨rfl, hk1.trans ((Chg.of hft).setCell (.inl (by simpa using G1.out.rb)) _), HR.out.put a _ la hft⟩

set_option maxRecDepth 100000 in
set_option maxHeartbeats 2000000 in
theorem mdo_num (N xb yb cap a b c : Nat) (op n : Int) (hop : 3 ≤ op ∧ op ≤ 9) (x : MC) (zr : List (PFr × K2)) (z : PFr × K2) (w : World) (h : RefAt N w xb yb cap x zr z) (hN : N ≤ w.heap.size) (hd : zr.length ≤ 1000000) (hat : 0 ≤ z.1.at_ ∧ z.1.at_ ≤ 1024) (hm : z.1.regs.length ≤ 64) (va vb vc : Int) (ha : z.1.regs[a]? = some va) (hb : z.1.regs[b]? = some vb) (hc : z.1.regs[c]? = some vc) (hvb : In64 vb) (hvc : In64 vc) (hq : ¬ ((op = 6 ∨ op = 7) ∧ vc = 0)) :
    Calls Tryd.prog 55 #[.pointer (some ⟨xb, 0, none⟩), .agg #[.int .i64 op, .int .i64 a, .int .i64 b, .int .i64 c, .int .i64 n]] w (fun e w' => e = .returned (.tuple #[]) ∧ Chg (fun j => N ≤ j) w w' ∧ RefAt N w' xb yb cap x zr ((z.1.goto (z.1.at_ + 1)).put a (numV op vb vc), z.2)) := by
  have hnum : numberP op vb vc = [.int .i64 (numV op vb vc), .bool true] := by unfold numberP; rw [if_neg hq]
  have HNUM := Lib.hid (fun w => calls_same (mnumber_any op vb vc w hop hvb hvc))
  rw [hnum] at HNUM
  clear hnum hq hvb hvc
  generalize numV op vb vc = nv at *
  have e0 : (op == 0) = false := by simp; omega
  have e1 : (op == 1) = false := by simp; omega
  have e2 : (op == 2) = false := by simp; omega
  have e3 : (op == 10) = false := by simp; omega
  have e4 : decide (3 ≤ op) = true := by simp; omega
  have e5 : decide (op ≤ 9) = true := by simp; omega
  have HOP := Lib.hid hop; clear hop
  have o := own11 h.own
  rw [h.fr] at o
  have c1 := own_cells h.row ((frCells_top zr z 1 (by omega)).trans rfl)
  have f1 := h.row.frozenAt (zr.length * 5 + 1)
  have hyl : yb < w.heap.size := h.lt.2.1
  have w3 : IntKind.i64.wrap ((zr.length : Int) + 1 - 1) = (zr.length : Int) := by rw [IntWalk.i64_in _ (by omega)]; omega
  have w4 : IntKind.i64.wrap (z.1.at_ + 1) = z.1.at_ + 1 := IntWalk.i64_in _ (by omega)
  have w5 : IntKind.i64.wrap (zr.length : Int) = (zr.length : Int) := IntWalk.i64_in _ (by omega)
  have i4 : (zr.length : Int) < (zr.length : Int) + 1 := by omega
  have H := Lib.hid h; clear h
  go_enter Tryd.func55, Tryd.ntmps55
  go_wp2
  refine wp_still 11 (by kernel_rfl) (by kernel_rfl) ?_; simp only [List.take_succ_cons, List.take_zero, List.drop_succ_cons, List.drop_zero]; repeat (refine WS_step (fun K hK => ?_); go_simp; refine hK _ ?_; clear hK K)
  refine WS_nil ?_
  go_wp2_with fail
  
  generalize hW1 : World.drew _ = W1
  have hr1 : RefAt N W1 xb yb cap x zr (z.1.goto (z.1.at_ + 1), z.2) := by rw [← hW1]; exact (H.out.goto (Below.refl _ _) _).keep (by repeat (first | with_reducible exact Below.refl _ _ | with_reducible assumption | with_reducible refine Below.drew ?_ | with_reducible refine Below.drewN ?_ _ | with_reducible refine Below.alloc ?_ (by first | omega | (simp <;> omega) | (simp at * <;> omega)) _ | with_reducible refine Below.setCell ?_ (by first | omega | (simp <;> omega) | (simp at * <;> omega)) _ | (with_reducible refine Below.trans ?_ (Below.mono (by first | with_reducible assumption | exact hF _) (by first | omega | (simp <;> omega) | (simp at * <;> omega))))))
  have hk1 : Chg (fun j => N ≤ j) w W1 := by rw [← hW1]; exact (((Chg.refl _ _).setCell (.inl (by simpa using H.out.ny)) _).alloc _).drew
  have oi1 := own5 (show Own W1 w.heap.size [.int .i64 op, .int .i64 a, .int .i64 b, .int .i64 c, .int .i64 n] by rw [← hW1]; exact (Own.new' _ _ _ _ (by simp)).drew)
  clear hW1 c1 f1 hyl o
  have hz1 := hk1.size
  have cr := own_cells hr1.row ((frCells_top zr _ 3 (by omega)).trans rfl)
  have g1 := hr1.each _ (by simp : (z.1.goto (z.1.at_ + 1), z.2) ∈ zr ++ [(z.1.goto (z.1.at_ + 1), z.2)])
  have hl1 := hr1.lt.2.2 _ (by simp : (z.1.goto (z.1.at_ + 1), z.2) ∈ zr ++ [(z.1.goto (z.1.at_ + 1), z.2)])
  have hl2 := hr1.lt
  have hn1 := hr1.ne
  have fr1 := g1.r.2.2
  dsimp only [PFr.goto] at cr hl1 fr1
  have HR := Lib.hid hr1; clear hr1
  have ra := g1.r.num (i := a) (v := va) ha
  have rb := g1.r.num (i := b) (v := vb) hb
  have rc := g1.r.num (i := c) (v := vc) hc
  have la := some_lt ha
  have lb := some_lt hb
  have lc := some_lt hc
  clear ha hb hc
  dsimp only [PFr.goto] at ra rb rc
  have G1 := Lib.hid g1; clear g1
  refine wp_below_tail 23 (by kernel_rfl) (by kernel_rfl) (fun T F hF hall => ?_); simp only [List.take_succ_cons, List.take_zero, List.drop_succ_cons, List.drop_zero]; have hFc := fun t => (bcell (hF t)).1; have hFf := fun t => (bcell (hF t)).2; have hFs := fun t => (hF t).size; have hNE : Nonempty T := (hall _ (Below.refl _ _)).elim fun t _ => ⟨t⟩; repeat (refine WQ_step (fun K hK => ?_); go_simp; refine hK _ ?_; clear hK K)
  (refine WQ_step (fun K hK => ?_); go_simp; refine ⟨_, fun t => calls_family (hF t) hall (HNUM.out (F t)), hK _ ?_⟩; clear hK K)
  repeat (refine WQ_step (fun K hK => ?_); go_simp; refine hK _ ?_; clear hK K)
  refine WQ_nil (fun t => ?_); have hft := hF t; go_wp2
  obtain ⟨W2, hW2⟩ : ∃ W2, W2 = F t := ⟨_, rfl⟩
  rw [← hW2] at hft ⊢
  clear hW2 hF hall hFc hFf hFs hNE
  have hr2 := HR.out.keep hft
  have oi2 : _ := (bcell hft).1 w.heap.size 1 oi1.1
  rw [oi1.2.2.1] at oi2
  have hl3 := hr2.lt
  have cr2 := own_cells hr2.row ((frCells_top zr _ 3 (by omega)).trans rfl)
  have g2 := hr2.each _ (by simp : (z.1.goto (z.1.at_ + 1), z.2) ∈ zr ++ [(z.1.goto (z.1.at_ + 1), z.2)])
  have fr2 := g2.r.2.2
  have ra2 := ((bcell hft).1 z.2.rb a (by omega)).trans ra
  dsimp only [PFr.goto] at cr2 fr2
  have hz2 := hft.size
  have G2 := Lib.hid g2; clear g2
  have HR2 := Lib.hid hr2; clear hr2
  refine wp_still 8 (by kernel_rfl) (by kernel_rfl) ?_; simp only [List.take_succ_cons, List.take_zero, List.drop_succ_cons, List.drop_zero]; repeat (refine WS_step (fun K hK => ?_); go_simp; refine hK _ ?_; clear hK K)
  refine WS_nil ?_; go_wp2
  go_end0
  go_light
  exact ⟨rfl, hk1.trans ((Chg.of hft).trans (((Chg.refl _ _).setCell (.inl (by simpa using G1.out.rb)) _).drew)), (HR2.out.put a nv la (Below.refl _ _)).keep (by repeat (first | with_reducible exact Below.refl _ _ | with_reducible assumption | with_reducible refine Below.drew ?_ | with_reducible refine Below.drewN ?_ _ | with_reducible refine Below.alloc ?_ (by first | omega | (simp <;> omega) | (simp at * <;> omega)) _ | with_reducible refine Below.setCell ?_ (by first | omega | (simp <;> omega) | (simp at * <;> omega)) _ | (with_reducible refine Below.trans ?_ (Below.mono (by first | with_reducible assumption | exact hF _) (by first | omega | (simp <;> omega) | (simp at * <;> omega))))))⟩

set_option maxRecDepth 100000 in
set_option maxHeartbeats 2000000 in
theorem mdo_numtrap (N xb yb cap a b c : Nat) (op n : Int) (hop : 3 ≤ op ∧ op ≤ 9) (x : MC) (zr : List (PFr × K2)) (z : PFr × K2) (w : World) (h : RefAt N w xb yb cap x zr z) (hN : N ≤ w.heap.size) (hd : zr.length ≤ 1000000) (hat : 0 ≤ z.1.at_ ∧ z.1.at_ ≤ 1024) (hm : z.1.regs.length ≤ 64) (va vb vc : Int) (ha : z.1.regs[a]? = some va) (hb : z.1.regs[b]? = some vb) (hc : z.1.regs[c]? = some vc) (hvb : In64 vb) (hvc : In64 vc) (hq : (op = 6 ∨ op = 7) ∧ vc = 0) :
    Calls Tryd.prog 55 #[.pointer (some ⟨xb, 0, none⟩), .agg #[.int .i64 op, .int .i64 a, .int .i64 b, .int .i64 c, .int .i64 n]] w (fun e w' => e = .returned (.tuple #[]) ∧ Chg (fun j => N ≤ j) w w' ∧ Own w' xb { x with e := 50, v := 0, en := true }.cells) := by
  have hnum : numberP op vb vc = [.int .i64 0, .bool false] := by unfold numberP; rw [if_pos hq]
  have HNUM := Lib.hid (fun w => calls_same (mnumber_any op vb vc w hop hvb hvc))
  rw [hnum] at HNUM
  clear hnum hq hvb hvc
  have e0 : (op == 0) = false := by simp; omega
  have e1 : (op == 1) = false := by simp; omega
  have e2 : (op == 2) = false := by simp; omega
  have e3 : (op == 10) = false := by simp; omega
  have e4 : decide (3 ≤ op) = true := by simp; omega
  have e5 : decide (op ≤ 9) = true := by simp; omega
  have HOP := Lib.hid hop; clear hop
  have o := own11 h.own
  rw [h.fr] at o
  have c1 := own_cells h.row ((frCells_top zr z 1 (by omega)).trans rfl)
  have f1 := h.row.frozenAt (zr.length * 5 + 1)
  have hyl : yb < w.heap.size := h.lt.2.1
  have w3 : IntKind.i64.wrap ((zr.length : Int) + 1 - 1) = (zr.length : Int) := by rw [IntWalk.i64_in _ (by omega)]; omega
  have w4 : IntKind.i64.wrap (z.1.at_ + 1) = z.1.at_ + 1 := IntWalk.i64_in _ (by omega)
  have w5 : IntKind.i64.wrap (zr.length : Int) = (zr.length : Int) := IntWalk.i64_in _ (by omega)
  have i4 : (zr.length : Int) < (zr.length : Int) + 1 := by omega
  have H := Lib.hid h; clear h
  go_enter Tryd.func55, Tryd.ntmps55
  go_wp2
  refine wp_still 11 (by kernel_rfl) (by kernel_rfl) ?_; simp only [List.take_succ_cons, List.take_zero, List.drop_succ_cons, List.drop_zero]; repeat (refine WS_step (fun K hK => ?_); go_simp; refine hK _ ?_; clear hK K)
  refine WS_nil ?_
  go_wp2_with fail
  
  generalize hW1 : World.drew _ = W1
  have hr1 : RefAt N W1 xb yb cap x zr (z.1.goto (z.1.at_ + 1), z.2) := by rw [← hW1]; exact (H.out.goto (Below.refl _ _) _).keep (by repeat (first | with_reducible exact Below.refl _ _ | with_reducible assumption | with_reducible refine Below.drew ?_ | with_reducible refine Below.drewN ?_ _ | with_reducible refine Below.alloc ?_ (by first | omega | (simp <;> omega) | (simp at * <;> omega)) _ | with_reducible refine Below.setCell ?_ (by first | omega | (simp <;> omega) | (simp at * <;> omega)) _ | (with_reducible refine Below.trans ?_ (Below.mono (by first | with_reducible assumption | exact hF _) (by first | omega | (simp <;> omega) | (simp at * <;> omega))))))
  have hk1 : Chg (fun j => N ≤ j) w W1 := by rw [← hW1]; exact (((Chg.refl _ _).setCell (.inl (by simpa using H.out.ny)) _).alloc _).drew
  have oi1 := own5 (show Own W1 w.heap.size [.int .i64 op, .int .i64 a, .int .i64 b, .int .i64 c, .int .i64 n] by rw [← hW1]; exact (Own.new' _ _ _ _ (by simp)).drew)
  clear hW1 c1 f1 hyl o
  have hz1 := hk1.size
  have cr := own_cells hr1.row ((frCells_top zr _ 3 (by omega)).trans rfl)
  have g1 := hr1.each _ (by simp : (z.1.goto (z.1.at_ + 1), z.2) ∈ zr ++ [(z.1.goto (z.1.at_ + 1), z.2)])
  have hl1 := hr1.lt.2.2 _ (by simp : (z.1.goto (z.1.at_ + 1), z.2) ∈ zr ++ [(z.1.goto (z.1.at_ + 1), z.2)])
  have hl2 := hr1.lt
  have hn1 := hr1.ne
  have fr1 := g1.r.2.2
  dsimp only [PFr.goto] at cr hl1 fr1
  have HR := Lib.hid hr1; clear hr1
  have ra := g1.r.num (i := a) (v := va) ha
  have rb := g1.r.num (i := b) (v := vb) hb
  have rc := g1.r.num (i := c) (v := vc) hc
  have la := some_lt ha
  have lb := some_lt hb
  have lc := some_lt hc
  clear ha hb hc
  dsimp only [PFr.goto] at ra rb rc
  have G1 := Lib.hid g1; clear g1
  refine wp_below_tail 23 (by kernel_rfl) (by kernel_rfl) (fun T F hF hall => ?_); simp only [List.take_succ_cons, List.take_zero, List.drop_succ_cons, List.drop_zero]; have hFc := fun t => (bcell (hF t)).1; have hFf := fun t => (bcell (hF t)).2; have hFs := fun t => (hF t).size; have hNE : Nonempty T := (hall _ (Below.refl _ _)).elim fun t _ => ⟨t⟩; repeat (refine WQ_step (fun K hK => ?_); go_simp; refine hK _ ?_; clear hK K)
  (refine WQ_step (fun K hK => ?_); go_simp; refine ⟨_, fun t => calls_family (hF t) hall (HNUM.out (F t)), hK _ ?_⟩; clear hK K)
  repeat (refine WQ_step (fun K hK => ?_); go_simp; refine hK _ ?_; clear hK K)
  refine WQ_nil (fun t => ?_)
  have hft := hF t
  have hr2 := HR.out.keep hft
  go_wp2_with (go_at_call 54; refine (mends_any xb x 50 0 _ hr2.own).mono ?_; rintro e w3 ⟨rfl, hc1, ho1⟩)
  go_end0
  go_light
  exact ⟨rfl, hk1.trans ((Chg.of hft).trans (hc1.mono (fun k _ e => by rw [e]; exact HR.out.nx))), ho1⟩

set_option maxRecDepth 100000 in
set_option maxHeartbeats 2000000 in
theorem mdo_ret (N xb yb cap a b c : Nat) (op n : Int) (hop : op = 0) (x : MC) (zr : List (PFr × K2)) (z : PFr × K2) (w : World) (h : RefAt N w xb yb cap x zr z) (hN : N ≤ w.heap.size) (hd : zr.length ≤ 1000000) (hat : 0 ≤ z.1.at_ ∧ z.1.at_ ≤ 1024) (hm : z.1.regs.length ≤ 64) (va vb vc : Int) (ha : z.1.regs[a]? = some va) (hb : z.1.regs[b]? = some vb) (hc : z.1.regs[c]? = some vc) (Q : World → Prop)
    (HC : ∀ W1, RefAt N W1 xb yb cap x zr (z.1.goto (z.1.at_ + 1), z.2) → Chg (fun j => N ≤ j) w W1 → Calls Tryd.prog 74 #[.pointer (some ⟨xb, 0, none⟩), .int .i64 va] W1 (fun e w' => e = .returned (.tuple #[]) ∧ Q w')) :
    Calls Tryd.prog 55 #[.pointer (some ⟨xb, 0, none⟩), .agg #[.int .i64 op, .int .i64 a, .int .i64 b, .int .i64 c, .int .i64 n]] w (fun e w' => e = .returned (.tuple #[]) ∧ Q w') := by
  subst hop
  have HCC := Lib.hid HC; clear HC
  have o := own11 h.own
  rw [h.fr] at o
  have c1 := own_cells h.row ((frCells_top zr z 1 (by omega)).trans rfl)
  have f1 := h.row.frozenAt (zr.length * 5 + 1)
  have hyl : yb < w.heap.size := h.lt.2.1
  have w3 : IntKind.i64.wrap ((zr.length : Int) + 1 - 1) = (zr.length : Int) := by rw [IntWalk.i64_in _ (by omega)]; omega
  have w4 : IntKind.i64.wrap (z.1.at_ + 1) = z.1.at_ + 1 := IntWalk.i64_in _ (by omega)
  have w5 : IntKind.i64.wrap (zr.length : Int) = (zr.length : Int) := IntWalk.i64_in _ (by omega)
  have i4 : (zr.length : Int) < (zr.length : Int) + 1 := by omega
  have H := Lib.hid h; clear h
  go_enter Tryd.func55, Tryd.ntmps55
  go_wp2
  refine wp_still 11 (by kernel_rfl) (by kernel_rfl) ?_; simp only [List.take_succ_cons, List.take_zero, List.drop_succ_cons, List.drop_zero]; repeat (refine WS_step (fun K hK => ?_); go_simp; refine hK _ ?_; clear hK K)
  refine WS_nil ?_
  go_wp2_with fail
  
  generalize hW1 : World.drew _ = W1
  have hr1 : RefAt N W1 xb yb cap x zr (z.1.goto (z.1.at_ + 1), z.2) := by rw [← hW1]; exact (H.out.goto (Below.refl _ _) _).keep (by repeat (first | with_reducible exact Below.refl _ _ | with_reducible assumption | with_reducible refine Below.drew ?_ | with_reducible refine Below.drewN ?_ _ | with_reducible refine Below.alloc ?_ (by first | omega | (simp <;> omega) | (simp at * <;> omega)) _ | with_reducible refine Below.setCell ?_ (by first | omega | (simp <;> omega) | (simp at * <;> omega)) _ | (with_reducible refine Below.trans ?_ (Below.mono (by first | with_reducible assumption | exact hF _) (by first | omega | (simp <;> omega) | (simp at * <;> omega))))))
  have hk1 : Chg (fun j => N ≤ j) w W1 := by rw [← hW1]; exact (((Chg.refl _ _).setCell (.inl (by simpa using H.out.ny)) _).alloc _).drew
  have oi1 := own5 (show Own W1 w.heap.size [.int .i64 0, .int .i64 a, .int .i64 b, .int .i64 c, .int .i64 n] by rw [← hW1]; exact (Own.new' _ _ _ _ (by simp)).drew)
  clear hW1 c1 f1 hyl o
  have hz1 := hk1.size
  have cr := own_cells hr1.row ((frCells_top zr _ 3 (by omega)).trans rfl)
  have g1 := hr1.each _ (by simp : (z.1.goto (z.1.at_ + 1), z.2) ∈ zr ++ [(z.1.goto (z.1.at_ + 1), z.2)])
  have hl1 := hr1.lt.2.2 _ (by simp : (z.1.goto (z.1.at_ + 1), z.2) ∈ zr ++ [(z.1.goto (z.1.at_ + 1), z.2)])
  have hl2 := hr1.lt
  have hn1 := hr1.ne
  have fr1 := g1.r.2.2
  dsimp only [PFr.goto] at cr hl1 fr1
  have HR := Lib.hid hr1; clear hr1
  have ra := g1.r.num (i := a) (v := va) ha
  have rb := g1.r.num (i := b) (v := vb) hb
  have rc := g1.r.num (i := c) (v := vc) hc
  have la := some_lt ha
  have lb := some_lt hb
  have lc := some_lt hc
  clear ha hb hc
  dsimp only [PFr.goto] at ra rb rc
  have G1 := Lib.hid g1; clear g1
  refine wp_still 9 (by kernel_rfl) (by kernel_rfl) ?_; simp only [List.take_succ_cons, List.take_zero, List.drop_succ_cons, List.drop_zero]; repeat (refine WS_step (fun K hK => ?_); go_simp; refine hK _ ?_; clear hK K)
  refine WS_nil ?_
  go_wp2_with (go_at_call 74; refine (HCC.out _ (HR.out.keep (by repeat (first | with_reducible exact Below.refl _ _ | with_reducible assumption | with_reducible refine Below.drew ?_ | with_reducible refine Below.drewN ?_ _ | with_reducible refine Below.alloc ?_ (by first | omega | (simp <;> omega) | (simp at * <;> omega)) _ | with_reducible refine Below.setCell ?_ (by first | omega | (simp <;> omega) | (simp at * <;> omega)) _ | (with_reducible refine Below.trans ?_ (Below.mono (by first | with_reducible assumption | exact hF _) (by first | omega | (simp <;> omega) | (simp at * <;> omega))))))) (hk1.trans (by repeat (first | with_reducible exact Chg.refl _ _ | with_reducible assumption | with_reducible refine Chg.drew ?_ | with_reducible refine Chg.drewN ?_ _ | with_reducible refine Chg.alloc ?_ _ | with_reducible refine Chg.setCell ?_ (by first | with_reducible exact .inl rfl | exact .inl (.inl rfl) | exact .inl (.inr rfl) | exact .inr (by simp)) _ | (with_reducible refine Chg.trans ?_ (Chg.of (by first | with_reducible assumption | exact hF _))))))).mono ?_; rintro e w3 ⟨rfl, hq3⟩)
  go_end0
  go_light
  exact ⟨rfl, hq3⟩

set_option maxRecDepth 100000 in
set_option maxHeartbeats 2000000 in
theorem mdo_mem (N xb yb cap a b c : Nat) (op n : Int) (hop : 11 ≤ op ∧ op ≤ 13) (x : MC) (zr : List (PFr × K2)) (z : PFr × K2) (w : World) (h : RefAt N w xb yb cap x zr z) (hN : N ≤ w.heap.size) (hd : zr.length ≤ 1000000) (hat : 0 ≤ z.1.at_ ∧ z.1.at_ ≤ 1024) (hm : z.1.regs.length ≤ 64) (va vb vc : Int) (ha : z.1.regs[a]? = some va) (hb : z.1.regs[b]? = some vb) (hc : z.1.regs[c]? = some vc) (Q : World → Prop)
    (HC : ∀ W1, RefAt N W1 xb yb cap x zr (z.1.goto (z.1.at_ + 1), z.2) → Chg (fun j => N ≤ j) w W1 → Calls Tryd.prog 77 #[.pointer (some ⟨xb, 0, none⟩), .pointer (some ⟨yb, zr.length * 5, none⟩), .agg #[.int .i64 op, .int .i64 a, .int .i64 b, .int .i64 c, .int .i64 n]] W1 (fun e w' => e = .returned (.tuple #[]) ∧ Q w')) :
    Calls Tryd.prog 55 #[.pointer (some ⟨xb, 0, none⟩), .agg #[.int .i64 op, .int .i64 a, .int .i64 b, .int .i64 c, .int .i64 n]] w (fun e w' => e = .returned (.tuple #[]) ∧ Q w') := by
  have HCC := Lib.hid HC; clear HC
  have e0 : (op == 0) = false := by simp; omega
  have e1 : (op == 1) = false := by simp; omega
  have e2 : (op == 2) = false := by simp; omega
  have e3 : (op == 10) = false := by simp; omega
  have e4 : decide (3 ≤ op) = true := by simp; omega
  have e5 : decide (op ≤ 9) = false := by simp; omega
  have e6 : decide (11 ≤ op) = true := by simp; omega
  have e7 : decide (op ≤ 13) = true := by simp; omega
  have HOP := Lib.hid hop; clear hop
  have o := own11 h.own
  rw [h.fr] at o
  have c1 := own_cells h.row ((frCells_top zr z 1 (by omega)).trans rfl)
  have f1 := h.row.frozenAt (zr.length * 5 + 1)
  have hyl : yb < w.heap.size := h.lt.2.1
  have w3 : IntKind.i64.wrap ((zr.length : Int) + 1 - 1) = (zr.length : Int) := by rw [IntWalk.i64_in _ (by omega)]; omega
  have w4 : IntKind.i64.wrap (z.1.at_ + 1) = z.1.at_ + 1 := IntWalk.i64_in _ (by omega)
  have w5 : IntKind.i64.wrap (zr.length : Int) = (zr.length : Int) := IntWalk.i64_in _ (by omega)
  have i4 : (zr.length : Int) < (zr.length : Int) + 1 := by omega
  have H := Lib.hid h; clear h
  go_enter Tryd.func55, Tryd.ntmps55
  go_wp2
  refine wp_still 11 (by kernel_rfl) (by kernel_rfl) ?_; simp only [List.take_succ_cons, List.take_zero, List.drop_succ_cons, List.drop_zero]; repeat (refine WS_step (fun K hK => ?_); go_simp; refine hK _ ?_; clear hK K)
  refine WS_nil ?_
  go_wp2_with fail
  
  generalize hW1 : World.drew _ = W1
  have hr1 : RefAt N W1 xb yb cap x zr (z.1.goto (z.1.at_ + 1), z.2) := by rw [← hW1]; exact (H.out.goto (Below.refl _ _) _).keep (by repeat (first | with_reducible exact Below.refl _ _ | with_reducible assumption | with_reducible refine Below.drew ?_ | with_reducible refine Below.drewN ?_ _ | with_reducible refine Below.alloc ?_ (by first | omega | (simp <;> omega) | (simp at * <;> omega)) _ | with_reducible refine Below.setCell ?_ (by first | omega | (simp <;> omega) | (simp at * <;> omega)) _ | (with_reducible refine Below.trans ?_ (Below.mono (by first | with_reducible assumption | exact hF _) (by first | omega | (simp <;> omega) | (simp at * <;> omega))))))
  have hk1 : Chg (fun j => N ≤ j) w W1 := by rw [← hW1]; exact (((Chg.refl _ _).setCell (.inl (by simpa using H.out.ny)) _).alloc _).drew
  have oi1 := own5 (show Own W1 w.heap.size [.int .i64 op, .int .i64 a, .int .i64 b, .int .i64 c, .int .i64 n] by rw [← hW1]; exact (Own.new' _ _ _ _ (by simp)).drew)
  clear hW1 c1 f1 hyl o
  have hz1 := hk1.size
  have cr := own_cells hr1.row ((frCells_top zr _ 3 (by omega)).trans rfl)
  have g1 := hr1.each _ (by simp : (z.1.goto (z.1.at_ + 1), z.2) ∈ zr ++ [(z.1.goto (z.1.at_ + 1), z.2)])
  have hl1 := hr1.lt.2.2 _ (by simp : (z.1.goto (z.1.at_ + 1), z.2) ∈ zr ++ [(z.1.goto (z.1.at_ + 1), z.2)])
  have hl2 := hr1.lt
  have hn1 := hr1.ne
  have fr1 := g1.r.2.2
  dsimp only [PFr.goto] at cr hl1 fr1
  have HR := Lib.hid hr1; clear hr1
  have ra := g1.r.num (i := a) (v := va) ha
  have rb := g1.r.num (i := b) (v := vb) hb
  have rc := g1.r.num (i := c) (v := vc) hc
  have la := some_lt ha
  have lb := some_lt hb
  have lc := some_lt hc
  clear ha hb hc
  dsimp only [PFr.goto] at ra rb rc
  have G1 := Lib.hid g1; clear g1
  go_wp2_with (go_at_call 77; refine (HCC.out _ (HR.out.keep (by repeat (first | with_reducible exact Below.refl _ _ | with_reducible assumption | with_reducible refine Below.drew ?_ | with_reducible refine Below.drewN ?_ _ | with_reducible refine Below.alloc ?_ (by first | omega | (simp <;> omega) | (simp at * <;> omega)) _ | with_reducible refine Below.setCell ?_ (by first | omega | (simp <;> omega) | (simp at * <;> omega)) _ | (with_reducible refine Below.trans ?_ (Below.mono (by first | with_reducible assumption | exact hF _) (by first | omega | (simp <;> omega) | (simp at * <;> omega))))))) (hk1.trans (by repeat (first | with_reducible exact Chg.refl _ _ | with_reducible assumption | with_reducible refine Chg.drew ?_ | with_reducible refine Chg.drewN ?_ _ | with_reducible refine Chg.alloc ?_ _ | with_reducible refine Chg.setCell ?_ (by first | with_reducible exact .inl rfl | exact .inl (.inl rfl) | exact .inl (.inr rfl) | exact .inr (by simp)) _ | (with_reducible refine Chg.trans ?_ (Chg.of (by first | with_reducible assumption | exact hF _))))))).mono ?_; rintro e w3 ⟨rfl, hq3⟩)
  go_end0
  go_light
  exact ⟨rfl, hq3⟩

set_option maxRecDepth 100000 in
set_option maxHeartbeats 2000000 in
theorem mdo_call (N xb yb cap a b c : Nat) (op n : Int) (hop : op = 19) (x : MC) (zr : List (PFr × K2)) (z : PFr × K2) (w : World) (h : RefAt N w xb yb cap x zr z) (hN : N ≤ w.heap.size) (hd : zr.length ≤ 1000000) (hat : 0 ≤ z.1.at_ ∧ z.1.at_ ≤ 1024) (hm : z.1.regs.length ≤ 64) (va vb vc : Int) (ha : z.1.regs[a]? = some va) (hb : z.1.regs[b]? = some vb) (hc : z.1.regs[c]? = some vc) (Q : World → Prop)
    (HC : ∀ W1, RefAt N W1 xb yb cap x zr (z.1.goto (z.1.at_ + 1), z.2) → Chg (fun j => N ≤ j) w W1 → Calls Tryd.prog 78 #[.pointer (some ⟨xb, 0, none⟩), .slice (some ⟨z.2.rb, 0, none⟩) z.1.regs.length z.1.regs.length, .agg #[.int .i64 19, .int .i64 a, .int .i64 b, .int .i64 c, .int .i64 n]] W1 (fun e w' => e = .returned (.tuple #[]) ∧ Q w')) :
    Calls Tryd.prog 55 #[.pointer (some ⟨xb, 0, none⟩), .agg #[.int .i64 op, .int .i64 a, .int .i64 b, .int .i64 c, .int .i64 n]] w (fun e w' => e = .returned (.tuple #[]) ∧ Q w') := by
  subst hop
  have HCC := Lib.hid HC; clear HC
  have o := own11 h.own
  rw [h.fr] at o
  have c1 := own_cells h.row ((frCells_top zr z 1 (by omega)).trans rfl)
  have f1 := h.row.frozenAt (zr.length * 5 + 1)
  have hyl : yb < w.heap.size := h.lt.2.1
  have w3 : IntKind.i64.wrap ((zr.length : Int) + 1 - 1) = (zr.length : Int) := by rw [IntWalk.i64_in _ (by omega)]; omega
  have w4 : IntKind.i64.wrap (z.1.at_ + 1) = z.1.at_ + 1 := IntWalk.i64_in _ (by omega)
  have w5 : IntKind.i64.wrap (zr.length : Int) = (zr.length : Int) := IntWalk.i64_in _ (by omega)
  have i4 : (zr.length : Int) < (zr.length : Int) + 1 := by omega
  have H := Lib.hid h; clear h
  go_enter Tryd.func55, Tryd.ntmps55
  go_wp2
  refine wp_still 11 (by kernel_rfl) (by kernel_rfl) ?_; simp only [List.take_succ_cons, List.take_zero, List.drop_succ_cons, List.drop_zero]; repeat (refine WS_step (fun K hK => ?_); go_simp; refine hK _ ?_; clear hK K)
  refine WS_nil ?_
  go_wp2_with fail
  
  generalize hW1 : World.drew _ = W1
  have hr1 : RefAt N W1 xb yb cap x zr (z.1.goto (z.1.at_ + 1), z.2) := by rw [← hW1]; exact (H.out.goto (Below.refl _ _) _).keep (by repeat (first | with_reducible exact Below.refl _ _ | with_reducible assumption | with_reducible refine Below.drew ?_ | with_reducible refine Below.drewN ?_ _ | with_reducible refine Below.alloc ?_ (by first | omega | (simp <;> omega) | (simp at * <;> omega)) _ | with_reducible refine Below.setCell ?_ (by first | omega | (simp <;> omega) | (simp at * <;> omega)) _ | (with_reducible refine Below.trans ?_ (Below.mono (by first | with_reducible assumption | exact hF _) (by first | omega | (simp <;> omega) | (simp at * <;> omega))))))
  have hk1 : Chg (fun j => N ≤ j) w W1 := by rw [← hW1]; exact (((Chg.refl _ _).setCell (.inl (by simpa using H.out.ny)) _).alloc _).drew
  have oi1 := own5 (show Own W1 w.heap.size [.int .i64 19, .int .i64 a, .int .i64 b, .int .i64 c, .int .i64 n] by rw [← hW1]; exact (Own.new' _ _ _ _ (by simp)).drew)
  clear hW1 c1 f1 hyl o
  have hz1 := hk1.size
  have cr := own_cells hr1.row ((frCells_top zr _ 3 (by omega)).trans rfl)
  have g1 := hr1.each _ (by simp : (z.1.goto (z.1.at_ + 1), z.2) ∈ zr ++ [(z.1.goto (z.1.at_ + 1), z.2)])
  have hl1 := hr1.lt.2.2 _ (by simp : (z.1.goto (z.1.at_ + 1), z.2) ∈ zr ++ [(z.1.goto (z.1.at_ + 1), z.2)])
  have hl2 := hr1.lt
  have hn1 := hr1.ne
  have fr1 := g1.r.2.2
  dsimp only [PFr.goto] at cr hl1 fr1
  have HR := Lib.hid hr1; clear hr1
  have ra := g1.r.num (i := a) (v := va) ha
  have rb := g1.r.num (i := b) (v := vb) hb
  have rc := g1.r.num (i := c) (v := vc) hc
  have la := some_lt ha
  have lb := some_lt hb
  have lc := some_lt hc
  clear ha hb hc
  dsimp only [PFr.goto] at ra rb rc
  have G1 := Lib.hid g1; clear g1
  refine wp_still 6 (by kernel_rfl) (by kernel_rfl) ?_; simp only [List.take_succ_cons, List.take_zero, List.drop_succ_cons, List.drop_zero]; repeat (refine WS_step (fun K hK => ?_); go_simp; refine hK _ ?_; clear hK K)
  refine WS_nil ?_
  go_wp2_with (go_at_call 78; refine (HCC.out _ (HR.out.keep (by repeat (first | with_reducible exact Below.refl _ _ | with_reducible assumption | with_reducible refine Below.drew ?_ | with_reducible refine Below.drewN ?_ _ | with_reducible refine Below.alloc ?_ (by first | omega | (simp <;> omega) | (simp at * <;> omega)) _ | with_reducible refine Below.setCell ?_ (by first | omega | (simp <;> omega) | (simp at * <;> omega)) _ | (with_reducible refine Below.trans ?_ (Below.mono (by first | with_reducible assumption | exact hF _) (by first | omega | (simp <;> omega) | (simp at * <;> omega))))))) (hk1.trans (by repeat (first | with_reducible exact Chg.refl _ _ | with_reducible assumption | with_reducible refine Chg.drew ?_ | with_reducible refine Chg.drewN ?_ _ | with_reducible refine Chg.alloc ?_ _ | with_reducible refine Chg.setCell ?_ (by first | with_reducible exact .inl rfl | exact .inl (.inl rfl) | exact .inl (.inr rfl) | exact .inr (by simp)) _ | (with_reducible refine Chg.trans ?_ (Chg.of (by first | with_reducible assumption | exact hF _))))))).mono ?_; rintro e w3 ⟨rfl, hq3⟩)
  go_end0
  go_light
  exact ⟨rfl, hq3⟩

set_option maxRecDepth 100000 in
set_option maxHeartbeats 2000000 in
theorem mdo_leads (N xb yb cap a b c : Nat) (op n : Int) (hop : 14 ≤ op ∧ op ≤ 18) (x : MC) (zr : List (PFr × K2)) (z : PFr × K2) (w : World) (h : RefAt N w xb yb cap x zr z) (hN : N ≤ w.heap.size) (hd : zr.length ≤ 1000000) (hat : 0 ≤ z.1.at_ ∧ z.1.at_ ≤ 1024) (hm : z.1.regs.length ≤ 64) (va vb vc : Int) (ha : z.1.regs[a]? = some va) (hb : z.1.regs[b]? = some vb) (hc : z.1.regs[c]? = some vc) (Q : World → Prop)
    (HC : ∀ W1, RefAt N W1 xb yb cap x zr (z.1.goto (z.1.at_ + 1), z.2) → Chg (fun j => N ≤ j) w W1 → Calls Tryd.prog 79 #[.pointer (some ⟨yb, zr.length * 5, none⟩), .agg #[.int .i64 op, .int .i64 a, .int .i64 b, .int .i64 c, .int .i64 n]] W1 (fun e w' => e = .returned (.tuple #[]) ∧ Q w')) :
    Calls Tryd.prog 55 #[.pointer (some ⟨xb, 0, none⟩), .agg #[.int .i64 op, .int .i64 a, .int .i64 b, .int .i64 c, .int .i64 n]] w (fun e w' => e = .returned (.tuple #[]) ∧ Q w') := by
  have HCC := Lib.hid HC; clear HC
  have e0 : (op == 0) = false := by simp; omega
  have e1 : (op == 1) = false := by simp; omega
  have e2 : (op == 2) = false := by simp; omega
  have e3 : (op == 10) = false := by simp; omega
  have e4 : decide (3 ≤ op) = true := by simp; omega
  have e5 : decide (op ≤ 9) = false := by simp; omega
  have e6 : decide (11 ≤ op) = true := by simp; omega
  have e7 : decide (op ≤ 13) = false := by simp; omega
  have e8 : (op == 19) = false := by simp; omega
  have HOP := Lib.hid hop; clear hop
  have o := own11 h.own
  rw [h.fr] at o
  have c1 := own_cells h.row ((frCells_top zr z 1 (by omega)).trans rfl)
  have f1 := h.row.frozenAt (zr.length * 5 + 1)
  have hyl : yb < w.heap.size := h.lt.2.1
  have w3 : IntKind.i64.wrap ((zr.length : Int) + 1 - 1) = (zr.length : Int) := by rw [IntWalk.i64_in _ (by omega)]; omega
  have w4 : IntKind.i64.wrap (z.1.at_ + 1) = z.1.at_ + 1 := IntWalk.i64_in _ (by omega)
  have w5 : IntKind.i64.wrap (zr.length : Int) = (zr.length : Int) := IntWalk.i64_in _ (by omega)
  have i4 : (zr.length : Int) < (zr.length : Int) + 1 := by omega
  have H := Lib.hid h; clear h
  go_enter Tryd.func55, Tryd.ntmps55
  go_wp2
  refine wp_still 11 (by kernel_rfl) (by kernel_rfl) ?_; simp only [List.take_succ_cons, List.take_zero, List.drop_succ_cons, List.drop_zero]; repeat (refine WS_step (fun K hK => ?_); go_simp; refine hK _ ?_; clear hK K)
  refine WS_nil ?_
  go_wp2_with fail
  
  generalize hW1 : World.drew _ = W1
  have hr1 : RefAt N W1 xb yb cap x zr (z.1.goto (z.1.at_ + 1), z.2) := by rw [← hW1]; exact (H.out.goto (Below.refl _ _) _).keep (by repeat (first | with_reducible exact Below.refl _ _ | with_reducible assumption | with_reducible refine Below.drew ?_ | with_reducible refine Below.drewN ?_ _ | with_reducible refine Below.alloc ?_ (by first | omega | (simp <;> omega) | (simp at * <;> omega)) _ | with_reducible refine Below.setCell ?_ (by first | omega | (simp <;> omega) | (simp at * <;> omega)) _ | (with_reducible refine Below.trans ?_ (Below.mono (by first | with_reducible assumption | exact hF _) (by first | omega | (simp <;> omega) | (simp at * <;> omega))))))
  have hk1 : Chg (fun j => N ≤ j) w W1 := by rw [← hW1]; exact (((Chg.refl _ _).setCell (.inl (by simpa using H.out.ny)) _).alloc _).drew
  have oi1 := own5 (show Own W1 w.heap.size [.int .i64 op, .int .i64 a, .int .i64 b, .int .i64 c, .int .i64 n] by rw [← hW1]; exact (Own.new' _ _ _ _ (by simp)).drew)
  clear hW1 c1 f1 hyl o
  have hz1 := hk1.size
  have cr := own_cells hr1.row ((frCells_top zr _ 3 (by omega)).trans rfl)
  have g1 := hr1.each _ (by simp : (z.1.goto (z.1.at_ + 1), z.2) ∈ zr ++ [(z.1.goto (z.1.at_ + 1), z.2)])
  have hl1 := hr1.lt.2.2 _ (by simp : (z.1.goto (z.1.at_ + 1), z.2) ∈ zr ++ [(z.1.goto (z.1.at_ + 1), z.2)])
  have hl2 := hr1.lt
  have hn1 := hr1.ne
  have fr1 := g1.r.2.2
  dsimp only [PFr.goto] at cr hl1 fr1
  have HR := Lib.hid hr1; clear hr1
  have ra := g1.r.num (i := a) (v := va) ha
  have rb := g1.r.num (i := b) (v := vb) hb
  have rc := g1.r.num (i := c) (v := vc) hc
  have la := some_lt ha
  have lb := some_lt hb
  have lc := some_lt hc
  clear ha hb hc
  dsimp only [PFr.goto] at ra rb rc
  have G1 := Lib.hid g1; clear g1
  go_wp2_with (go_at_call 79; refine (HCC.out _ (HR.out.keep (by repeat (first | with_reducible exact Below.refl _ _ | with_reducible assumption | with_reducible refine Below.drew ?_ | with_reducible refine Below.drewN ?_ _ | with_reducible refine Below.alloc ?_ (by first | omega | (simp <;> omega) | (simp at * <;> omega)) _ | with_reducible refine Below.setCell ?_ (by first | omega | (simp <;> omega) | (simp at * <;> omega)) _ | (with_reducible refine Below.trans ?_ (Below.mono (by first | with_reducible assumption | exact hF _) (by first | omega | (simp <;> omega) | (simp at * <;> omega))))))) (hk1.trans (by repeat (first | with_reducible exact Chg.refl _ _ | with_reducible assumption | with_reducible refine Chg.drew ?_ | with_reducible refine Chg.drewN ?_ _ | with_reducible refine Chg.alloc ?_ _ | with_reducible refine Chg.setCell ?_ (by first | with_reducible exact .inl rfl | exact .inl (.inl rfl) | exact .inl (.inr rfl) | exact .inr (by simp)) _ | (with_reducible refine Chg.trans ?_ (Chg.of (by first | with_reducible assumption | exact hF _))))))).mono ?_; rintro e w3 ⟨rfl, hq3⟩)
  go_end0
  go_light
  exact ⟨rfl, hq3⟩
end Go.Proofs.YtgpdggjpbmgegaaDoor
