/- How a run lies in memory: the engine's block, its frames, and what a change of the innermost frame's blocks makes of it. -/
import Derived.Test.YtgpdggjpbmgegaaDoorFits
namespace Go.Proofs.YtgpdggjpbmgegaaDoor
open Go.RowKit
set_option linter.unusedVariables false
set_option linter.unusedSimpArgs false


/-- a frame's three blocks -/
structure HFr where
  fb : Nat
  rb : Nat
  wb : Nat
def HFr.blocks (h : HFr) : List Nat := [h.fb, h.rb, h.wb]
def ptrV (b : Nat) : Value := .pointer (some ⟨b, 0, none⟩)
def frL (fsb fso : Nat) (h : HFr) (f : PFr) : List Value :=
  [.pointer (some ⟨fsb, fso + f.fn * 5, none⟩), .int .i64 f.at_, .int .i64 f.into, .slice (some ⟨h.rb, 0, none⟩) f.regs.length f.regs.length, .slice (some ⟨h.wb, 0, none⟩) f.words.length f.words.length]
def FrAt (w : World) (fsb fso : Nat) (h : HFr) (f : PFr) : Prop := Own w h.fb (frL fsb fso h f) ∧ Own w h.rb (Nums f.regs) ∧ Own w h.wb (Nums f.words)
def engC (E V S F W lim : Int) (mp fv : Value) (use : Int) (over : Bool) (dv : Value) : List Value :=
  [.int .i64 E, .int .i64 V, .int .i64 S, .int .i64 F, .int .i64 W, .int .i64 lim, mp, fv, .int .i64 use, .bool over, dv]
def fnV (k : Nat) : Value := .func (.func k) #[] #[]
def doesL : List Value := [fnV 61, fnV 62, fnV 63, fnV 64, fnV 64, fnV 64, fnV 65, fnV 65, fnV 66, fnV 66, fnV 67, fnV 68, fnV 69, fnV 70, fnV 71, fnV 71, fnV 71, fnV 71, fnV 72, fnV 73]

/-- the module that a run is of: its value at block mb, its functions' cells at fsb, fso -/
structure ModImg where
  mb : Nat
  ta : Option Addr
  tl : Nat
  tc : Nat
  fc : Nat
  fsb : Nat
  fso : Nat
  H : Nat → HF
  kept : List (Nat × Value)
/-- cells of other blocks that stay -/
def KeptAt (w : World) (l : List (Nat × Value)) (bs : List Nat) : Prop := ∀ p ∈ l, p.1 < w.heap.size ∧ w.cell? ⟨p.1, 0, none⟩ = some p.2 ∧ p.1 ∉ bs
theorem KeptAt.chg {S : Nat → Prop} {w w' : World} {l : List (Nat × Value)} {bs bs' : List Nat} (h : KeptAt w l bs) (c : Chg S w w') (hS : ∀ k, S k → k ∈ bs) (hb : ∀ x ∈ bs', x ∈ bs ∨ w.heap.size ≤ x) : KeptAt w' l bs' := fun p hp => by
  obtain ⟨h1, h2, h3⟩ := h p hp
  have hk := c.block p.1 h1 (fun s => h3 (hS _ s))
  refine ⟨Nat.lt_of_lt_of_le h1 c.size, by rw [World.cell?_of_block (w := w) hk]; exact h2, fun hx => ?_⟩
  rcases hb _ hx with e | e
  · exact h3 e
  · omega
def ModLies (B : Nat) (w : World) (g : ModImg) (m : PMod) : Prop :=
  g.fsb < B ∧ g.mb < w.heap.size ∧ w.cell? ⟨g.mb, 0, none⟩ = some (.slice g.ta g.tl g.tc) ∧ w.cell? ⟨g.mb, 1, none⟩ = some (.slice (some ⟨g.fsb, g.fso, none⟩) m.funcs.length g.fc) ∧
  m.funcs.length ≤ maxLen ∧ ∀ i, i < m.funcs.length → FuncCells w g.fsb (g.fso + i * 5) (g.H i) (fnAt m i) ∧ FuncOk B w (g.H i) (fnAt m i)

/-- the frames lie in memory, the innermost last -/
def FramesAt (w : World) (g : ModImg) : List HFr → List PFr → Prop
  | [], [] => True
  | h :: hs, f :: fs => FrAt w g.fsb g.fso h f ∧ FramesAt w g hs fs
  | _, _ => False

structure Img where
  eb : Nat
  db : Nat
  sb : Nat
  cap : Nat
  hr : List HFr
  ht : HFr
def Img.blocks (i : Img) : List Nat := i.eb :: i.db :: i.sb :: ((i.hr ++ [i.ht]).flatMap HFr.blocks)

structure EngAt (B : Nat) (w : World) (g : ModImg) (m : PMod) (i : Img) (ex : List Value) (lim steps : Int) (s : PSt) : Prop where
  low : B ≤ w.heap.size
  mod : ModLies B w g m
  eng : Own w i.eb (engC 0 0 steps s.mf s.mw lim (ptrV g.mb) (.slice (some ⟨i.sb, 0, none⟩) (s.rest.length + 1) i.cap) s.use false (.slice (some ⟨i.db, 0, none⟩) 20 20) ++ ex)
  does : Own w i.db doesL
  row : w.ownsRow 0 117 1 (.slice (some ⟨i.sb, 0, none⟩) (s.rest.length + 1) i.cap) (s.rest.length + 1) ((i.hr ++ [i.ht]).map fun h => ptrV h.fb)
  frames : FramesAt w g i.hr s.rest
  top : FrAt w g.fsb g.fso i.ht s.top
  nodup : i.blocks.Nodup
  own : ∀ k ∈ i.blocks, B ≤ k ∧ k < w.heap.size ∧ k ≠ g.mb
  kept : KeptAt w g.kept i.blocks

theorem FramesAt.len {w : World} {g : ModImg} : ∀ {hs : List HFr} {fs : List PFr}, FramesAt w g hs fs → hs.length = fs.length
  | [], [], _ => rfl
  | _ :: _, _ :: _, h => by simp [FramesAt.len h.2]
  | [], _ :: _, h => h.elim
  | _ :: _, [], h => h.elim
theorem FrAt.chg {S : Nat → Prop} {w w' : World} {a b : Nat} {h : HFr} {f : PFr} (k : FrAt w a b h f) (c : Chg S w w') (hs : ∀ x ∈ h.blocks, ¬ S x) : FrAt w' a b h f :=
  ⟨c.own k.1 (hs _ (by simp [HFr.blocks])), c.own k.2.1 (hs _ (by simp [HFr.blocks])), c.own k.2.2 (hs _ (by simp [HFr.blocks]))⟩
theorem FramesAt.chg {S : Nat → Prop} {w w' : World} {g : ModImg} (c : Chg S w w') : ∀ {hs : List HFr} {fs : List PFr}, FramesAt w g hs fs → (∀ h ∈ hs, ∀ x ∈ h.blocks, ¬ S x) → FramesAt w' g hs fs
  | [], [], _, _ => trivial
  | h :: hs, f :: fs, k, hS => ⟨k.1.chg c (hS h (by simp)), FramesAt.chg c k.2 (fun x hx => hS x (by simp [hx]))⟩
  | [], _ :: _, h, _ => h.elim
  | _ :: _, [], h, _ => h.elim
theorem ModLies.chg {S : Nat → Prop} {B : Nat} {w w' : World} {g : ModImg} {m : PMod} (h : ModLies B w g m) (c : Chg S w w') (hB : B ≤ w.heap.size) (hs : ∀ k, k < B → ¬ S k) (hm : ¬ S g.mb) : ModLies B w' g m := by
  obtain ⟨h1, h2, h3, h4, h5, h6⟩ := h
  have sm := c.same hB hs
  have hb := c.block g.mb h2 hm
  exact ⟨h1, Nat.lt_of_lt_of_le h2 c.size, by rw [World.cell?_of_block (w := w) hb]; exact h3, by rw [World.cell?_of_block (w := w) hb]; exact h4, h5, fun i hi => ⟨(h6 i hi).1.same sm h1, (h6 i hi).2.same sm⟩⟩
theorem ownsRow_chg {S : Nat → Prop} {w w' : World} (c : Chg S w w') {e size g n cap : Nat} {xs : List Value} (h : w.ownsRow 0 e size (.slice (some ⟨g, 0, none⟩) n cap) n xs) (hg : ¬ S g) : w'.ownsRow 0 e size (.slice (some ⟨g, 0, none⟩) n cap) n xs := by
  obtain ⟨h1, h2⟩ := h
  refine ⟨h1, ?_⟩
  rcases h2 with ⟨h0, _⟩ | ⟨g', cap', cur, hv, hb, hh, rest⟩
  · cases h0
  · cases hv
    exact .inr ⟨g, cap, cur, rfl, hb, by rw [c.block g (Array.getElem?_eq_some_iff.1 hh).1 hg]; exact hh, rest⟩

/-- a change of the innermost frame's blocks alone -/
theorem EngAt.top_chg {B : Nat} {w w' : World} {g : ModImg} {m : PMod} {i : Img} {ex : List Value} {lim steps : Int} {s : PSt} (h : EngAt B w g m i ex lim steps s) {S : Nat → Prop} (c : Chg S w w') (hS : ∀ k, S k → k ∈ i.ht.blocks) {t : PFr} (ht : FrAt w' g.fsb g.fso i.ht t) :
    EngAt B w' g m i ex lim steps { s with top := t } := by
  have hmem : ∀ k, S k → k ∈ i.blocks := fun k hk => by have := hS k hk; unfold Img.blocks; simp only [List.mem_cons, List.mem_flatMap]; exact .inr (.inr (.inr ⟨i.ht, by simp, this⟩))
  have hnd := h.nodup
  unfold Img.blocks at hnd
  simp only [List.flatMap_append, List.flatMap_cons, List.flatMap_nil, List.append_nil] at hnd
  have ne : i.eb ∉ i.ht.blocks := by intro hx; have := (List.nodup_cons.1 hnd).1; simp [hx] at this
  have nd : i.db ∉ i.ht.blocks := by intro hx; have := (List.nodup_cons.1 (List.nodup_cons.1 hnd).2).1; simp [hx] at this
  have ns : i.sb ∉ i.ht.blocks := by intro hx; have := (List.nodup_cons.1 (List.nodup_cons.1 (List.nodup_cons.1 hnd).2).2).1; simp [hx] at this
  have hdis := (List.nodup_append.1 (List.nodup_cons.1 (List.nodup_cons.1 (List.nodup_cons.1 hnd).2).2).2).2.2
  refine ⟨Nat.le_trans h.low c.size, h.mod.chg c h.low (fun k hk hs => ?_) (fun hs => ?_), c.own h.eng (fun hs => ne (hS _ hs)), c.own h.does (fun hs => nd (hS _ hs)), ownsRow_chg c h.row (fun hs => ns (hS _ hs)), h.frames.chg c (fun x hx k hk hs => ?_), ht, h.nodup, fun k hk => ?_, h.kept.chg c hmem (fun x hx => .inl hx)⟩
  · have := (h.own k (hmem k hs)).1; omega
  · exact (h.own _ (hmem _ hs)).2.2 rfl
  · exact hdis k (List.mem_flatMap.2 ⟨x, hx, hk⟩) k (hS k hs) rfl
  · have := h.own k hk; exact ⟨this.1, Nat.lt_of_lt_of_le this.2.1 c.size, this.2.2⟩

/-- nothing that was there has changed -/
theorem EngAt.below {B : Nat} {w w' : World} {g : ModImg} {m : PMod} {i : Img} {ex : List Value} {lim steps : Int} {s : PSt} (h : EngAt B w g m i ex lim steps s) (hb : Below w.heap.size w w') : EngAt B w' g m i ex lim steps s := by
  have c : Chg (fun _ => False) w w' := Chg.of hb
  have := h.top_chg c (fun _ h => h.elim) (h.top.chg c (fun _ _ h => h))
  exact this
end Go.Proofs.YtgpdggjpbmgegaaDoor
