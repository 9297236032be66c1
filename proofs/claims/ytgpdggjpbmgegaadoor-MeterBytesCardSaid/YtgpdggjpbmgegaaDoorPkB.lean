/- Package pack: a module's bytes as a plain function. -/
import Derived.Test.YtgpdggjpbmgegaaDoorPkA
import Derived.Test.YtgpdggjpbmgegaaDoorFuel
namespace Go.Proofs.YtgpdggjpbmgegaaDoor
open Go.RowKit
set_option linter.unusedVariables false
set_option linter.unusedSimpArgs false


def nameZ (s : ByteArray) : List Int := s.data.toList.map fun b => (b.toNat : Int)
def spanB (p : PSpan) : List Int := numB p.lo 8 ++ numB p.hi 8
def insB (x : PIns) : List Int := [x.op, x.a, x.b, x.c] ++ numB x.n 8
def funH (f : PFunc) : List Int := [(f.name.size : Int)] ++ nameZ f.name ++ [(f.params.length : Int)]
def funM (f : PFunc) : List Int := [f.regs] ++ numB f.words 2 ++ numB f.code.length 2
def funB (f : PFunc) : List Int := funH f ++ f.params.flatMap spanB ++ funM f ++ f.code.flatMap insB
def headB (m : PMod) : List Int := [83, 70, 84, 1] ++ [(m.thr.length : Int)]
def encP (m : PMod) : List Int := headB m ++ m.thr.flatMap (numB · 8) ++ [(m.funcs.length : Int)] ++ m.funcs.flatMap funB

structure FnPk (f : PFunc) : Prop where
  n1 : 1 ≤ f.name.size
  n2 : f.name.size ≤ 16
  p : f.params.length ≤ 8
  r1 : 0 ≤ f.regs
  r2 : f.regs ≤ 64
  w1 : 0 ≤ f.words
  w2 : f.words ≤ 4096
  c1 : 1 ≤ f.code.length
  c2 : f.code.length ≤ 1024
  ins : ∀ i, i < f.code.length → 0 ≤ (f.code.getD i default).op ∧ (f.code.getD i default).op < 20 ∧ 0 ≤ (f.code.getD i default).a ∧ (f.code.getD i default).a < 64 ∧ 0 ≤ (f.code.getD i default).b ∧ (f.code.getD i default).b < 64 ∧ 0 ≤ (f.code.getD i default).c ∧ (f.code.getD i default).c < 64
structure ModPk (m : PMod) : Prop where
  thr : m.thr.length ≤ 16
  few : m.funcs.length ≤ 32
  fn : ∀ k, k < m.funcs.length → FnPk (m.funcs.getD k default)

theorem mayP_whole {m : PMod} (h : (mayP m).e = 0) : m.thr.length ≤ 16 ∧ m.funcs.length ≤ 32 ∧ ∀ k, k < m.funcs.length → (wholeP m k).1 = 0 := by
  unfold mayP at h
  split at h
  · simp at h
  · rename_i h16
    split at h
    · simp at h
    · split at h
      · simp at h
      · rename_i h32
        unfold mayWholes at h
        split at h
        · rename_i f hf
          have := (firstI_spec hf).2.1
          simp at this
          exact absurd h this
        · rename_i hw
          have hw2 := firstI_no hw
          exact ⟨by omega, by omega, fun k hk => by simpa using hw2 k hk⟩
theorem modPk {m : PMod} (h : (mayP m).e = 0) : ModPk m := by
  have hm := fine_of h
  obtain ⟨h1, h2, h3⟩ := mayP_whole h
  refine ⟨h1, h2, fun k hk => ?_⟩
  have q := wholeP_ok (h3 k hk)
  have hn := q.1
  unfold isNameB at hn
  simp only [Bool.and_eq_true, decide_eq_true_eq] at hn
  have f := hm.fn k hk
  unfold fnAt at f
  refine ⟨hn.1.1, hn.1.2, q.2.2.1, by have := f.r1; omega, f.r2, f.w0, f.w1, f.c1, f.c2, fun i hi => ?_⟩
  have x := hm.ins k i hk (by unfold fnAt; exact hi)
  unfold fnAt at x
  have := f.r2
  exact ⟨x.op0, x.op1, x.a0, by have := x.a1; omega, x.b0, by have := x.b1; omega, x.c0, by have := x.c1; omega⟩

theorem flatMap_take_succ {α : Type} [Inhabited α] (F : α → List Int) (l : List α) (k : Nat) (hk : k < l.length) : (l.take (k + 1)).flatMap F = (l.take k).flatMap F ++ F (l.getD k default) := by
  rw [List.take_add_one, List.getElem?_eq_getElem hk, getD_eq l k hk, List.flatMap_append]; simp
theorem flatMap_len_le {α : Type} (F : α → List Int) (c : Nat) : ∀ (l : List α), (∀ x ∈ l, (F x).length ≤ c) → (l.flatMap F).length ≤ c * l.length
  | [], _ => by simp
  | x :: l, h => by
    have h1 := h x (by simp)
    have h2 := flatMap_len_le F c l (fun y hy => h y (by simp [hy]))
    rw [List.flatMap_cons, List.length_append, List.length_cons, Nat.mul_add]; omega
theorem spanB_len (p : PSpan) : (spanB p).length = 16 := by simp [spanB, numB_len]
theorem insB_len (x : PIns) : (insB x).length = 12 := by simp [insB, numB_len]
theorem nameZ_len (s : ByteArray) : (nameZ s).length = s.size := by simp [nameZ]
theorem nameZ_cells (s : ByteArray) : Bys (nameZ s) = Lib.strCells s := by simp [Bys, nameZ, Lib.strCells]
theorem funB_len {f : PFunc} (h : FnPk f) : (funB f).length ≤ 13000 := by
  have h1 := flatMap_len_le spanB 16 f.params (fun x _ => by rw [spanB_len]; omega)
  have h2 := flatMap_len_le insB 12 f.code (fun x _ => by rw [insB_len]; omega)
  have := h.n2; have := h.p; have := h.c2
  simp only [funB, funH, funM, List.length_append, List.length_cons, List.length_nil, nameZ_len, numB_len]
  have e1 : 16 * f.params.length ≤ 128 := by omega
  have e2 : 12 * f.code.length ≤ 12288 := by omega
  omega

/-- append of a string to an own row of bytes -/
theorem run_appS (w : World) (ty : TypeId) (g cap : Nat) (l : List Int) (hown : BufAt w g cap l) (t : ByteArray) (hpos : 0 < l.length) (hlen : l.length + t.size ≤ 4398046511104) :
    ∃ g' cap' w', (Builtin.append_ #[41, 9] ty #[.slice (some ⟨g, 0, none⟩) l.length cap, .string t]).run Tryd.prog w = .ok (.slice (some ⟨g', 0, none⟩) (l ++ nameZ t).length cap') w' ∧ BufAt w' g' cap' (l ++ nameZ t) ∧ Chg (· = g) w w' ∧ (g' = g ∨ w.heap.size ≤ g') := by
  obtain ⟨i0, hi, iz0, iz1, iz2⟩ := info_parts Tryd.infoU8
  obtain ⟨v', w', hr, h2, h3, _⟩ := Lib.run_append_own_string (P := Tryd.prog) (w := w) 0 41 9 ty 5 i0 Tryd.underlying41 Tryd.underlying9 hi iz0 iz1 iz2 (.slice (some ⟨g, 0, none⟩) l.length cap) l.length (Bys l) hown t (by unfold maxLen; omega) (by omega) (Nat.zero_le _)
  have h4 : v'.ownBlock = (Value.slice (some ⟨g, 0, none⟩) l.length cap).ownBlock ∨ (v'.ownBlock = some w.heap.size ∧ Below w.heap.size w w') := by
    rcases hown.2 with ⟨e, _⟩ | ⟨g0, cap0, cur, e, hbg, hg, hnc, hcm, hcs, htake⟩
    · cases e
    · cases e
      by_cases hroom : l.length + t.size ≤ cap
      · have hr2 := Lib.run_append_room_string (P := Tryd.prog) (w := w) 41 9 ty 5 i0 Tryd.underlying41 Tryd.underlying9 hi iz1 g l.length cap cur hg t hroom (by omega)
        rw [hr2] at hr
        cases hr
        exact .inl rfl
      · have hxl : (Bys l).length = l.length := by simp [Bys]
        have holds : ∀ j u, (Bys l)[j]? = some u → w.cell? ((⟨g, 0, none⟩ : Addr).add j) = some u := hown.cells (g := g) rfl
        have hr2 := Lib.run_append_grow_string (P := Tryd.prog) (w := w) 41 9 ty 5 i0 (.int .u8 0) Tryd.underlying41 Tryd.underlying9 hi iz0 ⟨g, 0, none⟩ l.length cap (Bys l) (by rw [iz1]; simpa using hxl) holds t (by omega) (by omega) (by rw [iz2]; exact growslice_fits (by omega) (by omega))
        rw [hr2] at hr
        cases hr
        exact .inr ⟨rfl, (Below.drew (Below.refl _ _)).alloc (Nat.le_refl _) _⟩
  have e : Lib.strCells t = Bys (nameZ t) := (nameZ_cells t).symm
  rw [e] at h2
  have e2 : t.size = (nameZ t).length := (nameZ_len t).symm
  rw [e2] at h2
  obtain ⟨g', cap', rfl, h5, h6, h7⟩ := buf_form (l := l) (new := nameZ t) (by simp; omega) h2 h3 h4
  exact ⟨g', cap', w', hr, h5, h6, h7⟩

theorem wp_appS {w : World} {o : Oper} {a : Act} {K : Act → World → Prop} {Q : Exit → Act → World → Prop} (s x : Operand)
    (ho : o.op = .call { callee := .builtin .append, args := #[s, x], argTypes := #[41, 9] }) (g cap : Nat) (l : List Int) (n : Nat) (hn : n = l.length) (hs : a.eval s = .slice (some ⟨g, 0, none⟩) n cap) (hown : BufAt w g cap l)
    (t : ByteArray) (hx : a.eval x = .string t) (hpos : 0 < l.length) (hlen : l.length + t.size ≤ 4398046511104)
    (h : ∀ g' cap' w', BufAt w' g' cap' (l ++ nameZ t) → Chg (· = g) w w' → (g' = g ∨ w.heap.size ≤ g') → K (a.put o.dst (.slice (some ⟨g', 0, none⟩) (l ++ nameZ t).length cap')) w') : o.wp Tryd.prog a w K Q := by
  subst hn
  obtain ⟨g', cap', w', hr, h5, h6, h7⟩ := run_appS w o.type g cap l hown t hpos hlen
  unfold Oper.wp execOp
  simp only [ho, resolve, invoke, builtin, Sem.run_bind, Sem.run_pure, Result.andThen_ok, List.map_toArray, List.map_cons, List.map_nil, hs, hx, hr]
  exact h g' cap' w' h5 h6 h7

/-- append of bytes, as a step -/
theorem wp_appB {w : World} {o : Oper} {a : Act} {K : Act → World → Prop} {Q : Exit → Act → World → Prop} (s x : Operand)
    (ho : o.op = .call { callee := .builtin .append, args := #[s, x], argTypes := #[41, 41] }) (g cap : Nat) (l : List Int) (n : Nat) (hn : n = l.length) (hs : a.eval s = .slice (some ⟨g, 0, none⟩) n cap) (hown : BufAt w g cap l)
    (ad : Addr) (m c : Nat) (new : List Int) (hm : m = new.length) (hx : a.eval x = .slice (some ad) m c) (hnews : ∀ j u, (Bys new)[j]? = some u → w.cell? (ad.add j) = some u) (hpos : 0 < (l ++ new).length) (hlen : l.length + new.length ≤ 4398046511104)
    (h : ∀ g' cap' w', BufAt w' g' cap' (l ++ new) → Chg (· = g) w w' → (g' = g ∨ w.heap.size ≤ g') → K (a.put o.dst (.slice (some ⟨g', 0, none⟩) (l ++ new).length cap')) w') : o.wp Tryd.prog a w K Q := by
  obtain ⟨i0, hi, iz0, iz1, iz2⟩ := info_parts Tryd.infoU8
  subst hn hm
  refine wp_append2 w s x 41 ho 5 i0 (.int .u8 0) 1 1 Tryd.underlying41 hi iz0 iz1 iz2 rfl (by decide) (.slice (some ⟨g, 0, none⟩) l.length cap) l.length (Bys l) hs hown ad new.length c (Bys new) hx (by simp [Bys]) hnews (Bys_one _) (by unfold maxLen; omega) (by omega) ?_
  intro v' w' h2 h3 h4
  obtain ⟨g', cap', rfl, h5, h6, h7⟩ := buf_form hpos h2 h3 h4
  exact h g' cap' w' h5 h6 h7

theorem step_appS {w : World} {ops : Array Oper} {o : Oper} {a : Act} {K : Act → World → Prop} {Q : Exit → Act → World → Prop} {E : Prop} (hgd : o.guard = none) (s x : Operand)
    (ho : o.op = .call { callee := .builtin .append, args := #[s, x], argTypes := #[41, 9] }) (g cap : Nat) (l : List Int) (n : Nat) (hn : n = l.length) (hs : a.eval s = .slice (some ⟨g, 0, none⟩) n cap) (hown : BufAt w g cap l)
    (t : ByteArray) (hx : a.eval x = .string t) (hpos : 0 < l.length) (hlen : l.length + t.size ≤ 4398046511104)
    (h : ∀ g' cap' w', BufAt w' g' cap' (l ++ nameZ t) → Chg (· = g) w w' → (g' = g ∨ w.heap.size ≤ g') → K (a.put o.dst (.slice (some ⟨g', 0, none⟩) (l ++ nameZ t).length cap')) w') : if Region.wanted o (yielded ops a.tmps) = true then o.wp Tryd.prog a w K Q else E := by
  have hw : Region.wanted o (yielded ops a.tmps) = true := by simp [Region.wanted, hgd]
  rw [if_pos hw]
  exact wp_appS s x ho g cap l n hn hs hown t hx hpos hlen h
theorem step_appB {w : World} {ops : Array Oper} {o : Oper} {a : Act} {K : Act → World → Prop} {Q : Exit → Act → World → Prop} {E : Prop} (hgd : o.guard = none) (s x : Operand)
    (ho : o.op = .call { callee := .builtin .append, args := #[s, x], argTypes := #[41, 41] }) (g cap : Nat) (l : List Int) (n : Nat) (hn : n = l.length) (hs : a.eval s = .slice (some ⟨g, 0, none⟩) n cap) (hown : BufAt w g cap l)
    (ad : Addr) (m c : Nat) (new : List Int) (hm : m = new.length) (hx : a.eval x = .slice (some ad) m c) (hnews : ∀ j u, (Bys new)[j]? = some u → w.cell? (ad.add j) = some u) (hpos : 0 < (l ++ new).length) (hlen : l.length + new.length ≤ 4398046511104)
    (h : ∀ g' cap' w', BufAt w' g' cap' (l ++ new) → Chg (· = g) w w' → (g' = g ∨ w.heap.size ≤ g') → K (a.put o.dst (.slice (some ⟨g', 0, none⟩) (l ++ new).length cap')) w') : if Region.wanted o (yielded ops a.tmps) = true then o.wp Tryd.prog a w K Q else E := by
  have hw : Region.wanted o (yielded ops a.tmps) = true := by simp [Region.wanted, hgd]
  rw [if_pos hw]
  exact wp_appB s x ho g cap l n hn hs hown ad m c new hm hx hnews hpos hlen h
end Go.Proofs.YtgpdggjpbmgegaaDoor
