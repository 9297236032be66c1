/- The reference machine (R20): a step of the machine is the plain function's. The reference machine (R20): do is the plain step. -/
import Derived.Test.YtgpdggjpbmgegaaDoorMrM
import Derived.Test.YtgpdggjpbmgegaaDoorMrJ
namespace Go.Proofs.YtgpdggjpbmgegaaDoor
open Go.RowKit
set_option linter.unusedVariables false
set_option linter.unusedSimpArgs false

section
variable {N xb yb cap : Nat} {x : MC} {zr : List (PFr × K2)} {t : PFr} {k2 : K2} {w w' : World}
theorem MStep.top (hc : Chg (fun j => N ≤ j) w w') (hr : RefAt N w' xb yb cap x zr (t, k2)) (s : PSt) (h1 : s.rest = zr.map Prod.fst) (h3 : x.use = s.use) (h4 : x.mf = s.mf) (h5 : x.mw = s.mw) : MStep N xb x (.next { s with top := t }) w w' := by
  refine ⟨hc, x.fr, yb, cap, zr, (t, k2), ?_, h1, rfl, rfl, rfl, rfl⟩
  have e : ({ x with fr := x.fr, use := s.use, mf := s.mf, mw := s.mw } : MC) = x := by rw [← h3, ← h4, ← h5]
  show RefAt N w' xb yb cap { x with fr := x.fr, use := s.use, mf := s.mf, mw := s.mw } zr (t, k2)
  rw [e]; exact hr
end

theorem chg_xb {N xb : Nat} {w w1 w' : World} (h : Chg (fun j => N ≤ j) w w1) (hx : N ≤ xb) (c : Chg (· = xb) w1 w') : Chg (fun j => N ≤ j) w w' := h.trans (c.mono (fun k _ e => by rw [e]; exact hx))

/-- the innermost frame of a state, and its cells -/
structure TopFacts (m : PMod) (f : PFr) : Prop where
  rm : f.regs.length ≤ 64
  wm : f.words.length ≤ 4096
  r64 : ∀ i, In64 (f.regs.getD i 0)
theorem topFacts {m : PMod} (hm : Fine m) {f : PFr} (h : FrOk m f) : TopFacts m f := by
  have g := hm.fn _ h.fn
  have := g.r2; have := g.w1; have := h.rl; have := h.wl
  exact ⟨by omega, by omega, fun i => getD64 h.r64 i⟩

section
variable {N xb yb cap : Nat} {m : PMod} {x : MC} {zr : List (PFr × K2)} {z : PFr × K2} {w : World}

theorem mem_step (hr : RefAt N w xb yb cap x zr z) (hN : N ≤ w.heap.size) (h1 : z.1.regs.length ≤ 64) (h2 : z.1.words.length ≤ 4096) (op n va vb : Int) (a b : Nat) (c : Int) (ha : z.1.regs[a]? = some va) (hb : z.1.regs[b]? = some vb) (hvb : In64 vb) (hn : In64 n) (hop : op = 11 ∨ op = 12 ∨ op = 13) (s : PSt) (g1 : s.rest = zr.map Prod.fst) (g2 : s.top = z.1) (g3 : x.use = s.use) (g4 : x.mf = s.mf) (g5 : x.mw = s.mw) (ci : Int) (lim : Int) :
    Calls Tryd.prog 77 #[.pointer (some ⟨xb, 0, none⟩), .pointer (some ⟨yb, zr.length * 5, none⟩), .agg #[.int .i64 op, .int .i64 a, .int .i64 b, .int .i64 c, .int .i64 n]] w (fun e w' => e = .returned (.tuple #[]) ∧ MStep N xb x (doP m lim s ⟨op, a, b, ci, n⟩) w w') := by
  have e := hr.each z (by simp)
  have ne := hr.ne
  have x3 := (frCells_top zr z 3 (by omega)).trans (show _ = some (.slice (some ⟨z.2.rb, 0, none⟩) z.1.regs.length z.1.regs.length) from rfl)
  have x4 := (frCells_top zr z 4 (by omega)).trans (show _ = some (.slice (some ⟨z.2.wb, 0, none⟩) z.1.words.length z.1.words.length) from rfl)
  have ra : s.top.rg a = va := by unfold PFr.rg; rw [g2, Int.toNat_natCast, List.getD_eq_getElem?_getD, ha]; rfl
  have rb : s.top.rg b = vb := by unfold PFr.rg; rw [g2, Int.toNat_natCast, List.getD_eq_getElem?_getD, hb]; rfl
  have hs : { s with top := z.1 } = s := by rw [← g2]
  rcases hop with rfl | rfl | rfl
  · by_cases hc : 0 ≤ vb + n ∧ vb + n < z.1.words.length
    · have hd : doP m lim s ⟨11, a, b, ci, n⟩ = .next { s with top := z.1.put a (z.1.words.getD (vb + n).toNat 0) } := by
        have : 0 ≤ s.top.rg b + n ∧ s.top.rg b + n < s.top.words.length := by rw [rb, g2]; exact hc
        unfold doP
        simp only [show ¬ (11 : Int) = 0 by omega, show ¬ (11 : Int) = 1 by omega, show ¬ (11 : Int) = 2 by omega, show ¬ ((11 : Int) = 3 ∨ (11 : Int) = 4 ∨ (11 : Int) = 5 ∨ (11 : Int) = 8 ∨ (11 : Int) = 9) by omega, show ¬ ((11 : Int) = 6 ∨ (11 : Int) = 7) by omega, show ¬ (11 : Int) = 10 by omega, if_false, if_true]
        rw [if_pos this, rb, g2]
      rw [hd]
      refine (mload_ok xb yb (zr.length * 5) z.2.rb z.2.wb (zr.length + 1) cap x _ a b c n va vb z.1.regs z.1.words w hr.own hr.row x3 x4 e.r e.wo ⟨ne.2.2.2.2.2, ne.2.1, ne.2.2.1, ne.1⟩ ha hb h1 h2 hvb hn hc).mono ?_
      rintro en w' ⟨rfl, hc1, ho1⟩
      have hr' : RefAt N w' xb yb cap x zr (z.1.put a (z.1.words.getD (vb + n).toNat 0), z.2) := hr.updR (hc1.mono (fun k _ e => .inl e)) (z.1.put a (z.1.words.getD (vb + n).toNat 0)) rfl rfl rfl (by simp [PFr.put]) rfl (by simpa [PFr.put] using ho1) (hc1.own e.wo (fun q => ne.2.2.2.2.2 q.symm))
      exact ⟨rfl, MStep.top (hc1.mono (fun k _ q => by rw [q]; exact e.rb)) hr' s g1 g3 g4 g5⟩
    · have hd : doP m lim s ⟨11, a, b, ci, n⟩ = .trap 51 := by
        have : ¬ (0 ≤ s.top.rg b + n ∧ s.top.rg b + n < s.top.words.length) := by rw [rb, g2]; exact hc
        unfold doP
        simp only [show ¬ (11 : Int) = 0 by omega, show ¬ (11 : Int) = 1 by omega, show ¬ (11 : Int) = 2 by omega, show ¬ ((11 : Int) = 3 ∨ (11 : Int) = 4 ∨ (11 : Int) = 5 ∨ (11 : Int) = 8 ∨ (11 : Int) = 9) by omega, show ¬ ((11 : Int) = 6 ∨ (11 : Int) = 7) by omega, show ¬ (11 : Int) = 10 by omega, if_false, if_true]
        rw [if_neg this]
      rw [hd]
      refine (mload_trap xb yb (zr.length * 5) z.2.rb z.2.wb (zr.length + 1) cap x _ a b c n va vb z.1.regs z.1.words w hr.own hr.row x3 x4 e.r e.wo ⟨ne.2.2.2.2.2, ne.2.1, ne.2.2.1, ne.1⟩ ha hb h1 h2 hvb hn hc).mono ?_
      rintro en w' ⟨rfl, hc1, ho1⟩
      exact ⟨rfl, chg_xb (Chg.refl _ _) hr.nx hc1, ho1⟩
  · by_cases hc : 0 ≤ vb + n ∧ vb + n < z.1.words.length
    · have hd : doP m lim s ⟨12, a, b, ci, n⟩ = .next { s with top := { z.1 with words := z.1.words.set (vb + n).toNat va } } := by
        have : 0 ≤ s.top.rg b + n ∧ s.top.rg b + n < s.top.words.length := by rw [rb, g2]; exact hc
        unfold doP
        simp only [show ¬ (12 : Int) = 0 by omega, show ¬ (12 : Int) = 1 by omega, show ¬ (12 : Int) = 2 by omega, show ¬ ((12 : Int) = 3 ∨ (12 : Int) = 4 ∨ (12 : Int) = 5 ∨ (12 : Int) = 8 ∨ (12 : Int) = 9) by omega, show ¬ ((12 : Int) = 6 ∨ (12 : Int) = 7) by omega, show ¬ (12 : Int) = 10 by omega, show ¬ (12 : Int) = 11 by omega, if_false, if_true]
        rw [if_pos this, rb, ra, g2]
      rw [hd]
      refine (mstore_ok xb yb (zr.length * 5) z.2.rb z.2.wb (zr.length + 1) cap x _ a b c n va vb z.1.regs z.1.words w hr.own hr.row x3 x4 e.r e.wo ⟨ne.2.2.2.2.2, ne.2.1, ne.2.2.1, ne.1⟩ ha hb h1 h2 hvb hn hc).mono ?_
      rintro en w' ⟨rfl, hc1, ho1⟩
      have hr' : RefAt N w' xb yb cap x zr ({ z.1 with words := z.1.words.set (vb + n).toNat va }, z.2) := hr.updR (hc1.mono (fun k _ e => .inr e)) { z.1 with words := z.1.words.set (vb + n).toNat va } rfl rfl rfl rfl (by simp) (hc1.own e.r (fun q => ne.2.2.2.2.2 q)) ho1
      exact ⟨rfl, MStep.top (hc1.mono (fun k _ q => by rw [q]; exact e.wb)) hr' s g1 g3 g4 g5⟩
    · have hd : doP m lim s ⟨12, a, b, ci, n⟩ = .trap 51 := by
        have : ¬ (0 ≤ s.top.rg b + n ∧ s.top.rg b + n < s.top.words.length) := by rw [rb, g2]; exact hc
        unfold doP
        simp only [show ¬ (12 : Int) = 0 by omega, show ¬ (12 : Int) = 1 by omega, show ¬ (12 : Int) = 2 by omega, show ¬ ((12 : Int) = 3 ∨ (12 : Int) = 4 ∨ (12 : Int) = 5 ∨ (12 : Int) = 8 ∨ (12 : Int) = 9) by omega, show ¬ ((12 : Int) = 6 ∨ (12 : Int) = 7) by omega, show ¬ (12 : Int) = 10 by omega, show ¬ (12 : Int) = 11 by omega, if_false, if_true]
        rw [if_neg this]
      rw [hd]
      refine (mstore_trap xb yb (zr.length * 5) z.2.rb z.2.wb (zr.length + 1) cap x _ a b c n va vb z.1.regs z.1.words w hr.own hr.row x3 x4 e.r e.wo ⟨ne.2.2.2.2.2, ne.2.1, ne.2.2.1, ne.1⟩ ha hb h1 h2 hvb hn hc).mono ?_
      rintro en w' ⟨rfl, hc1, ho1⟩
      exact ⟨rfl, chg_xb (Chg.refl _ _) hr.nx hc1, ho1⟩
  · by_cases hc : 0 ≤ va ∧ va < n
    · have hd : doP m lim s ⟨13, a, b, ci, n⟩ = .next { s with top := z.1 } := by
        have : 0 ≤ s.top.rg a ∧ s.top.rg a < n := by rw [ra]; exact hc
        unfold doP
        simp only [show ¬ (13 : Int) = 0 by omega, show ¬ (13 : Int) = 1 by omega, show ¬ (13 : Int) = 2 by omega, show ¬ ((13 : Int) = 3 ∨ (13 : Int) = 4 ∨ (13 : Int) = 5 ∨ (13 : Int) = 8 ∨ (13 : Int) = 9) by omega, show ¬ ((13 : Int) = 6 ∨ (13 : Int) = 7) by omega, show ¬ (13 : Int) = 10 by omega, show ¬ (13 : Int) = 11 by omega, show ¬ (13 : Int) = 12 by omega, if_false, if_true]
        rw [if_pos this, g2]
      rw [hd]
      refine (mcheck_ok xb yb (zr.length * 5) z.2.rb z.2.wb (zr.length + 1) cap x _ a b c n va vb z.1.regs z.1.words w hr.own hr.row x3 x4 e.r e.wo ⟨ne.2.2.2.2.2, ne.2.1, ne.2.2.1, ne.1⟩ ha hb h1 h2 hvb hn hc).mono ?_
      rintro en w' ⟨rfl, hc1⟩
      exact ⟨rfl, MStep.top (hc1.mono (fun k _ q => q.elim)) (hr.keep (hc1.below _ (Nat.le_refl _) (fun _ _ h => h))) s g1 g3 g4 g5⟩
    · have hd : doP m lim s ⟨13, a, b, ci, n⟩ = .trap 51 := by
        have : ¬ (0 ≤ s.top.rg a ∧ s.top.rg a < n) := by rw [ra]; exact hc
        unfold doP
        simp only [show ¬ (13 : Int) = 0 by omega, show ¬ (13 : Int) = 1 by omega, show ¬ (13 : Int) = 2 by omega, show ¬ ((13 : Int) = 3 ∨ (13 : Int) = 4 ∨ (13 : Int) = 5 ∨ (13 : Int) = 8 ∨ (13 : Int) = 9) by omega, show ¬ ((13 : Int) = 6 ∨ (13 : Int) = 7) by omega, show ¬ (13 : Int) = 10 by omega, show ¬ (13 : Int) = 11 by omega, show ¬ (13 : Int) = 12 by omega, if_false, if_true]
        rw [if_neg this]
      rw [hd]
      refine (mcheck_trap xb yb (zr.length * 5) z.2.rb z.2.wb (zr.length + 1) cap x _ a b c n va vb z.1.regs z.1.words w hr.own hr.row x3 x4 e.r e.wo ⟨ne.2.2.2.2.2, ne.2.1, ne.2.2.1, ne.1⟩ ha hb h1 h2 hvb hn (by omega)).mono ?_
      rintro en w' ⟨rfl, hc1, ho1⟩
      exact ⟨rfl, chg_xb (Chg.refl _ _) hr.nx hc1, ho1⟩

theorem leads_step (hr : RefAt N w xb yb cap x zr z) (hN : N ≤ w.heap.size) (h1 : z.1.regs.length ≤ 64) (op n va vb : Int) (a b : Nat) (c : Int) (ha : z.1.regs[a]? = some va) (hb : z.1.regs[b]? = some vb) (hop : op = 14 ∨ op = 15 ∨ op = 16 ∨ op = 17 ∨ op = 18) (s : PSt) (g1 : s.rest = zr.map Prod.fst) (g2 : s.top = z.1) (g3 : x.use = s.use) (g4 : x.mf = s.mf) (g5 : x.mw = s.mw) (ci : Int) (lim : Int) :
    Calls Tryd.prog 79 #[.pointer (some ⟨yb, zr.length * 5, none⟩), .agg #[.int .i64 op, .int .i64 a, .int .i64 b, .int .i64 c, .int .i64 n]] w (fun e w' => e = .returned (.tuple #[]) ∧ MStep N xb x (doP m lim s ⟨op, a, b, ci, n⟩) w w') := by
  have e := hr.each z (by simp)
  have ne := hr.ne
  have x1 := (frCells_top zr z 1 (by omega)).trans (show _ = some (.int .i64 z.1.at_) from rfl)
  have x3 := (frCells_top zr z 3 (by omega)).trans (show _ = some (.slice (some ⟨z.2.rb, 0, none⟩) z.1.regs.length z.1.regs.length) from rfl)
  have ra : s.top.rg a = va := by unfold PFr.rg; rw [g2, Int.toNat_natCast, List.getD_eq_getElem?_getD, ha]; rfl
  have rb : s.top.rg b = vb := by unfold PFr.rg; rw [g2, Int.toNat_natCast, List.getD_eq_getElem?_getD, hb]; rfl
  refine (mleads_any yb (zr.length * 5) z.2.rb (zr.length + 1) cap _ op a b c n z.1.at_ va vb z.1.regs w hop hr.row x1 x3 e.r ne.2.2.2.1 ha hb h1).mono ?_
  rintro en w' ⟨rfl, hc1, hrow, ho⟩
  have hlen : (leadsV op a n z.1.at_ z.1.regs va vb).2.length = z.1.regs.length := by
    unfold leadsV
    split
    · simp
    · split <;> simp
  obtain ⟨t, ht⟩ : ∃ t : PFr, t = { z.1 with at_ := (leadsV op a n z.1.at_ z.1.regs va vb).1, regs := (leadsV op a n z.1.at_ z.1.regs va vb).2 } := ⟨_, rfl⟩
  have hr' : RefAt N w' xb yb cap x zr (t, z.2) := by
    rw [ht]
    refine hr.upd (hc1.mono (fun k _ q => q.imp id .inl)) _ ?_ ho (hc1.own e.wo (by have := ne; omega))
    rw [← frCells_set zr z (_, z.2) 1 (.int .i64 (leadsV op a n z.1.at_ z.1.regs va vb).1) (by omega) (by simp [frCells, hlen])]
    exact hrow
  have hd : doP m lim s ⟨op, a, b, ci, n⟩ = .next { s with top := t } := by
    rw [ht]
    unfold doP leadsV
    simp only [ra, rb]
    rw [g2] at *
    rcases hop with rfl | rfl | rfl | rfl | rfl
    · simp [PFr.goto]
    · by_cases h : va = 0 <;> simp [PFr.goto, h]
    · by_cases h : va = 0 <;> simp [PFr.goto, h]
    · by_cases h : vb ≤ va <;> simp [PFr.goto, h]
    · simp [PFr.goto, PFr.put]
  rw [hd]
  exact ⟨rfl, MStep.top (hc1.mono (fun k _ q => by rcases q with q | q <;> rw [q]; exact hr.ny; exact e.rb)) hr' s g1 g3 g4 g5⟩

theorem ret_step (hr : RefAt N w xb yb cap x zr z) (hN : N ≤ w.heap.size) (op n va : Int) (a b : Nat) (hop : op = 0) (ha : z.1.regs[a]? = some va) (h1 : z.1.regs.length ≤ 64) (h2 : z.1.words.length ≤ 4096) (hd : zr.length ≤ 1000000) (hu : 0 ≤ x.use ∧ x.use ≤ 1099511627776)
    (hsz : sizeOfFn m z.1.fn = (z.1.regs.length : Int) + z.1.words.length) (hin : ∀ zr' c, zr = zr' ++ [c] → c.1.regs.length ≤ 64 ∧ 0 ≤ z.1.into ∧ z.1.into < c.1.regs.length) (s : PSt) (g1 : s.rest = zr.map Prod.fst) (g2 : s.top = z.1) (g3 : x.use = s.use) (g4 : x.mf = s.mf) (g5 : x.mw = s.mw) (bi ci : Int) (lim : Int) :
    Calls Tryd.prog 74 #[.pointer (some ⟨xb, 0, none⟩), .int .i64 va] w (fun e w' => e = .returned (.tuple #[]) ∧ MStep N xb x (doP m lim s ⟨op, a, bi, ci, n⟩) w w') := by
  have e := hr.each z (by simp)
  have ne := hr.ne
  have ra : s.top.rg a = va := by unfold PFr.rg; rw [g2, Int.toNat_natCast, List.getD_eq_getElem?_getD, ha]; rfl
  rw [g2] at ra
  have x0 := (frCells_top zr z 0 (by omega)).trans (show _ = some (.int .i64 z.1.fn) from rfl)
  have x1 := (frCells_top zr z 1 (by omega)).trans (show _ = some (.int .i64 z.1.at_) from rfl)
  have x2 := (frCells_top zr z 2 (by omega)).trans (show _ = some (.int .i64 z.1.into) from rfl)
  have x3 := (frCells_top zr z 3 (by omega)).trans (show _ = some (.slice (some ⟨z.2.rb, 0, none⟩) z.1.regs.length z.1.regs.length) from rfl)
  have x4 := (frCells_top zr z 4 (by omega)).trans (show _ = some (.slice (some ⟨z.2.wb, 0, none⟩) z.1.words.length z.1.words.length) from rfl)
  subst hop
  rcases List.eq_nil_or_concat zr with rfl | ⟨zr', c, hzr⟩
  · have hdo : doP m lim s ⟨0, a, bi, ci, n⟩ = .done va (s.use - sizeOfFn m z.1.fn) s.mf s.mw := by
      unfold doP
      simp only [g1, List.map_nil, List.getLast?_nil, ra, g2, if_true]
    rw [hdo]
    refine (mreturns_last xb yb z.2.rb z.2.wb cap x _ z.1.fn z.1.at_ z.1.into va z.1.regs z.1.words w hr.own hr.fr hr.row x0 x1 x2 x3 x4 ne.1 h1 h2 hu).mono ?_
    rintro en w' ⟨rfl, hc1, ho1⟩
    rw [← g4, ← g5]
    exact ⟨rfl, chg_xb (Chg.refl _ _) hr.nx hc1, x.use - ((z.1.regs.length : Int) + z.1.words.length), .slice (some ⟨yb, 0, none⟩) 0 cap, ho1⟩
  · rw [List.concat_eq_append] at hzr
    subst hzr
    obtain ⟨hi1, hi2, hi3⟩ := hin zr' c rfl
    obtain ⟨into, hinto⟩ := Int.eq_ofNat_of_zero_le hi2
    have hlen : (zr' ++ [c]).length = zr'.length + 1 := by simp
    rw [hlen] at x0 x1 x2 x3 x4 hd
    have ec := hr.each c (by simp)
    have oc := hr.old c (by simp)
    have y3 : ((zr' ++ [c] ++ [z]).flatMap frCells)[zr'.length * 5 + 3]? = some (.slice (some ⟨c.2.rb, 0, none⟩) c.1.regs.length c.1.regs.length) := by
      rw [List.flatMap_append, List.getElem?_append_left (by rw [frCells_len]; simp; omega), frCells_top zr' c 3 (by omega)]; rfl
    have hfr := hr.fr
    have hrow := hr.row
    rw [hlen] at hfr hrow
    have hdo : doP m lim s ⟨0, a, bi, ci, n⟩ = .next { rest := zr'.map Prod.fst, top := c.1.put z.1.into va, use := s.use - sizeOfFn m z.1.fn, mf := s.mf, mw := s.mw } := by
      unfold doP
      simp only [g1, List.map_append, List.map_cons, List.map_nil, List.getLast?_concat, List.dropLast_concat, ra, g2, if_true]
    rw [hdo]
    refine (mreturns_more xb yb z.2.rb z.2.wb c.2.rb cap zr'.length x _ z.1.fn z.1.at_ va into z.1.regs z.1.words c.1.regs w hr.own hfr hrow x0 x1 (by rw [← hinto]; exact x2) x3 x4 y3 ec.r (by omega) ⟨ne.1, oc.1⟩ h1 h2 hi1 (by omega) hu).mono ?_
    rintro en w' ⟨rfl, hc1, ho1, ho2⟩
    have hr' := hr.pop hc1 ho1 rfl (c.1.put z.1.into va) rfl rfl rfl (by simp [PFr.put]) rfl (by rw [hinto]; simpa [PFr.put] using ho2)
    refine ⟨rfl, hc1.mono (fun k _ q => by rcases q with q | q <;> rw [q]; exact hr.nx; exact ec.rb), .slice (some ⟨yb, 0, none⟩) (zr'.length + 1) cap, yb, cap, zr', (c.1.put z.1.into va, c.2), ?_, rfl, rfl, rfl, rfl, rfl⟩
    dsimp only
    rw [hsz, ← g3, ← g4, ← g5]
    exact hr'

theorem call_step {B fsb fso k : Nat} {hh : HF} {f : PFunc} (hr : RefAt N w xb yb cap x zr z) (hN : N ≤ w.heap.size) (hB : B ≤ N) (hg : FuncCells w fsb (fso + k * 5) hh f) (hp : SpansAt B w hh.pa hh.pl f.params) (hfB : fsb < B) (hfa : x.fa = some ⟨fsb, fso, none⟩) (hk : k < x.fl) (hkm : x.fl ≤ maxLen)
    (hf : f = fnAt m k) (fr1 : 0 ≤ f.regs) (fr2 : f.regs ≤ 64) (fw1 : 0 ≤ f.words) (fw2 : f.words ≤ 4096) (hnp : (f.params.length : Int) ≤ f.regs) (op : Int) (a b : Nat) (hop : op = 19) (hbp : b + f.params.length ≤ z.1.regs.length) (h1 : z.1.regs.length ≤ 64) (h64 : ∀ i, In64 (z.1.regs.getD i 0)) (hd : zr.length ≤ 1000000) (hu : 0 ≤ x.use ∧ x.use ≤ 1099511627776)
    (s : PSt) (g1 : s.rest = zr.map Prod.fst) (g2 : s.top = z.1) (g3 : x.use = s.use) (g4 : x.mf = s.mf) (g5 : x.mw = s.mw) (c ci : Int) :
    Calls Tryd.prog 78 #[.pointer (some ⟨xb, 0, none⟩), .slice (some ⟨z.2.rb, 0, none⟩) z.1.regs.length z.1.regs.length, .agg #[.int .i64 19, .int .i64 a, .int .i64 b, .int .i64 c, .int .i64 k]] w (fun e w' => e = .returned (.tuple #[]) ∧ MStep N xb x (doP m x.most s ⟨op, a, b, ci, k⟩) w w') := by
  have e := hr.each z (by simp)
  have ne := hr.ne
  have nx := hr.nx
  have ny := hr.ny
  obtain ⟨R, hR⟩ := Int.eq_ofNat_of_zero_le fr1
  obtain ⟨W, hW⟩ := Int.eq_ofNat_of_zero_le fw1
  have hown : x.fr.ownBlock = some yb := by rw [hr.fr]; rfl
  refine (mcalls_any B fsb fso k hh f xb x w (by omega) hg hp (by omega) hfa hk z.2.rb z.1.regs e.r (fun i _ => h64 i) h1 a c b f.params.length rfl hbp R W hR hW (by omega) (by omega) (by omega) hr.own hkm (zr.length + 1) cap yb ((zr ++ [z]).flatMap frCells) hr.fr (by rw [hr.fr]; exact hr.row) (by rw [hown]; intro q; injection q with q; omega) (by omega) (by omega) (fun j hj => by rw [hown] at hj; injection hj with q; omega) hu).mono ?_
  rintro en w' ⟨p1, p2, p3⟩
  subst hop
  have ea : argsOf m s.top ⟨19, a, b, ci, k⟩ = (z.1.regs.drop b).take f.params.length := by
    unfold argsOf; rw [g2, hf]; simp only [Int.toNat_natCast]
  have hdep : s.depth = ((zr.length + 1 : Nat) : Int) := by unfold PSt.depth; rw [g1]; simp
  have hfn : (fnAt m ((k : Int)).toNat) = f := by rw [hf, Int.toNat_natCast]
  generalize hxs : (z.1.regs.drop b).take f.params.length = xs at *
  have hxl : xs.length = f.params.length := by rw [← hxs]; simp; omega
  have base : doP m x.most s ⟨19, a, b, ci, k⟩ = if fitsB f.params xs = false then .trap 52 else if 0 < x.most ∧ x.most ≤ ((zr.length + 1 : Nat) : Int) then .trap 91 else .next (enterP m (s.rest ++ [s.top]) s.use s.mf s.mw k a xs) := by
    unfold doP
    simp only [hfn, ea, hdep, show ¬ (19 : Int) = 0 by omega, show ¬ (19 : Int) = 1 by omega, show ¬ (19 : Int) = 2 by omega, show ¬ ((19 : Int) = 3 ∨ (19 : Int) = 4 ∨ (19 : Int) = 5 ∨ (19 : Int) = 8 ∨ (19 : Int) = 9) by omega, show ¬ ((19 : Int) = 6 ∨ (19 : Int) = 7) by omega, show ¬ (19 : Int) = 10 by omega, show ¬ (19 : Int) = 11 by omega, show ¬ (19 : Int) = 12 by omega, show ¬ (19 : Int) = 13 by omega, show ¬ (19 : Int) = 14 by omega, show ¬ (19 : Int) = 15 by omega, show ¬ (19 : Int) = 16 by omega, show ¬ (19 : Int) = 17 by omega, show ¬ (19 : Int) = 18 by omega, if_false, Int.toNat_natCast]
    rw [← hf]
  rw [base]
  cases hF : fitsB f.params xs with
  | false =>
    obtain ⟨rfl, hc1, ho1⟩ := p1 hF
    rw [if_pos rfl]
    exact ⟨rfl, chg_xb (Chg.refl _ _) hr.nx hc1, ho1⟩
  | true =>
    rw [if_neg (by simp)]
    by_cases hl : 0 < x.most ∧ x.most ≤ ((zr.length + 1 : Nat) : Int)
    · obtain ⟨rfl, hc1, ho1⟩ := p2 hF hl
      rw [if_pos hl]
      exact ⟨rfl, chg_xb (Chg.refl _ _) hr.nx hc1, ho1⟩
    · obtain ⟨rb', wb', sb, cap', rfl, hc1, ho1, hrow, hsb, q1, q2, q3, q4, q5, hor, how⟩ := p3 hF hl
      rw [if_neg hl]
      rw [hown] at hsb hc1
      have e1 : (frameOf m k a xs).regs = xs ++ (List.replicate R 0).drop xs.length := by
        unfold frameOf zeros; rw [← hf, hR]; rfl
      have e2 : (frameOf m k a xs).words = List.replicate W 0 := by
        unfold frameOf zeros; rw [← hf, hW]; rfl
      have e3 : sizeOfFn m k = (R : Int) + W := by unfold sizeOfFn; rw [← hf, hR, hW]
      have e4 : (frameOf m k a xs).regs.length = R := by rw [e1]; simp; omega
      have e5 : (frameOf m k a xs).words.length = W := by rw [e2]; simp
      have hpush := hr.push hN sb cap' (frameOf m k a xs, ⟨rb', wb'⟩) (hc1.mono (fun j _ q => by rcases q with q | q; exact .inl q; injection q with q; exact .inr q.symm)) ho1 rfl
        (by have e6 : frCells (frameOf m k a xs, ⟨rb', wb'⟩) = [.int .i64 k, .int .i64 0, .int .i64 a, .slice (some ⟨rb', 0, none⟩) R R, .slice (some ⟨wb', 0, none⟩) W W] := by unfold frCells; rw [e4, e5]; rfl
            rw [e6]; exact hrow)
        (by rcases hsb with q | q
            · injection q with q; exact .inl q.symm
            · exact .inr q) q1 q2 q3 q4 q5 (by rw [e1]; exact hor) (by rw [e2]; exact how)
      refine ⟨rfl, hc1.mono (fun j _ q => by rcases q with q | q; · rw [q]; exact nx
                                             · injection q with q; rw [← q]; exact ny), .slice (some ⟨sb, 0, none⟩) (zr.length + 1 + 1) cap', sb, cap', zr ++ [z], (frameOf m k a xs, ⟨rb', wb'⟩), ?_, ?_, rfl, rfl, rfl, rfl⟩
      · have e7 : ((zr.map Prod.fst ++ [z.1]).length : Int) + 1 = ((zr.length + 1 : Nat) : Int) + 1 := by simp
        simp only [enterP, e3, g1, g2, e7, ← g3, ← g4, ← g5]
        exact hpush
      · simp only [enterP, g1, g2, List.map_append, List.map_cons, List.map_nil]
end

theorem mdo_any {N B : Nat} {m : PMod} (hm : Fine m) (h64 : ∀ k i, k < m.funcs.length → i < (fnAt m k).code.length → InsOk ((fnAt m k).code.getD i default)) (xb : Nat) (x : MC) (s : PSt) (w : World) (hBN : B ≤ N) (hN : N ≤ w.heap.size) (hf : FuncsAt B w x.fa x.fl m.funcs) (h : RefIs N w xb x s) (hs : StOk m s) (hd : s.rest.length ≤ 1000000) :
    Calls Tryd.prog 55 #[.pointer (some ⟨xb, 0, none⟩), InsVal (insAt m s.top)] w (fun e w' => e = .returned (.tuple #[]) ∧ MStep N xb x (doP m x.most s.pass (insAt m s.top)) w w') := by
  obtain ⟨yb, cap, zr, z, hr, g1, g2, g3, g4, g5⟩ := h
  have hft := hs.top
  have hbd := hs.bd hm
  have hrest := hs.rest
  have hlink := hs.links
  rw [g2] at hft hlink ⊢
  have hif := insAt_fine hm hft
  have hok : InsOk (insAt m z.1) := h64 _ _ hft.fn (by have := hft.at0; have := hft.at1; omega)
  have tf := topFacts hm hft
  have ff := hm.fn _ hft.fn
  have hzl : zr.length ≤ 1000000 := by rw [g1] at hd; simpa using hd
  rw [g1] at hbd
  have hu : 0 ≤ x.use ∧ x.use ≤ 1099511627776 := by rw [g3]; simp at hbd; omega
  have hat : 0 ≤ z.1.at_ ∧ z.1.at_ ≤ 1024 := by have := hft.at0; have := hft.at1; have := ff.c2; omega
  have hrl := hft.rl
  have hwl := hft.wl
  have hsz : sizeOfFn m z.1.fn = (z.1.regs.length : Int) + z.1.words.length := by unfold sizeOfFn; rw [hrl, hwl]
  generalize insAt m z.1 = y at *
  obtain ⟨op, ya, ybb, yc, n⟩ := y
  have a0 := hif.a0; have a1 := hif.a1; have b0 := hif.b0; have b1 := hif.b1; have c0 := hif.c0; have c1 := hif.c1; have op0 := hif.op0; have op1 := hif.op1
  have hcall := hif.call
  obtain ⟨_, _, _, _, hn64⟩ := hok
  dsimp only at a0 a1 b0 b1 c0 c1 op0 op1 hn64 hcall
  obtain ⟨a, rfl⟩ := Int.eq_ofNat_of_zero_le a0
  obtain ⟨b, rfl⟩ := Int.eq_ofNat_of_zero_le b0
  obtain ⟨c, rfl⟩ := Int.eq_ofNat_of_zero_le c0
  have ha := getD_some (l := z.1.regs) (i := a) (by omega)
  have hb := getD_some (l := z.1.regs) (i := b) (by omega)
  have hc := getD_some (l := z.1.regs) (i := c) (by omega)
  have va64 := tf.r64 a
  have vb64 := tf.r64 b
  have vc64 := tf.r64 c
  have p1 : s.pass.rest = zr.map Prod.fst := g1
  have p2 : s.pass.top = z.1.goto (z.1.at_ + 1) := by unfold PSt.pass; rw [g2]
  have p3 : x.use = s.pass.use := g3
  have p4 : x.mf = s.pass.mf := g4
  have p5 : x.mw = s.pass.mw := g5
  have rga : s.pass.top.rg a = z.1.regs.getD a 0 := by rw [p2]; simp [PFr.rg, PFr.goto]
  have rgb : s.pass.top.rg b = z.1.regs.getD b 0 := by rw [p2]; simp [PFr.rg, PFr.goto]
  have rgc : s.pass.top.rg c = z.1.regs.getD c 0 := by rw [p2]; simp [PFr.rg, PFr.goto]
  generalize z.1.regs.getD a 0 = va at *
  generalize z.1.regs.getD b 0 = vb at *
  generalize z.1.regs.getD c 0 = vc at *
  unfold InsVal
  dsimp only
  rcases (show op = 0 ∨ op = 1 ∨ op = 2 ∨ (3 ≤ op ∧ op ≤ 9) ∨ op = 10 ∨ (11 ≤ op ∧ op ≤ 13) ∨ (14 ≤ op ∧ op ≤ 18) ∨ op = 19 by omega) with ho | ho | ho | ho | ho | ho | ho | ho
  · refine mdo_ret N xb yb cap a b c op n ho x zr z w hr hN hzl hat tf.rm va vb vc ha hb hc _ (fun W1 hr1 hk1 => ?_)
    refine (ret_step hr1 (by have := hk1.size; omega) op n va a b ho ha tf.rm tf.wm hzl hu (m := m) hsz (fun zr' c' e => ?_) s.pass p1 p2 p3 p4 p5 b c x.most).mono (fun e w' h => ⟨h.1, hk1.trans h.2.1, h.2.2⟩)
    rw [g1, e] at hlink hrest
    have q := hrest c'.1 (by simp)
    simp only [List.map_append, List.map_cons, List.map_nil] at hlink
    have q2 := hlink.pair
    exact ⟨(topFacts hm q).rm, q2⟩
  · have hdo : doP m x.most s.pass ⟨op, a, b, c, n⟩ = .next { s.pass with top := (z.1.goto (z.1.at_ + 1)).put a n } := by
      subst ho; unfold doP; simp [p2]
    rw [hdo]
    exact (mdo_set N xb yb cap a b c op n ho x zr z w hr hN hzl hat tf.rm va vb vc ha hb hc).mono (fun e w' h => ⟨h.1, MStep.top h.2.1 h.2.2 s.pass p1 p3 p4 p5⟩)
  · have hdo : doP m x.most s.pass ⟨op, a, b, c, n⟩ = .next { s.pass with top := (z.1.goto (z.1.at_ + 1)).put a vb } := by
      subst ho; unfold doP; simp [rgb]; rw [p2]
    rw [hdo]
    exact (mdo_move N xb yb cap a b c op n ho x zr z w hr hN hzl hat tf.rm va vb vc ha hb hc).mono (fun e w' h => ⟨h.1, MStep.top h.2.1 h.2.2 s.pass p1 p3 p4 p5⟩)
  · by_cases hq : (op = 6 ∨ op = 7) ∧ vc = 0
    · have hdo : doP m x.most s.pass ⟨op, a, b, c, n⟩ = .trap 50 := by
        unfold doP
        rw [if_neg (by dsimp only; omega), if_neg (by dsimp only; omega), if_neg (by dsimp only; omega), if_neg (by dsimp only; omega), if_pos hq.1, if_pos (by rw [rgc]; exact hq.2)]
      rw [hdo]
      exact (mdo_numtrap N xb yb cap a b c op n ho x zr z w hr hN hzl hat tf.rm va vb vc ha hb hc vb64 vc64 hq).mono (fun e w' h => ⟨h.1, h.2.1, h.2.2⟩)
    · have hdo : doP m x.most s.pass ⟨op, a, b, c, n⟩ = .next { s.pass with top := (z.1.goto (z.1.at_ + 1)).put a (numV op vb vc) } := by
        unfold doP
        rw [if_neg (by dsimp only; omega), if_neg (by dsimp only; omega), if_neg (by dsimp only; omega)]
        simp only [rgb, rgc]
        by_cases h1 : op = 6 ∨ op = 7
        · rw [if_neg (by omega), if_pos h1, if_neg (fun e => hq ⟨h1, e⟩), p2]
        · rw [if_pos (by omega), p2]
      rw [hdo]
      exact (mdo_num N xb yb cap a b c op n ho x zr z w hr hN hzl hat tf.rm va vb vc ha hb hc vb64 vc64 hq).mono (fun e w' h => ⟨h.1, MStep.top h.2.1 h.2.2 s.pass p1 p3 p4 p5⟩)
  · have hdo : doP m x.most s.pass ⟨op, a, b, c, n⟩ = .next { s.pass with top := (z.1.goto (z.1.at_ + 1)).put a (truthZ (vb == 0)) } := by
      subst ho; unfold doP; simp [rgb]; rw [p2]
    rw [hdo]
    exact (mdo_not N xb yb cap a b c op n ho x zr z w hr hN hzl hat tf.rm va vb vc ha hb hc).mono (fun e w' h => ⟨h.1, MStep.top h.2.1 h.2.2 s.pass p1 p3 p4 p5⟩)
  · refine mdo_mem N xb yb cap a b c op n ho x zr z w hr hN hzl hat tf.rm va vb vc ha hb hc _ (fun W1 hr1 hk1 => ?_)
    exact (mem_step hr1 (by have := hk1.size; omega) tf.rm tf.wm op n va vb a b c ha hb vb64 hn64 (by omega) s.pass p1 p2 p3 p4 p5 c x.most).mono (fun e w' h => ⟨h.1, hk1.trans h.2.1, h.2.2⟩)
  · refine mdo_leads N xb yb cap a b c op n ho x zr z w hr hN hzl hat tf.rm va vb vc ha hb hc _ (fun W1 hr1 hk1 => ?_)
    exact (leads_step hr1 (by have := hk1.size; omega) tf.rm op n va vb a b c ha hb (by omega) s.pass p1 p2 p3 p4 p5 c x.most).mono (fun e w' h => ⟨h.1, hk1.trans h.2.1, h.2.2⟩)
  · obtain ⟨n0, n1, n2⟩ := hcall ho
    obtain ⟨k, rfl⟩ := Int.eq_ofNat_of_zero_le n0
    have hkl : k < m.funcs.length := by omega
    rw [Int.toNat_natCast] at n2
    have fk := hm.fn k hkl
    obtain ⟨f1, f2, fsb, fso, f3, H, f4⟩ := hf
    obtain ⟨hfa, hfb⟩ := f3 (by omega)
    obtain ⟨q1, q2⟩ := f4 k (by omega)
    obtain ⟨_, q3, _⟩ := q2
    refine mdo_call N xb yb cap a b c op k ho x zr z w hr hN hzl hat tf.rm va vb vc ha hb hc _ (fun W1 hr1 hk1 => ?_)
    have hsame : Same B w W1 := hk1.same (by omega) (fun j hj => by omega)
    have := fk.r1; have := fk.r2
    exact (call_step (f := fnAt m k) hr1 (by have := hk1.size; omega) hBN (q1.same hsame hfb) (q3.same hsame) hfb hfa (by omega) f2 rfl (by omega) (by omega) fk.w0 fk.w1 fk.np op a b ho (by show b + (fnAt m k).params.length ≤ z.1.regs.length; omega) tf.rm tf.r64 hzl hu s.pass p1 p2 p3 p4 p5 c c).mono (fun e w' h => ⟨h.1, hk1.trans h.2.1, h.2.2⟩)
end Go.Proofs.YtgpdggjpbmgegaaDoor
