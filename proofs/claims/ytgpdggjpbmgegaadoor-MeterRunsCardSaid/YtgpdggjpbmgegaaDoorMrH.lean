/- The reference machine (R20): the innermost frame ends. -/
import Derived.Test.YtgpdggjpbmgegaaDoorMrG
namespace Go.Proofs.YtgpdggjpbmgegaaDoor
open Go.RowKit
set_option linter.unusedVariables false
set_option linter.unusedSimpArgs false


set_option maxRecDepth 100000 in
set_option maxHeartbeats 2000000 in
theorem mreturns_last (xb yb rb wb cap : Nat) (x : MC) (xs : List Value) (fnv at_ into v : Int) (regs words : List Int) (w : World) (hx : Own w xb x.cells) (hfr : x.fr = .slice (some ⟨yb, 0, none⟩) 1 cap) (hrow : w.ownsRow 0 105 5 (.slice (some ⟨yb, 0, none⟩) 1 cap) 1 xs)
    (hx0 : xs[0]? = some (.int .i64 fnv)) (hx1 : xs[1]? = some (.int .i64 at_)) (hx2 : xs[2]? = some (.int .i64 into)) (hx3 : xs[3]? = some (.slice (some ⟨rb, 0, none⟩) regs.length regs.length)) (hx4 : xs[4]? = some (.slice (some ⟨wb, 0, none⟩) words.length words.length)) (hne : xb ≠ yb) (hm : regs.length ≤ 64) (hm2 : words.length ≤ 4096) (hu : 0 ≤ x.use ∧ x.use ≤ 1099511627776) :
    Calls Tryd.prog 74 #[.pointer (some ⟨xb, 0, none⟩), .int .i64 v] w fun e w' => e = .returned (.tuple #[]) ∧ Chg (· = xb) w w' ∧ Own w' xb { x with use := x.use - ((regs.length : Int) + words.length), fr := .slice (some ⟨yb, 0, none⟩) 0 cap, e := 0, v := v, en := true }.cells := by
  have o := own11 hx
  rw [hfr] at o
  have fz := hx.2.2
  have f2 := fz 2
  have f4 := fz 4
  clear fz
  have c0 := own_cells hrow hx0
  have c1 := own_cells hrow hx1
  have c2 := own_cells hrow hx2
  have c3 := own_cells hrow hx3
  have c4 := own_cells hrow hx4
  have hcap : 1 ≤ cap := by
    rcases hrow.2 with ⟨e, _⟩ | ⟨_, _, _, e, _, _, q1, q2, _⟩
    · cases e
    · cases e; exact q1
  have hyl : yb < w.heap.size := (hrow.lt yb rfl).2
  have w1 : IntKind.i64.wrap ((regs.length : Int) + words.length) = (regs.length : Int) + words.length := IntWalk.i64_in _ (by omega)
  have w2 : IntKind.i64.wrap (x.use - ((regs.length : Int) + words.length)) = x.use - ((regs.length : Int) + words.length) := IntWalk.i64_in _ (by omega)
  have HX := Lib.hid hx; clear hx
  have HR := Lib.hid hrow; clear hrow hx0 hx1 hx2 hx3 hx4 hfr
  go_enter Tryd.func74, Tryd.ntmps74
  go_wp2
  refine wp_still 14 (by kernel_rfl) (by kernel_rfl) ?_; simp only [List.take_succ_cons, List.take_zero, List.drop_succ_cons, List.drop_zero]; repeat (refine WS_step (fun K hK => ?_); go_simp; refine hK _ ?_; clear hK K)
  refine WS_nil ?_
  have HO := Lib.hid (show Own ((w.setCell ⟨xb, 4, none⟩ (.int .i64 (x.use - ((regs.length : Int) + words.length)))).setCell ⟨xb, 2, none⟩ (.slice (some ⟨yb, 0, none⟩) 0 cap)) xb { x with use := x.use - ((regs.length : Int) + words.length), fr := .slice (some ⟨yb, 0, none⟩) 0 cap }.cells from (HX.out.set 4 _ (by simp [MC.cells])).set 2 _ (by simp [MC.cells]))
  go_wp2_with (go_at_call 54; refine (mends_any xb { x with use := x.use - ((regs.length : Int) + words.length), fr := .slice (some ⟨yb, 0, none⟩) 0 cap } 0 v _ ((HO.out.alloc _).drew)).mono ?_; rintro e w3 ⟨rfl, hc1, ho1⟩)
  refine bodyPost_ret (results_none rfl _ _ _) rfl ?_
  exact ⟨rfl, Chg.trans (by repeat (first | with_reducible exact Chg.refl _ _ | with_reducible assumption | with_reducible refine Chg.drew ?_ | with_reducible refine Chg.drewN ?_ _ | with_reducible refine Chg.alloc ?_ _ | with_reducible refine Chg.setCell ?_ (by first | with_reducible exact .inl rfl | exact .inl (.inl rfl) | exact .inl (.inr rfl) | exact .inr (by simp)) _ | (with_reducible refine Chg.trans ?_ (Chg.of (by first | with_reducible assumption | exact hF _))))) hc1, ho1⟩

set_option maxRecDepth 100000 in
set_option maxHeartbeats 2000000 in
theorem mreturns_more (xb yb rb wb crb cap k : Nat) (x : MC) (xs : List Value) (fnv at_ v : Int) (into : Nat) (regs words cregs : List Int) (w : World) (hx : Own w xb x.cells) (hfr : x.fr = .slice (some ⟨yb, 0, none⟩) (k + 2) cap) (hrow : w.ownsRow 0 105 5 (.slice (some ⟨yb, 0, none⟩) (k + 2) cap) (k + 2) xs)
    (hx0 : xs[(k + 1) * 5]? = some (.int .i64 fnv)) (hx1 : xs[(k + 1) * 5 + 1]? = some (.int .i64 at_)) (hx2 : xs[(k + 1) * 5 + 2]? = some (.int .i64 into)) (hx3 : xs[(k + 1) * 5 + 3]? = some (.slice (some ⟨rb, 0, none⟩) regs.length regs.length)) (hx4 : xs[(k + 1) * 5 + 4]? = some (.slice (some ⟨wb, 0, none⟩) words.length words.length))
    (hy3 : xs[k * 5 + 3]? = some (.slice (some ⟨crb, 0, none⟩) cregs.length cregs.length)) (hc : Own w crb (Nums cregs)) (hin : into < cregs.length) (hne : xb ≠ yb ∧ xb ≠ crb) (hm : regs.length ≤ 64) (hm2 : words.length ≤ 4096) (hm3 : cregs.length ≤ 64) (hk : k ≤ 1048576) (hu : 0 ≤ x.use ∧ x.use ≤ 1099511627776) :
    Calls Tryd.prog 74 #[.pointer (some ⟨xb, 0, none⟩), .int .i64 v] w fun e w' => e = .returned (.tuple #[]) ∧ Chg (fun b => b = xb ∨ b = crb) w w' ∧ Own w' xb { x with use := x.use - ((regs.length : Int) + words.length), fr := .slice (some ⟨yb, 0, none⟩) (k + 1) cap }.cells ∧ Own w' crb (Nums (cregs.set into v)) := by
  have o := own11 hx
  rw [hfr] at o
  have fz := hx.2.2
  have f2 := fz 2
  have f4 := fz 4
  clear fz
  have c0 := own_cells hrow hx0
  have c1 := own_cells hrow hx1
  have c2 := own_cells hrow hx2
  have c3 := own_cells hrow hx3
  have c4 := own_cells hrow hx4
  have c5 := own_cells hrow hy3
  have hcap : k + 2 ≤ cap := by
    rcases hrow.2 with ⟨e, _⟩ | ⟨_, _, _, e, _, _, q1, q2, _⟩
    · cases e
    · cases e; exact q1
  have hyl : yb < w.heap.size := (hrow.lt yb rfl).2
  have hcl := hc.1
  have r0 := hc.num (getD_some hin)
  have fc := hc.2.2 into
  generalize cregs.getD into 0 = cv at *
  have w1 : IntKind.i64.wrap ((regs.length : Int) + words.length) = (regs.length : Int) + words.length := IntWalk.i64_in _ (by omega)
  have w2 : IntKind.i64.wrap (x.use - ((regs.length : Int) + words.length)) = x.use - ((regs.length : Int) + words.length) := IntWalk.i64_in _ (by omega)
  have w3 : IntKind.i64.wrap ((k : Int) + 2 - 1) = (k : Int) + 1 := by rw [IntWalk.i64_in _ (by omega)]; omega
  have w4 : IntKind.i64.wrap ((k : Int) + 1 - 1) = (k : Int) := by rw [IntWalk.i64_in _ (by omega)]; omega
  have w5 : IntKind.i64.wrap (k : Int) = (k : Int) := IntWalk.i64_in _ (by omega)
  have i1 : 0 ≤ (k : Int) + 1 := by omega
  have i2 : ((k : Int) + 1).toNat = k + 1 := by omega
  have i3 : (k : Int) + 1 < (k : Int) + 2 := by omega
  have i4 : (k : Int) < (k : Int) + 1 := by omega
  have d0 : ((k : Int) + 1 == 0) = false := by simp <;> omega
  have hcap2 : k + 1 ≤ cap := by omega
  have HX := Lib.hid hx; clear hx
  have HC := Lib.hid hc; clear hc
  have HR := Lib.hid hrow; clear hrow hx0 hx1 hx2 hx3 hx4 hy3 hfr
  go_enter Tryd.func74, Tryd.ntmps74
  go_wp2
  refine wp_still 14 (by kernel_rfl) (by kernel_rfl) ?_; simp only [List.take_succ_cons, List.take_zero, List.drop_succ_cons, List.drop_zero]; repeat (refine WS_step (fun K hK => ?_); go_simp; refine hK _ ?_; clear hK K)
  refine WS_nil ?_; go_wp2
  refine wp_still 13 (by kernel_rfl) (by kernel_rfl) ?_; simp only [List.take_succ_cons, List.take_zero, List.drop_succ_cons, List.drop_zero]; repeat (refine WS_step (fun K hK => ?_); go_simp; refine hK _ ?_; clear hK K)
  refine WS_nil ?_; go_wp2
  go_end0
  go_light
  have HO := (show Own ((w.setCell ⟨xb, 4, none⟩ (.int .i64 (x.use - ((regs.length : Int) + words.length)))).setCell ⟨xb, 2, none⟩ (.slice (some ⟨yb, 0, none⟩) (k + 1) cap)) xb { x with use := x.use - ((regs.length : Int) + words.length), fr := .slice (some ⟨yb, 0, none⟩) (k + 1) cap }.cells from (HX.out.set 4 _ (by simp [MC.cells])).set 2 _ (by simp [MC.cells]))
  refine ⟨rfl, (by repeat (first | with_reducible exact Chg.refl _ _ | with_reducible assumption | with_reducible refine Chg.drew ?_ | with_reducible refine Chg.drewN ?_ _ | with_reducible refine Chg.alloc ?_ _ | with_reducible refine Chg.setCell ?_ (by first | with_reducible exact .inl rfl | exact .inl (.inl rfl) | exact .inl (.inr rfl) | exact .inr (by simp)) _ | (with_reducible refine Chg.trans ?_ (Chg.of (by first | with_reducible assumption | exact hF _))))), (((HO.setOther _ (by simpa using hne.2.symm)).alloc _).drew).drew, ?_⟩
  exact ((((((HC.out.setOther _ (by simpa using hne.2)).setOther _ (by simpa using hne.2)).setNum _ _ hin).alloc _).drew).drew)
end Go.Proofs.YtgpdggjpbmgegaaDoor
