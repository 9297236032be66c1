/- The reference machine (R20): the operations that may lead elsewhere. -/
import Derived.Test.YtgpdggjpbmgegaaDoorMrD
namespace Go.Proofs.YtgpdggjpbmgegaaDoor
open Go.RowKit
set_option linter.unusedVariables false
set_option linter.unusedSimpArgs false


/-- the place where it goes on, and the registers; va, vb: the two registers' values -/
def leadsV (op : Int) (a : Nat) (n at_ : Int) (regs : List Int) (va vb : Int) : Int × List Int :=
  if op = 18 then (n, regs.set a (wrap64 (va + 1))) else
  if op = 14 ∨ (op = 15 ∧ va ≠ 0) ∨ (op = 16 ∧ va = 0) ∨ (op = 17 ∧ vb ≤ va) then (n, regs) else (at_, regs)
def LeadsPost (yb yo rb cnt cap : Nat) (xs : List Value) (op : Int) (a : Nat) (n at_ : Int) (regs : List Int) (va vb : Int) (w : World) (e : Ending) (w' : World) : Prop :=
  e = .returned (.tuple #[]) ∧ Chg (fun k => k = yb ∨ k = rb) w w' ∧ w'.ownsRow 0 105 5 (.slice (some ⟨yb, 0, none⟩) cnt cap) cnt (xs.set (yo + 1) (.int .i64 (leadsV op a n at_ regs va vb).1)) ∧ Own w' rb (Nums (leadsV op a n at_ regs va vb).2)

set_option maxRecDepth 100000 in
set_option maxHeartbeats 2000000 in
theorem mleads_any (yb yo rb cnt cap : Nat) (xs : List Value) (op : Int) (a b : Nat) (c n at_ va vb : Int) (regs : List Int) (w : World) (hop : op = 14 ∨ op = 15 ∨ op = 16 ∨ op = 17 ∨ op = 18) (hrow : w.ownsRow 0 105 5 (.slice (some ⟨yb, 0, none⟩) cnt cap) cnt xs)
    (hx1 : xs[yo + 1]? = some (.int .i64 at_)) (hx3 : xs[yo + 3]? = some (.slice (some ⟨rb, 0, none⟩) regs.length regs.length)) (hr : Own w rb (Nums regs)) (hne : yb ≠ rb) (ha : regs[a]? = some va) (hb : regs[b]? = some vb) (hm : regs.length ≤ 64) :
    Calls Tryd.prog 79 #[.pointer (some ⟨yb, yo, none⟩), .agg #[.int .i64 op, .int .i64 a, .int .i64 b, .int .i64 c, .int .i64 n]] w (LeadsPost yb yo rb cnt cap xs op a n at_ regs va vb w) := by
  have la := some_lt ha
  have lb := some_lt hb
  have r0 := hr.num ha
  have r3 := hr.num hb
  have fa := hr.2.2 a
  have hrl := hr.1
  have c1 := own_cells hrow hx1
  have c3 := own_cells hrow hx3
  have f1 := hrow.frozenAt (yo + 1)
  have hyl : yb < w.heap.size := (hrow.lt yb rfl).2
  have HR := Lib.hid hrow; clear hrow
  have HW := Lib.hid hr; clear hr
  have HX1 := Lib.hid hx1; clear hx1 hx3
  have hsame : xs.set (yo + 1) (.int .i64 at_) = xs := by
    have hlt := (List.getElem?_eq_some_iff.1 HX1.out).1
    have he := (List.getElem?_eq_some_iff.1 HX1.out).2
    rw [← he]; exact List.set_getElem_self hlt
  have HSM := Lib.hid hsame; clear hsame
  clear ha hb
  unfold LeadsPost
  rcases hop with rfl | rfl | rfl | rfl | rfl
  · rw [show leadsV 14 a n at_ regs va vb = (n, regs) from by simp [leadsV]]
    go_enter Tryd.func79, Tryd.ntmps79
    go_wp2
    refine wp_still 8 (by kernel_rfl) (by kernel_rfl) ?_; simp only [List.take_succ_cons, List.take_zero, List.drop_succ_cons, List.drop_zero]; repeat (refine WS_step (fun K hK => ?_); go_simp; refine hK _ ?_; clear hK K)
    refine WS_nil ?_; go_wp2
    go_quiet (fail)
    go_wp2
    go_end0
    go_light
    first
      | exact ⟨rfl, (by repeat (first | with_reducible exact Chg.refl _ _ | with_reducible assumption | with_reducible refine Chg.drew ?_ | with_reducible refine Chg.drewN ?_ _ | with_reducible refine Chg.alloc ?_ _ | with_reducible refine Chg.setCell ?_ (by first | with_reducible exact .inl rfl | exact .inl (.inl rfl) | exact .inl (.inr rfl) | exact .inr (by simp)) _ | (with_reducible refine Chg.trans ?_ (Chg.of (by first | with_reducible assumption | exact hF _))))), (World.ownsRow.stored (w := (w.alloc _).drewN _) (HR.out.alloc _) (yo + 1) _).1, (((HW.out.alloc _).drewN _).setOther _ (by simpa using hne))⟩
      | exact ⟨rfl, (by repeat (first | with_reducible exact Chg.refl _ _ | with_reducible assumption | with_reducible refine Chg.drew ?_ | with_reducible refine Chg.drewN ?_ _ | with_reducible refine Chg.alloc ?_ _ | with_reducible refine Chg.setCell ?_ (by first | with_reducible exact .inl rfl | exact .inl (.inl rfl) | exact .inl (.inr rfl) | exact .inr (by simp)) _ | (with_reducible refine Chg.trans ?_ (Chg.of (by first | with_reducible assumption | exact hF _))))), by rw [HSM.out]; exact HR.out.alloc _, (((HW.out.alloc _).drew).drewN _)⟩
  · by_cases h : va ≠ 0
    · rw [show leadsV 15 a n at_ regs va vb = (n, regs) from by simp [leadsV, h]]
      have d0 : (va != 0) = true := by simpa using h
      clear h
      go_enter Tryd.func79, Tryd.ntmps79
      go_wp2
      refine wp_still 8 (by kernel_rfl) (by kernel_rfl) ?_; simp only [List.take_succ_cons, List.take_zero, List.drop_succ_cons, List.drop_zero]; repeat (refine WS_step (fun K hK => ?_); go_simp; refine hK _ ?_; clear hK K)
      refine WS_nil ?_; go_wp2
      go_quiet (fail)
      go_wp2
      go_end0
      go_light
      first
        | exact ⟨rfl, (by repeat (first | with_reducible exact Chg.refl _ _ | with_reducible assumption | with_reducible refine Chg.drew ?_ | with_reducible refine Chg.drewN ?_ _ | with_reducible refine Chg.alloc ?_ _ | with_reducible refine Chg.setCell ?_ (by first | with_reducible exact .inl rfl | exact .inl (.inl rfl) | exact .inl (.inr rfl) | exact .inr (by simp)) _ | (with_reducible refine Chg.trans ?_ (Chg.of (by first | with_reducible assumption | exact hF _))))), (World.ownsRow.stored (w := (w.alloc _).drewN _) (HR.out.alloc _) (yo + 1) _).1, (((HW.out.alloc _).drewN _).setOther _ (by simpa using hne))⟩
        | exact ⟨rfl, (by repeat (first | with_reducible exact Chg.refl _ _ | with_reducible assumption | with_reducible refine Chg.drew ?_ | with_reducible refine Chg.drewN ?_ _ | with_reducible refine Chg.alloc ?_ _ | with_reducible refine Chg.setCell ?_ (by first | with_reducible exact .inl rfl | exact .inl (.inl rfl) | exact .inl (.inr rfl) | exact .inr (by simp)) _ | (with_reducible refine Chg.trans ?_ (Chg.of (by first | with_reducible assumption | exact hF _))))), by rw [HSM.out]; exact HR.out.alloc _, (((HW.out.alloc _).drew).drewN _)⟩
    · rw [show leadsV 15 a n at_ regs va vb = (at_, regs) from by simp [leadsV]; intros; omega]
      have d0 : (va != 0) = false := by simpa using h
      clear h
      go_enter Tryd.func79, Tryd.ntmps79
      go_wp2
      refine wp_still 8 (by kernel_rfl) (by kernel_rfl) ?_; simp only [List.take_succ_cons, List.take_zero, List.drop_succ_cons, List.drop_zero]; repeat (refine WS_step (fun K hK => ?_); go_simp; refine hK _ ?_; clear hK K)
      refine WS_nil ?_; go_wp2
      go_quiet (fail)
      go_wp2
      go_end0
      go_light
      first
        | exact ⟨rfl, (by repeat (first | with_reducible exact Chg.refl _ _ | with_reducible assumption | with_reducible refine Chg.drew ?_ | with_reducible refine Chg.drewN ?_ _ | with_reducible refine Chg.alloc ?_ _ | with_reducible refine Chg.setCell ?_ (by first | with_reducible exact .inl rfl | exact .inl (.inl rfl) | exact .inl (.inr rfl) | exact .inr (by simp)) _ | (with_reducible refine Chg.trans ?_ (Chg.of (by first | with_reducible assumption | exact hF _))))), (World.ownsRow.stored (w := (w.alloc _).drewN _) (HR.out.alloc _) (yo + 1) _).1, (((HW.out.alloc _).drewN _).setOther _ (by simpa using hne))⟩
        | exact ⟨rfl, (by repeat (first | with_reducible exact Chg.refl _ _ | with_reducible assumption | with_reducible refine Chg.drew ?_ | with_reducible refine Chg.drewN ?_ _ | with_reducible refine Chg.alloc ?_ _ | with_reducible refine Chg.setCell ?_ (by first | with_reducible exact .inl rfl | exact .inl (.inl rfl) | exact .inl (.inr rfl) | exact .inr (by simp)) _ | (with_reducible refine Chg.trans ?_ (Chg.of (by first | with_reducible assumption | exact hF _))))), by rw [HSM.out]; exact HR.out.alloc _, (((HW.out.alloc _).drew).drewN _)⟩
  · by_cases h : va = 0
    · rw [show leadsV 16 a n at_ regs va vb = (n, regs) from by simp [leadsV, h]]
      have d0 : (va == 0) = true := by simpa using h
      clear h
      go_enter Tryd.func79, Tryd.ntmps79
      go_wp2
      refine wp_still 8 (by kernel_rfl) (by kernel_rfl) ?_; simp only [List.take_succ_cons, List.take_zero, List.drop_succ_cons, List.drop_zero]; repeat (refine WS_step (fun K hK => ?_); go_simp; refine hK _ ?_; clear hK K)
      refine WS_nil ?_; go_wp2
      go_quiet (fail)
      go_wp2
      go_end0
      go_light
      first
        | exact ⟨rfl, (by repeat (first | with_reducible exact Chg.refl _ _ | with_reducible assumption | with_reducible refine Chg.drew ?_ | with_reducible refine Chg.drewN ?_ _ | with_reducible refine Chg.alloc ?_ _ | with_reducible refine Chg.setCell ?_ (by first | with_reducible exact .inl rfl | exact .inl (.inl rfl) | exact .inl (.inr rfl) | exact .inr (by simp)) _ | (with_reducible refine Chg.trans ?_ (Chg.of (by first | with_reducible assumption | exact hF _))))), (World.ownsRow.stored (w := (w.alloc _).drewN _) (HR.out.alloc _) (yo + 1) _).1, (((HW.out.alloc _).drewN _).setOther _ (by simpa using hne))⟩
        | exact ⟨rfl, (by repeat (first | with_reducible exact Chg.refl _ _ | with_reducible assumption | with_reducible refine Chg.drew ?_ | with_reducible refine Chg.drewN ?_ _ | with_reducible refine Chg.alloc ?_ _ | with_reducible refine Chg.setCell ?_ (by first | with_reducible exact .inl rfl | exact .inl (.inl rfl) | exact .inl (.inr rfl) | exact .inr (by simp)) _ | (with_reducible refine Chg.trans ?_ (Chg.of (by first | with_reducible assumption | exact hF _))))), by rw [HSM.out]; exact HR.out.alloc _, (((HW.out.alloc _).drew).drewN _)⟩
    · rw [show leadsV 16 a n at_ regs va vb = (at_, regs) from by simp [leadsV]; intros; omega]
      have d0 : (va == 0) = false := by simpa using h
      clear h
      go_enter Tryd.func79, Tryd.ntmps79
      go_wp2
      refine wp_still 8 (by kernel_rfl) (by kernel_rfl) ?_; simp only [List.take_succ_cons, List.take_zero, List.drop_succ_cons, List.drop_zero]; repeat (refine WS_step (fun K hK => ?_); go_simp; refine hK _ ?_; clear hK K)
      refine WS_nil ?_; go_wp2
      go_quiet (fail)
      go_wp2
      go_end0
      go_light
      first
        | exact ⟨rfl, (by repeat (first | with_reducible exact Chg.refl _ _ | with_reducible assumption | with_reducible refine Chg.drew ?_ | with_reducible refine Chg.drewN ?_ _ | with_reducible refine Chg.alloc ?_ _ | with_reducible refine Chg.setCell ?_ (by first | with_reducible exact .inl rfl | exact .inl (.inl rfl) | exact .inl (.inr rfl) | exact .inr (by simp)) _ | (with_reducible refine Chg.trans ?_ (Chg.of (by first | with_reducible assumption | exact hF _))))), (World.ownsRow.stored (w := (w.alloc _).drewN _) (HR.out.alloc _) (yo + 1) _).1, (((HW.out.alloc _).drewN _).setOther _ (by simpa using hne))⟩
        | exact ⟨rfl, (by repeat (first | with_reducible exact Chg.refl _ _ | with_reducible assumption | with_reducible refine Chg.drew ?_ | with_reducible refine Chg.drewN ?_ _ | with_reducible refine Chg.alloc ?_ _ | with_reducible refine Chg.setCell ?_ (by first | with_reducible exact .inl rfl | exact .inl (.inl rfl) | exact .inl (.inr rfl) | exact .inr (by simp)) _ | (with_reducible refine Chg.trans ?_ (Chg.of (by first | with_reducible assumption | exact hF _))))), by rw [HSM.out]; exact HR.out.alloc _, (((HW.out.alloc _).drew).drewN _)⟩
  · by_cases h : vb ≤ va
    · rw [show leadsV 17 a n at_ regs va vb = (n, regs) from by simp [leadsV, h]]
      have d0 : decide (vb ≤ va) = true := by simpa using h
      clear h
      go_enter Tryd.func79, Tryd.ntmps79
      go_wp2
      refine wp_still 8 (by kernel_rfl) (by kernel_rfl) ?_; simp only [List.take_succ_cons, List.take_zero, List.drop_succ_cons, List.drop_zero]; repeat (refine WS_step (fun K hK => ?_); go_simp; refine hK _ ?_; clear hK K)
      refine WS_nil ?_; go_wp2
      go_quiet (fail)
      go_wp2
      go_end0
      go_light
      first
        | exact ⟨rfl, (by repeat (first | with_reducible exact Chg.refl _ _ | with_reducible assumption | with_reducible refine Chg.drew ?_ | with_reducible refine Chg.drewN ?_ _ | with_reducible refine Chg.alloc ?_ _ | with_reducible refine Chg.setCell ?_ (by first | with_reducible exact .inl rfl | exact .inl (.inl rfl) | exact .inl (.inr rfl) | exact .inr (by simp)) _ | (with_reducible refine Chg.trans ?_ (Chg.of (by first | with_reducible assumption | exact hF _))))), (World.ownsRow.stored (w := (w.alloc _).drewN _) (HR.out.alloc _) (yo + 1) _).1, (((HW.out.alloc _).drewN _).setOther _ (by simpa using hne))⟩
        | exact ⟨rfl, (by repeat (first | with_reducible exact Chg.refl _ _ | with_reducible assumption | with_reducible refine Chg.drew ?_ | with_reducible refine Chg.drewN ?_ _ | with_reducible refine Chg.alloc ?_ _ | with_reducible refine Chg.setCell ?_ (by first | with_reducible exact .inl rfl | exact .inl (.inl rfl) | exact .inl (.inr rfl) | exact .inr (by simp)) _ | (with_reducible refine Chg.trans ?_ (Chg.of (by first | with_reducible assumption | exact hF _))))), by rw [HSM.out]; exact HR.out.alloc _, (((HW.out.alloc _).drew).drewN _)⟩
    · rw [show leadsV 17 a n at_ regs va vb = (at_, regs) from by simp [leadsV]; intros; omega]
      have d0 : decide (vb ≤ va) = false := by simpa using h
      clear h
      go_enter Tryd.func79, Tryd.ntmps79
      go_wp2
      refine wp_still 8 (by kernel_rfl) (by kernel_rfl) ?_; simp only [List.take_succ_cons, List.take_zero, List.drop_succ_cons, List.drop_zero]; repeat (refine WS_step (fun K hK => ?_); go_simp; refine hK _ ?_; clear hK K)
      refine WS_nil ?_; go_wp2
      go_quiet (fail)
      go_wp2
      go_end0
      go_light
      first
        | exact ⟨rfl, (by repeat (first | with_reducible exact Chg.refl _ _ | with_reducible assumption | with_reducible refine Chg.drew ?_ | with_reducible refine Chg.drewN ?_ _ | with_reducible refine Chg.alloc ?_ _ | with_reducible refine Chg.setCell ?_ (by first | with_reducible exact .inl rfl | exact .inl (.inl rfl) | exact .inl (.inr rfl) | exact .inr (by simp)) _ | (with_reducible refine Chg.trans ?_ (Chg.of (by first | with_reducible assumption | exact hF _))))), (World.ownsRow.stored (w := (w.alloc _).drewN _) (HR.out.alloc _) (yo + 1) _).1, (((HW.out.alloc _).drewN _).setOther _ (by simpa using hne))⟩
        | exact ⟨rfl, (by repeat (first | with_reducible exact Chg.refl _ _ | with_reducible assumption | with_reducible refine Chg.drew ?_ | with_reducible refine Chg.drewN ?_ _ | with_reducible refine Chg.alloc ?_ _ | with_reducible refine Chg.setCell ?_ (by first | with_reducible exact .inl rfl | exact .inl (.inl rfl) | exact .inl (.inr rfl) | exact .inr (by simp)) _ | (with_reducible refine Chg.trans ?_ (Chg.of (by first | with_reducible assumption | exact hF _))))), by rw [HSM.out]; exact HR.out.alloc _, (((HW.out.alloc _).drew).drewN _)⟩
  · rw [show leadsV 18 a n at_ regs va vb = (n, regs.set a (wrap64 (va + 1))) from by simp [leadsV]]
    go_enter Tryd.func79, Tryd.ntmps79
    go_wp2
    refine wp_still 8 (by kernel_rfl) (by kernel_rfl) ?_; simp only [List.take_succ_cons, List.take_zero, List.drop_succ_cons, List.drop_zero]; repeat (refine WS_step (fun K hK => ?_); go_simp; refine hK _ ?_; clear hK K)
    refine WS_nil ?_; go_wp2
    refine wp_still 9 (by kernel_rfl) (by kernel_rfl) ?_; simp only [List.take_succ_cons, List.take_zero, List.drop_succ_cons, List.drop_zero]; repeat (refine WS_step (fun K hK => ?_); go_simp; refine hK _ ?_; clear hK K)
    refine WS_nil ?_; go_wp2
    go_end0
    go_light
    refine ⟨rfl, (by repeat (first | with_reducible exact Chg.refl _ _ | with_reducible assumption | with_reducible refine Chg.drew ?_ | with_reducible refine Chg.drewN ?_ _ | with_reducible refine Chg.alloc ?_ _ | with_reducible refine Chg.setCell ?_ (by first | with_reducible exact .inl rfl | exact .inl (.inl rfl) | exact .inl (.inr rfl) | exact .inr (by simp)) _ | (with_reducible refine Chg.trans ?_ (Chg.of (by first | with_reducible assumption | exact hF _))))), ?_, ((((HW.out.setNum _ _ (by omega)).setOther _ (by simpa using hne)).alloc _).drew).drew⟩
    exact ((World.ownsRow.stored (w := w.setCell ⟨rb, a, none⟩ (.int .i64 (wrap64 (va + 1)))) (ownsRow_setCell_other HR.out (by simpa [Value.ownBlock] using hne) _) (yo + 1) _).1).alloc _
end Go.Proofs.YtgpdggjpbmgegaaDoor
