import Derived.Test.YtgpdggjpbmgegaaDoorEngB
import Derived.Test.YtgpdggjpbmgegaaDoorRegion
namespace Go.Proofs.YtgpdggjpbmgegaaDoor
open Go.RowKit
set_option linter.unusedVariables false
set_option linter.unusedSimpArgs false


def trapV (e : Int) : List PanicEntry := [{ v := .iface 95 (.agg #[.int .i64 e]), recovered := false }]

set_option maxRecDepth 100000 in
set_option maxHeartbeats 1000000 in
theorem word_ok (fb rb wb : Nat) (p : Value) (at_ into : Int) (regs : List Int) (nw : Nat) (w : World) (hf : Own w fb [p, .int .i64 at_, .int .i64 into, .slice (some ⟨rb, 0, none⟩) regs.length regs.length, .slice (some ⟨wb, 0, none⟩) nw nw]) (hr : Own w rb (Nums regs))
    (op n vb : Int) (a b c : Nat) (hb : regs[b]? = some vb) (hm : regs.length ≤ 64) (hnw : nw ≤ 4096) (hvb : In64 vb) (hn : In64 n) (h0 : 0 ≤ vb + n) (h1 : vb + n < nw) :
    Calls Tryd.prog 81 #[.pointer (some ⟨fb, 0, none⟩), InsVal ⟨op, a, b, c, n⟩] w fun e w' => e = .returned (.pointer (some ⟨wb, (vb + n).toNat, none⟩)) ∧ Below w.heap.size w w' := by
  unfold InsVal
  dsimp only
  have f5 := own5 hf
  have r1 := fun i => hr.2.2 i
  have r2 := hr.1
  have hff : fb < w.heap.size := hf.1
  have lb := some_lt hb
  have r3 := hr.num hb
  unfold In64 at hvb hn
  go_enter Tryd.func81, Tryd.ntmps81
  go_wp2
  refine wp_still 11 (by kernel_rfl) (by kernel_rfl) ?_; simp only [List.take_succ_cons, List.take_zero, List.drop_succ_cons, List.drop_zero]; repeat (refine WS_step (fun K hK => ?_); go_simp; refine hK _ ?_; clear hK K)
  refine WS_nil ?_; go_wp2
  all_goals (go_ret; go_light; exact ⟨rfl, (by repeat (first | with_reducible exact Below.refl _ _ | with_reducible assumption | with_reducible refine Below.drew ?_ | with_reducible refine Below.drewN ?_ _ | with_reducible refine Below.alloc ?_ (by first | omega | (simp <;> omega) | (simp at * <;> omega)) _ | with_reducible refine Below.setCell ?_ (by first | omega | (simp <;> omega) | (simp at * <;> omega)) _ | (with_reducible refine Below.trans ?_ (Below.mono (by first | with_reducible assumption | exact hF _) (by first | omega | (simp <;> omega) | (simp at * <;> omega))))))⟩)

set_option maxRecDepth 100000 in
set_option maxHeartbeats 1000000 in
theorem word_trap (fb rb wb : Nat) (p : Value) (at_ into : Int) (regs : List Int) (nw : Nat) (w : World) (hf : Own w fb [p, .int .i64 at_, .int .i64 into, .slice (some ⟨rb, 0, none⟩) regs.length regs.length, .slice (some ⟨wb, 0, none⟩) nw nw]) (hr : Own w rb (Nums regs))
    (op n vb : Int) (a b c : Nat) (hb : regs[b]? = some vb) (hm : regs.length ≤ 64) (hnw : nw ≤ 4096) (hvb : In64 vb) (hn : In64 n) (h0 : ¬ (0 ≤ vb + n ∧ vb + n < nw)) :
    Calls Tryd.prog 81 #[.pointer (some ⟨fb, 0, none⟩), InsVal ⟨op, a, b, c, n⟩] w fun e w' => e = .panicked (trapV 51) ∧ Below w.heap.size w w' := by
  unfold InsVal
  dsimp only
  have f5 := own5 hf
  have r1 := fun i => hr.2.2 i
  have r2 := hr.1
  have hff : fb < w.heap.size := hf.1
  have lb := some_lt hb
  have r3 := hr.num hb
  unfold In64 at hvb hn
  go_enter Tryd.func81, Tryd.ntmps81
  go_wp2
  refine wp_still 11 (by kernel_rfl) (by kernel_rfl) ?_; simp only [List.take_succ_cons, List.take_zero, List.drop_succ_cons, List.drop_zero]; repeat (refine WS_step (fun K hK => ?_); go_simp; refine hK _ ?_; clear hK K)
  refine WS_nil ?_; go_wp2
  all_goals first
    | exact ⟨rfl, rfl, (by repeat (first | with_reducible exact Below.refl _ _ | with_reducible assumption | with_reducible refine Below.drew ?_ | with_reducible refine Below.drewN ?_ _ | with_reducible refine Below.alloc ?_ (by first | omega | (simp <;> omega) | (simp at * <;> omega)) _ | with_reducible refine Below.setCell ?_ (by first | omega | (simp <;> omega) | (simp at * <;> omega)) _ | (with_reducible refine Below.trans ?_ (Below.mono (by first | with_reducible assumption | exact hF _) (by first | omega | (simp <;> omega) | (simp at * <;> omega))))))⟩
    | (exfalso; go_light; unfold wrap64 at *; omega)

set_option maxRecDepth 100000 in
set_option maxHeartbeats 1000000 in
theorem load_ok (eb fb rb wb : Nat) (p : Value) (at_ into : Int) (regs ws : List Int) (w : World) (hf : Own w fb [p, .int .i64 at_, .int .i64 into, .slice (some ⟨rb, 0, none⟩) regs.length regs.length, .slice (some ⟨wb, 0, none⟩) ws.length ws.length]) (hr : Own w rb (Nums regs)) (hw : Own w wb (Nums ws))
    (op n va vb vw : Int) (a b c : Nat) (ha : regs[a]? = some va) (hb : regs[b]? = some vb) (hm : regs.length ≤ 64) (hnw : ws.length ≤ 4096) (hvb : In64 vb) (hn : In64 n) (h0 : 0 ≤ vb + n) (hv : ws[(vb + n).toNat]? = some vw) :
    Calls Tryd.prog 68 #[.pointer (some ⟨eb, 0, none⟩), .pointer (some ⟨fb, 0, none⟩), InsVal ⟨op, a, b, c, n⟩] w fun e w' => e = .returned (.tuple #[]) ∧ Chg (· = rb) w w' ∧ Own w' rb (Nums (regs.set a vw)) := by
  have hv1 := some_lt hv
  have hW := word_ok fb rb wb p at_ into regs ws.length
  obtain ⟨k, hk⟩ : ∃ k : Nat, (vb + n).toNat = k := ⟨_, rfl⟩
  have hW2 := fun w hf hr => word_ok fb rb wb p at_ into regs ws.length w hf hr op n vb a b c hb hm hnw hvb hn h0 (by omega)
  rw [hk] at hv hv1 hW2
  unfold InsVal
  dsimp only
  have f5 := own5 hf
  have r1 := fun i => hr.2.2 i
  have r2 := hr.1
  have hff : fb < w.heap.size := hf.1
  have la := some_lt ha
  have lb := some_lt hb
  have r0 := hr.num ha
  have r3 := hr.num hb
  have r4 := hw.num hv
  have r5 := hw.1
  have HW := Lib.hid hW2; clear hW2 hk hW
  go_enter Tryd.func68, Tryd.ntmps68
  go_wp2
  refine wp_below_tail 11 (by kernel_rfl) (by kernel_rfl) (fun T F hF hall => ?_); simp only [List.take_succ_cons, List.take_zero, List.drop_succ_cons, List.drop_zero]; have hFc := fun t => (bcell (hF t)).1; have hFf := fun t => (bcell (hF t)).2; have hFs := fun t => (hF t).size; have hNE : Nonempty T := (hall _ (Below.refl _ _)).elim fun t _ => ⟨t⟩; repeat (refine WQ_step (fun K hK => ?_); go_simp; refine hK _ ?_; clear hK K)
  (refine WQ_step (fun K hK => ?_); go_simp; refine ⟨_, fun t => calls_family (hF t) hall (HW.out (F t) ((hf.alloc _).below (hF t)) ((hr.alloc _).below (hF t))), hK _ ?_⟩; clear hK K)
  repeat (refine WQ_step (fun K hK => ?_); go_simp; refine hK _ ?_; clear hK K)
  refine WQ_nil (fun t => ?_); have hft := hF t; go_wp2
  go_end0
  go_light
  exact ⟨rfl, (by repeat (first | with_reducible exact Chg.refl _ _ | with_reducible assumption | with_reducible refine Chg.drew ?_ | with_reducible refine Chg.drewN ?_ _ | with_reducible refine Chg.alloc ?_ _ | with_reducible refine Chg.setCell ?_ (by first | with_reducible exact .inl rfl | exact .inl (.inl rfl) | exact .inl (.inr rfl) | exact .inr (by simp)) _ | (with_reducible refine Chg.trans ?_ (Chg.of (by first | with_reducible assumption | exact hF _))))), (by repeat (first | with_reducible assumption | with_reducible refine Own.drew ?_ | with_reducible refine Own.drewN ?_ _ | with_reducible refine Own.alloc ?_ _ | (with_reducible refine Own.setNum ?_ _ _ (by omega)) | (with_reducible refine Own.setOther ?_ _ (by simp; omega)) | (with_reducible refine Own.below ?_ (hF _))))⟩

set_option maxRecDepth 100000 in
set_option maxHeartbeats 1000000 in
theorem load_trap (eb fb rb wb : Nat) (p : Value) (at_ into : Int) (regs ws : List Int) (w : World) (hf : Own w fb [p, .int .i64 at_, .int .i64 into, .slice (some ⟨rb, 0, none⟩) regs.length regs.length, .slice (some ⟨wb, 0, none⟩) ws.length ws.length]) (hr : Own w rb (Nums regs)) (hw : Own w wb (Nums ws))
    (op n va vb : Int) (a b c : Nat) (ha : regs[a]? = some va) (hb : regs[b]? = some vb) (hm : regs.length ≤ 64) (hnw : ws.length ≤ 4096) (hvb : In64 vb) (hn : In64 n) (h0 : ¬ (0 ≤ vb + n ∧ vb + n < ws.length)) :
    Calls Tryd.prog 68 #[.pointer (some ⟨eb, 0, none⟩), .pointer (some ⟨fb, 0, none⟩), InsVal ⟨op, a, b, c, n⟩] w fun e w' => e = .panicked (trapV 51) ∧ Below w.heap.size w w' := by
  have HW := Lib.hid (fun w hf hr => word_trap fb rb wb p at_ into regs ws.length w hf hr op n vb a b c hb hm hnw hvb hn h0)
  unfold InsVal
  dsimp only
  have f5 := own5 hf
  have r1 := fun i => hr.2.2 i
  have r2 := hr.1
  have hff : fb < w.heap.size := hf.1
  have la := some_lt ha
  have lb := some_lt hb
  have r0 := hr.num ha
  have r3 := hr.num hb
  go_enter Tryd.func68, Tryd.ntmps68
  go_wp2
  refine wp_below_dies (X := fun ch => ch = trapV 51) 8 [0, 1, 2, 3, 4, 5, 6, 7] (by kernel_rfl) (by kernel_rfl) (fun ch a w' hd hx hb => by subst hx; exact ⟨hd, rfl, (by repeat (first | with_reducible exact Below.refl _ _ | with_reducible assumption | with_reducible refine Below.drew ?_ | with_reducible refine Below.drewN ?_ _ | with_reducible refine Below.alloc ?_ (by first | omega | (simp <;> omega) | (simp at * <;> omega)) _ | with_reducible refine Below.setCell ?_ (by first | omega | (simp <;> omega) | (simp at * <;> omega)) _ | (with_reducible refine Below.trans ?_ (Below.mono (by first | with_reducible assumption | exact hF _) (by first | omega | (simp <;> omega) | (simp at * <;> omega))))))⟩) (fun T F hF hall => ?_); simp only [pickOps, List.map_cons, List.map_nil, List.getD_cons_succ, List.getD_cons_zero]; have hFc := fun t => (bcell (hF t)).1; have hFf := fun t => (bcell (hF t)).2; have hFs := fun t => (hF t).size; have hNE : Nonempty T := (hall _ (Below.refl _ _)).elim fun t _ => ⟨t⟩; repeat (refine WQ_step (fun K hK => ?_); go_simp; refine hK _ ?_; clear hK K)
  refine WQ_nil ⟨_, rfl, rfl, ?_⟩
  go_simp
  exact fun t => dies_family (hF t) hall rfl (HW.out (F t) ((hf.alloc _).below (hF t)) ((hr.alloc _).below (hF t)))
end Go.Proofs.YtgpdggjpbmgegaaDoor
