import Derived.Test.YtgpdggjpbmgegaaDoorEngC
namespace Go.Proofs.YtgpdggjpbmgegaaDoor
open Go.RowKit
set_option linter.unusedVariables false
set_option linter.unusedSimpArgs false


set_option maxRecDepth 100000 in
set_option maxHeartbeats 1000000 in
theorem store_ok (eb fb rb wb : Nat) (p : Value) (at_ into : Int) (regs ws : List Int) (w : World) (hf : Own w fb [p, .int .i64 at_, .int .i64 into, .slice (some ⟨rb, 0, none⟩) regs.length regs.length, .slice (some ⟨wb, 0, none⟩) ws.length ws.length]) (hr : Own w rb (Nums regs)) (hw : Own w wb (Nums ws))
    (op n va vb : Int) (a b c : Nat) (ha : regs[a]? = some va) (hb : regs[b]? = some vb) (hm : regs.length ≤ 64) (hnw : ws.length ≤ 4096) (hvb : In64 vb) (hn : In64 n) (h0 : 0 ≤ vb + n) (h1 : vb + n < ws.length) :
    Calls Tryd.prog 69 #[.pointer (some ⟨eb, 0, none⟩), .pointer (some ⟨fb, 0, none⟩), InsVal ⟨op, a, b, c, n⟩] w fun e w' => e = .returned (.tuple #[]) ∧ Chg (· = wb) w w' ∧ Own w' wb (Nums (ws.set (vb + n).toNat va)) := by
  obtain ⟨k, hk⟩ : ∃ k : Nat, (vb + n).toNat = k := ⟨_, rfl⟩
  have hW2 := fun w hf hr => word_ok fb rb wb p at_ into regs ws.length w hf hr op n vb a b c hb hm hnw hvb hn h0 (by omega)
  have hkl : k < ws.length := by omega
  rw [hk] at hW2 ⊢
  unfold InsVal
  dsimp only
  have f5 := own5 hf
  have r1 := fun i => hr.2.2 i
  have r2 := hr.1
  have hff : fb < w.heap.size := hf.1
  have la := some_lt ha
  have lb := some_lt hb
  have r0 := hr.num ha
  have r3 := hr.num hb
  have r4 := hw.num (List.getElem?_eq_getElem hkl)
  have r6 := hw.2.2 k
  have r5 := hw.1
  have HW := Lib.hid hW2; clear hW2 hk
  go_enter Tryd.func69, Tryd.ntmps69
  go_wp2
  refine wp_below_tail 11 (by kernel_rfl) (by kernel_rfl) (fun T F hF hall => ?_); simp only [List.take_succ_cons, List.take_zero, List.drop_succ_cons, List.drop_zero]; have hFc := fun t => (bcell (hF t)).1; have hFf := fun t => (bcell (hF t)).2; have hFs := fun t => (hF t).size; have hNE : Nonempty T := (hall _ (Below.refl _ _)).elim fun t _ => ⟨t⟩; repeat (refine WQ_step (fun K hK => ?_); go_simp; refine hK _ ?_; clear hK K)
  (refine WQ_step (fun K hK => ?_); go_simp; refine ⟨_, fun t => calls_family (hF t) hall (HW.out (F t) ((hf.alloc _).below (hF t)) ((hr.alloc _).below (hF t))), hK _ ?_⟩; clear hK K)
  repeat (refine WQ_step (fun K hK => ?_); go_simp; refine hK _ ?_; clear hK K)
  refine WQ_nil (fun t => ?_); have hft := hF t; go_wp2
  go_end0
  go_light
  exact ⟨rfl, (by repeat (first | with_reducible exact Chg.refl _ _ | with_reducible assumption | with_reducible refine Chg.drew ?_ | with_reducible refine Chg.drewN ?_ _ | with_reducible refine Chg.alloc ?_ _ | with_reducible refine Chg.setCell ?_ (by first | with_reducible exact .inl rfl | exact .inl (.inl rfl) | exact .inl (.inr rfl) | exact .inr (by simp)) _ | (with_reducible refine Chg.trans ?_ (Chg.of (by first | with_reducible assumption | exact hF _))))), (by repeat (first | with_reducible assumption | with_reducible refine Own.drew ?_ | with_reducible refine Own.drewN ?_ _ | with_reducible refine Own.alloc ?_ _ | (with_reducible refine Own.setNum ?_ _ _ (by omega)) | (with_reducible refine Own.setOther ?_ _ (by simp; omega)) | (with_reducible refine Own.below ?_ (hF _))))⟩

set_option maxRecDepth 100000 in
set_option maxHeartbeats 1000000 in
theorem store_trap (eb fb rb wb : Nat) (p : Value) (at_ into : Int) (regs ws : List Int) (w : World) (hf : Own w fb [p, .int .i64 at_, .int .i64 into, .slice (some ⟨rb, 0, none⟩) regs.length regs.length, .slice (some ⟨wb, 0, none⟩) ws.length ws.length]) (hr : Own w rb (Nums regs)) (hw : Own w wb (Nums ws))
    (op n va vb : Int) (a b c : Nat) (ha : regs[a]? = some va) (hb : regs[b]? = some vb) (hm : regs.length ≤ 64) (hnw : ws.length ≤ 4096) (hvb : In64 vb) (hn : In64 n) (h0 : ¬ (0 ≤ vb + n ∧ vb + n < ws.length)) :
    Calls Tryd.prog 69 #[.pointer (some ⟨eb, 0, none⟩), .pointer (some ⟨fb, 0, none⟩), InsVal ⟨op, a, b, c, n⟩] w fun e w' => e = .panicked (trapV 51) ∧ Below w.heap.size w w' := by
  have HW := Lib.hid (fun w hf hr => word_trap fb rb wb p at_ into regs ws.length w hf hr op n vb a b c hb hm hnw hvb hn h0)
  unfold InsVal
  dsimp only
  have f5 := own5 hf
  have r1 := fun i => hr.2.2 i
  have r2 := hr.1
  have hff : fb < w.heap.size := hf.1
  have la := some_lt ha
  have lb := some_lt hb
  have r0 := hr.num ha
  have r3 := hr.num hb
  go_enter Tryd.func69, Tryd.ntmps69
  go_wp2
  refine wp_below_dies (X := fun ch => ch = trapV 51) 2 [0, 1, 3, 4, 5, 6, 7, 8, 9, 10] (by kernel_rfl) (by kernel_rfl) (fun ch a w' hd hx hb => by subst hx; exact ⟨hd, rfl, (by repeat (first | with_reducible exact Below.refl _ _ | with_reducible assumption | with_reducible refine Below.drew ?_ | with_reducible refine Below.drewN ?_ _ | with_reducible refine Below.alloc ?_ (by first | omega | (simp <;> omega) | (simp at * <;> omega)) _ | with_reducible refine Below.setCell ?_ (by first | omega | (simp <;> omega) | (simp at * <;> omega)) _ | (with_reducible refine Below.trans ?_ (Below.mono (by first | with_reducible assumption | exact hF _) (by first | omega | (simp <;> omega) | (simp at * <;> omega))))))⟩) (fun T F hF hall => ?_); simp only [pickOps, List.map_cons, List.map_nil, List.getD_cons_succ, List.getD_cons_zero]; have hFc := fun t => (bcell (hF t)).1; have hFf := fun t => (bcell (hF t)).2; have hFs := fun t => (hF t).size; have hNE : Nonempty T := (hall _ (Below.refl _ _)).elim fun t _ => ⟨t⟩; repeat (refine WQ_step (fun K hK => ?_); go_simp; refine hK _ ?_; clear hK K)
  refine WQ_nil ⟨_, rfl, rfl, ?_⟩
  go_simp
  exact fun t => dies_family (hF t) hall rfl (HW.out (F t) ((hf.alloc _).below (hF t)) ((hr.alloc _).below (hF t)))

set_option maxRecDepth 100000 in
set_option maxHeartbeats 1000000 in
theorem check_ok (eb fb rb : Nat) (p wv : Value) (at_ into : Int) (regs : List Int) (w : World) (hf : Own w fb [p, .int .i64 at_, .int .i64 into, .slice (some ⟨rb, 0, none⟩) regs.length regs.length, wv]) (hr : Own w rb (Nums regs)) (hm : regs.length ≤ 64) (op n va : Int) (a b c : Nat) (ha : regs[a]? = some va) (h0 : 0 ≤ va) (h1 : va < n) :
    Calls Tryd.prog 70 #[.pointer (some ⟨eb, 0, none⟩), .pointer (some ⟨fb, 0, none⟩), InsVal ⟨op, a, b, c, n⟩] w fun e w' => e = .returned (.tuple #[]) ∧ Below w.heap.size w w' := by
  unfold InsVal
  dsimp only
  have f5 := own5 hf
  have r1 := fun i => hr.2.2 i
  have r2 := hr.1
  have hff : fb < w.heap.size := hf.1
  have la := some_lt ha
  have r0 := hr.num ha
  have d0 : decide (va < 0) = false := by simp <;> omega
  have d1 : decide (n ≤ va) = false := by simp <;> omega
  go_enter Tryd.func70, Tryd.ntmps70
  go_wp2
  go_quiet (fail)
  go_wp2
  go_end0
  go_light
  exact ⟨rfl, (by repeat (first | with_reducible exact Below.refl _ _ | with_reducible assumption | with_reducible refine Below.drew ?_ | with_reducible refine Below.drewN ?_ _ | with_reducible refine Below.alloc ?_ (by first | omega | (simp <;> omega) | (simp at * <;> omega)) _ | with_reducible refine Below.setCell ?_ (by first | omega | (simp <;> omega) | (simp at * <;> omega)) _ | (with_reducible refine Below.trans ?_ (Below.mono (by first | with_reducible assumption | exact hF _) (by first | omega | (simp <;> omega) | (simp at * <;> omega))))))⟩

set_option maxRecDepth 100000 in
set_option maxHeartbeats 1000000 in
theorem check_low (eb fb rb : Nat) (p wv : Value) (at_ into : Int) (regs : List Int) (w : World) (hf : Own w fb [p, .int .i64 at_, .int .i64 into, .slice (some ⟨rb, 0, none⟩) regs.length regs.length, wv]) (hr : Own w rb (Nums regs)) (hm : regs.length ≤ 64) (op n va : Int) (a b c : Nat) (ha : regs[a]? = some va) (h0 : va < 0) :
    Calls Tryd.prog 70 #[.pointer (some ⟨eb, 0, none⟩), .pointer (some ⟨fb, 0, none⟩), InsVal ⟨op, a, b, c, n⟩] w fun e w' => e = .panicked (trapV 51) ∧ Below w.heap.size w w' := by
  unfold InsVal
  dsimp only
  have f5 := own5 hf
  have r1 := fun i => hr.2.2 i
  have r2 := hr.1
  have hff : fb < w.heap.size := hf.1
  have la := some_lt ha
  have r0 := hr.num ha
  have d0 : decide (va < 0) = true := by simp <;> omega
  go_enter Tryd.func70, Tryd.ntmps70
  go_wp2
  go_quiet (fail)
  go_wp2
  go_light
  exact ⟨rfl, rfl, (by repeat (first | with_reducible exact Below.refl _ _ | with_reducible assumption | with_reducible refine Below.drew ?_ | with_reducible refine Below.drewN ?_ _ | with_reducible refine Below.alloc ?_ (by first | omega | (simp <;> omega) | (simp at * <;> omega)) _ | with_reducible refine Below.setCell ?_ (by first | omega | (simp <;> omega) | (simp at * <;> omega)) _ | (with_reducible refine Below.trans ?_ (Below.mono (by first | with_reducible assumption | exact hF _) (by first | omega | (simp <;> omega) | (simp at * <;> omega))))))⟩

set_option maxRecDepth 100000 in
set_option maxHeartbeats 1000000 in
theorem check_high (eb fb rb : Nat) (p wv : Value) (at_ into : Int) (regs : List Int) (w : World) (hf : Own w fb [p, .int .i64 at_, .int .i64 into, .slice (some ⟨rb, 0, none⟩) regs.length regs.length, wv]) (hr : Own w rb (Nums regs)) (hm : regs.length ≤ 64) (op n va : Int) (a b c : Nat) (ha : regs[a]? = some va) (h0 : 0 ≤ va) (h1 : ¬ va < n) :
    Calls Tryd.prog 70 #[.pointer (some ⟨eb, 0, none⟩), .pointer (some ⟨fb, 0, none⟩), InsVal ⟨op, a, b, c, n⟩] w fun e w' => e = .panicked (trapV 51) ∧ Below w.heap.size w w' := by
  unfold InsVal
  dsimp only
  have f5 := own5 hf
  have r1 := fun i => hr.2.2 i
  have r2 := hr.1
  have hff : fb < w.heap.size := hf.1
  have la := some_lt ha
  have r0 := hr.num ha
  have d0 : decide (va < 0) = false := by simp <;> omega
  have d1 : decide (n ≤ va) = true := by simp <;> omega
  go_enter Tryd.func70, Tryd.ntmps70
  go_wp2
  go_quiet (fail)
  go_wp2
  go_light
  exact ⟨rfl, rfl, (by repeat (first | with_reducible exact Below.refl _ _ | with_reducible assumption | with_reducible refine Below.drew ?_ | with_reducible refine Below.drewN ?_ _ | with_reducible refine Below.alloc ?_ (by first | omega | (simp <;> omega) | (simp at * <;> omega)) _ | with_reducible refine Below.setCell ?_ (by first | omega | (simp <;> omega) | (simp at * <;> omega)) _ | (with_reducible refine Below.trans ?_ (Below.mono (by first | with_reducible assumption | exact hF _) (by first | omega | (simp <;> omega) | (simp at * <;> omega))))))⟩

set_option maxRecDepth 100000 in
set_option maxHeartbeats 1000000 in
theorem step_any (eb fb rb : Nat) (p wv : Value) (at_ into : Int) (regs : List Int) (w : World) (hf : Own w fb [p, .int .i64 at_, .int .i64 into, .slice (some ⟨rb, 0, none⟩) regs.length regs.length, wv]) (hr : Own w rb (Nums regs)) (hm : regs.length ≤ 64) (op n va : Int) (a b c : Nat) (ha : regs[a]? = some va) (hne : fb ≠ rb) :
    Calls Tryd.prog 72 #[.pointer (some ⟨eb, 0, none⟩), .pointer (some ⟨fb, 0, none⟩), InsVal ⟨op, a, b, c, n⟩] w fun e w' => e = .returned (.tuple #[]) ∧ Chg (fun k => k = rb ∨ k = fb) w w' ∧ Own w' rb (Nums (regs.set a (wrap64 (va + 1)))) ∧
      Own w' fb [p, .int .i64 n, .int .i64 into, .slice (some ⟨rb, 0, none⟩) regs.length regs.length, wv] := by
  unfold InsVal
  dsimp only
  have f5 := own5 hf
  have r1 := fun i => hr.2.2 i
  have r2 := hr.1
  have hff : fb < w.heap.size := hf.1
  have la := some_lt ha
  have r0 := hr.num ha
  have hg := hf.2.2 1
  go_enter Tryd.func72, Tryd.ntmps72
  go_wp2
  refine wp_still 10 (by kernel_rfl) (by kernel_rfl) ?_; simp only [List.take_succ_cons, List.take_zero, List.drop_succ_cons, List.drop_zero]; repeat (refine WS_step (fun K hK => ?_); go_simp; refine hK _ ?_; clear hK K)
  refine WS_nil ?_; go_wp2
  go_end0
  go_light
  exact ⟨rfl, (by repeat (first | with_reducible exact Chg.refl _ _ | with_reducible assumption | with_reducible refine Chg.drew ?_ | with_reducible refine Chg.drewN ?_ _ | with_reducible refine Chg.alloc ?_ _ | with_reducible refine Chg.setCell ?_ (by first | with_reducible exact .inl rfl | exact .inl (.inl rfl) | exact .inl (.inr rfl) | exact .inr (by simp)) _ | (with_reducible refine Chg.trans ?_ (Chg.of (by first | with_reducible assumption | exact hF _))))), ((((hr.setNum a _ la).setOther _ (by simpa using hne)).alloc _).drew), ((((hf.setOther _ (by simpa using Ne.symm hne)).set 1 _ (by simp)).alloc _).drew)⟩

set_option maxRecDepth 100000 in
set_option maxHeartbeats 1000000 in
theorem jump_14 (eb fb rb : Nat) (p wv : Value) (at_ into : Int) (regs : List Int) (w : World) (hf : Own w fb [p, .int .i64 at_, .int .i64 into, .slice (some ⟨rb, 0, none⟩) regs.length regs.length, wv]) (hr : Own w rb (Nums regs)) (hm : regs.length ≤ 64) (n va vb : Int) (a b c : Nat)  :
    Calls Tryd.prog 71 #[.pointer (some ⟨eb, 0, none⟩), .pointer (some ⟨fb, 0, none⟩), InsVal ⟨14, a, b, c, n⟩] w fun e w' => e = .returned (.tuple #[]) ∧ Chg (· = fb) w w' ∧ Own w' fb [p, .int .i64 n, .int .i64 into, .slice (some ⟨rb, 0, none⟩) regs.length regs.length, wv] := by
  unfold InsVal
  dsimp only
  have f5 := own5 hf
  have r1 := fun i => hr.2.2 i
  have r2 := hr.1
  have hff : fb < w.heap.size := hf.1
  have hg := hf.2.2 1
  skip
  go_enter Tryd.func71, Tryd.ntmps71
  go_wp2
  go_end0
  go_light
  exact ⟨rfl, (by repeat (first | with_reducible exact Chg.refl _ _ | with_reducible assumption | with_reducible refine Chg.drew ?_ | with_reducible refine Chg.drewN ?_ _ | with_reducible refine Chg.alloc ?_ _ | with_reducible refine Chg.setCell ?_ (by first | with_reducible exact .inl rfl | exact .inl (.inl rfl) | exact .inl (.inr rfl) | exact .inr (by simp)) _ | (with_reducible refine Chg.trans ?_ (Chg.of (by first | with_reducible assumption | exact hF _))))), (by first | exact ((hf.set 1 _ (by simp)).alloc _) | exact ((hf.set 1 _ (by simp)).alloc _).drew)⟩

set_option maxRecDepth 100000 in
set_option maxHeartbeats 1000000 in
theorem jump_if (eb fb rb : Nat) (p wv : Value) (at_ into : Int) (regs : List Int) (w : World) (hf : Own w fb [p, .int .i64 at_, .int .i64 into, .slice (some ⟨rb, 0, none⟩) regs.length regs.length, wv]) (hr : Own w rb (Nums regs)) (hm : regs.length ≤ 64) (n va vb : Int) (a b c : Nat) (ha : regs[a]? = some va) (hv : va ≠ 0) :
    Calls Tryd.prog 71 #[.pointer (some ⟨eb, 0, none⟩), .pointer (some ⟨fb, 0, none⟩), InsVal ⟨15, a, b, c, n⟩] w fun e w' => e = .returned (.tuple #[]) ∧ Chg (· = fb) w w' ∧ Own w' fb [p, .int .i64 n, .int .i64 into, .slice (some ⟨rb, 0, none⟩) regs.length regs.length, wv] := by
  unfold InsVal
  dsimp only
  have f5 := own5 hf
  have r1 := fun i => hr.2.2 i
  have r2 := hr.1
  have hff : fb < w.heap.size := hf.1
  have hg := hf.2.2 1
  have la := some_lt ha
  have r0 := hr.num ha
  have d0 : (va != 0) = true := by simpa using hv
  clear hv
  go_enter Tryd.func71, Tryd.ntmps71
  go_wp2
  refine wp_still 9 (by kernel_rfl) (by kernel_rfl) ?_; simp only [List.take_succ_cons, List.take_zero, List.drop_succ_cons, List.drop_zero]; repeat (refine WS_step (fun K hK => ?_); go_simp; refine hK _ ?_; clear hK K)
  refine WS_nil ?_; go_wp2
  go_end0
  go_light
  exact ⟨rfl, (by repeat (first | with_reducible exact Chg.refl _ _ | with_reducible assumption | with_reducible refine Chg.drew ?_ | with_reducible refine Chg.drewN ?_ _ | with_reducible refine Chg.alloc ?_ _ | with_reducible refine Chg.setCell ?_ (by first | with_reducible exact .inl rfl | exact .inl (.inl rfl) | exact .inl (.inr rfl) | exact .inr (by simp)) _ | (with_reducible refine Chg.trans ?_ (Chg.of (by first | with_reducible assumption | exact hF _))))), (by first | exact ((hf.set 1 _ (by simp)).alloc _) | exact ((hf.set 1 _ (by simp)).alloc _).drew)⟩

set_option maxRecDepth 100000 in
set_option maxHeartbeats 1000000 in
theorem jump_if_no (eb fb rb : Nat) (p wv : Value) (at_ into : Int) (regs : List Int) (w : World) (hf : Own w fb [p, .int .i64 at_, .int .i64 into, .slice (some ⟨rb, 0, none⟩) regs.length regs.length, wv]) (hr : Own w rb (Nums regs)) (hm : regs.length ≤ 64) (n va vb : Int) (a b c : Nat) (ha : regs[a]? = some 0) :
    Calls Tryd.prog 71 #[.pointer (some ⟨eb, 0, none⟩), .pointer (some ⟨fb, 0, none⟩), InsVal ⟨15, a, b, c, n⟩] w fun e w' => e = .returned (.tuple #[]) ∧ Below w.heap.size w w' := by
  unfold InsVal
  dsimp only
  have f5 := own5 hf
  have r1 := fun i => hr.2.2 i
  have r2 := hr.1
  have hff : fb < w.heap.size := hf.1
  have hg := hf.2.2 1
  have la := some_lt ha
  have r0 := hr.num ha
  go_enter Tryd.func71, Tryd.ntmps71
  go_wp2
  refine wp_still 9 (by kernel_rfl) (by kernel_rfl) ?_; simp only [List.take_succ_cons, List.take_zero, List.drop_succ_cons, List.drop_zero]; repeat (refine WS_step (fun K hK => ?_); go_simp; refine hK _ ?_; clear hK K)
  refine WS_nil ?_; go_wp2
  go_end0
  go_light
  exact ⟨rfl, (by repeat (first | with_reducible exact Below.refl _ _ | with_reducible assumption | with_reducible refine Below.drew ?_ | with_reducible refine Below.drewN ?_ _ | with_reducible refine Below.alloc ?_ (by first | omega | (simp <;> omega) | (simp at * <;> omega)) _ | with_reducible refine Below.setCell ?_ (by first | omega | (simp <;> omega) | (simp at * <;> omega)) _ | (with_reducible refine Below.trans ?_ (Below.mono (by first | with_reducible assumption | exact hF _) (by first | omega | (simp <;> omega) | (simp at * <;> omega))))))⟩

set_option maxRecDepth 100000 in
set_option maxHeartbeats 1000000 in
theorem jump_unless (eb fb rb : Nat) (p wv : Value) (at_ into : Int) (regs : List Int) (w : World) (hf : Own w fb [p, .int .i64 at_, .int .i64 into, .slice (some ⟨rb, 0, none⟩) regs.length regs.length, wv]) (hr : Own w rb (Nums regs)) (hm : regs.length ≤ 64) (n va vb : Int) (a b c : Nat) (ha : regs[a]? = some 0) :
    Calls Tryd.prog 71 #[.pointer (some ⟨eb, 0, none⟩), .pointer (some ⟨fb, 0, none⟩), InsVal ⟨16, a, b, c, n⟩] w fun e w' => e = .returned (.tuple #[]) ∧ Chg (· = fb) w w' ∧ Own w' fb [p, .int .i64 n, .int .i64 into, .slice (some ⟨rb, 0, none⟩) regs.length regs.length, wv] := by
  unfold InsVal
  dsimp only
  have f5 := own5 hf
  have r1 := fun i => hr.2.2 i
  have r2 := hr.1
  have hff : fb < w.heap.size := hf.1
  have hg := hf.2.2 1
  have la := some_lt ha
  have r0 := hr.num ha
  go_enter Tryd.func71, Tryd.ntmps71
  go_wp2
  refine wp_still 9 (by kernel_rfl) (by kernel_rfl) ?_; simp only [List.take_succ_cons, List.take_zero, List.drop_succ_cons, List.drop_zero]; repeat (refine WS_step (fun K hK => ?_); go_simp; refine hK _ ?_; clear hK K)
  refine WS_nil ?_; go_wp2
  go_end0
  go_light
  exact ⟨rfl, (by repeat (first | with_reducible exact Chg.refl _ _ | with_reducible assumption | with_reducible refine Chg.drew ?_ | with_reducible refine Chg.drewN ?_ _ | with_reducible refine Chg.alloc ?_ _ | with_reducible refine Chg.setCell ?_ (by first | with_reducible exact .inl rfl | exact .inl (.inl rfl) | exact .inl (.inr rfl) | exact .inr (by simp)) _ | (with_reducible refine Chg.trans ?_ (Chg.of (by first | with_reducible assumption | exact hF _))))), (by first | exact ((hf.set 1 _ (by simp)).alloc _) | exact ((hf.set 1 _ (by simp)).alloc _).drew)⟩

set_option maxRecDepth 100000 in
set_option maxHeartbeats 1000000 in
theorem jump_unless_no (eb fb rb : Nat) (p wv : Value) (at_ into : Int) (regs : List Int) (w : World) (hf : Own w fb [p, .int .i64 at_, .int .i64 into, .slice (some ⟨rb, 0, none⟩) regs.length regs.length, wv]) (hr : Own w rb (Nums regs)) (hm : regs.length ≤ 64) (n va vb : Int) (a b c : Nat) (ha : regs[a]? = some va) (hv : va ≠ 0) :
    Calls Tryd.prog 71 #[.pointer (some ⟨eb, 0, none⟩), .pointer (some ⟨fb, 0, none⟩), InsVal ⟨16, a, b, c, n⟩] w fun e w' => e = .returned (.tuple #[]) ∧ Below w.heap.size w w' := by
  unfold InsVal
  dsimp only
  have f5 := own5 hf
  have r1 := fun i => hr.2.2 i
  have r2 := hr.1
  have hff : fb < w.heap.size := hf.1
  have hg := hf.2.2 1
  have la := some_lt ha
  have r0 := hr.num ha
  have d0 : (va == 0) = false := by simpa using hv
  clear hv
  go_enter Tryd.func71, Tryd.ntmps71
  go_wp2
  refine wp_still 9 (by kernel_rfl) (by kernel_rfl) ?_; simp only [List.take_succ_cons, List.take_zero, List.drop_succ_cons, List.drop_zero]; repeat (refine WS_step (fun K hK => ?_); go_simp; refine hK _ ?_; clear hK K)
  refine WS_nil ?_; go_wp2
  go_end0
  go_light
  exact ⟨rfl, (by repeat (first | with_reducible exact Below.refl _ _ | with_reducible assumption | with_reducible refine Below.drew ?_ | with_reducible refine Below.drewN ?_ _ | with_reducible refine Below.alloc ?_ (by first | omega | (simp <;> omega) | (simp at * <;> omega)) _ | with_reducible refine Below.setCell ?_ (by first | omega | (simp <;> omega) | (simp at * <;> omega)) _ | (with_reducible refine Below.trans ?_ (Below.mono (by first | with_reducible assumption | exact hF _) (by first | omega | (simp <;> omega) | (simp at * <;> omega))))))⟩

set_option maxRecDepth 100000 in
set_option maxHeartbeats 1000000 in
theorem jump_count (eb fb rb : Nat) (p wv : Value) (at_ into : Int) (regs : List Int) (w : World) (hf : Own w fb [p, .int .i64 at_, .int .i64 into, .slice (some ⟨rb, 0, none⟩) regs.length regs.length, wv]) (hr : Own w rb (Nums regs)) (hm : regs.length ≤ 64) (n va vb : Int) (a b c : Nat) (ha : regs[a]? = some va) (hb : regs[b]? = some vb) (hv : vb ≤ va) :
    Calls Tryd.prog 71 #[.pointer (some ⟨eb, 0, none⟩), .pointer (some ⟨fb, 0, none⟩), InsVal ⟨17, a, b, c, n⟩] w fun e w' => e = .returned (.tuple #[]) ∧ Chg (· = fb) w w' ∧ Own w' fb [p, .int .i64 n, .int .i64 into, .slice (some ⟨rb, 0, none⟩) regs.length regs.length, wv] := by
  unfold InsVal
  dsimp only
  have f5 := own5 hf
  have r1 := fun i => hr.2.2 i
  have r2 := hr.1
  have hff : fb < w.heap.size := hf.1
  have hg := hf.2.2 1
  have la := some_lt ha
  have r0 := hr.num ha
  have lb := some_lt hb
  have r3 := hr.num hb
  have d0 : decide (vb ≤ va) = true := by simpa using hv
  go_enter Tryd.func71, Tryd.ntmps71
  go_wp2
  refine wp_still 17 (by kernel_rfl) (by kernel_rfl) ?_; simp only [List.take_succ_cons, List.take_zero, List.drop_succ_cons, List.drop_zero]; repeat (refine WS_step (fun K hK => ?_); go_simp; refine hK _ ?_; clear hK K)
  refine WS_nil ?_; go_wp2
  go_end0
  go_light
  exact ⟨rfl, (by repeat (first | with_reducible exact Chg.refl _ _ | with_reducible assumption | with_reducible refine Chg.drew ?_ | with_reducible refine Chg.drewN ?_ _ | with_reducible refine Chg.alloc ?_ _ | with_reducible refine Chg.setCell ?_ (by first | with_reducible exact .inl rfl | exact .inl (.inl rfl) | exact .inl (.inr rfl) | exact .inr (by simp)) _ | (with_reducible refine Chg.trans ?_ (Chg.of (by first | with_reducible assumption | exact hF _))))), (by first | exact ((hf.set 1 _ (by simp)).alloc _) | exact ((hf.set 1 _ (by simp)).alloc _).drew)⟩

set_option maxRecDepth 100000 in
set_option maxHeartbeats 1000000 in
theorem jump_count_no (eb fb rb : Nat) (p wv : Value) (at_ into : Int) (regs : List Int) (w : World) (hf : Own w fb [p, .int .i64 at_, .int .i64 into, .slice (some ⟨rb, 0, none⟩) regs.length regs.length, wv]) (hr : Own w rb (Nums regs)) (hm : regs.length ≤ 64) (n va vb : Int) (a b c : Nat) (ha : regs[a]? = some va) (hb : regs[b]? = some vb) (hv : ¬ vb ≤ va) :
    Calls Tryd.prog 71 #[.pointer (some ⟨eb, 0, none⟩), .pointer (some ⟨fb, 0, none⟩), InsVal ⟨17, a, b, c, n⟩] w fun e w' => e = .returned (.tuple #[]) ∧ Below w.heap.size w w' := by
  unfold InsVal
  dsimp only
  have f5 := own5 hf
  have r1 := fun i => hr.2.2 i
  have r2 := hr.1
  have hff : fb < w.heap.size := hf.1
  have hg := hf.2.2 1
  have la := some_lt ha
  have r0 := hr.num ha
  have lb := some_lt hb
  have r3 := hr.num hb
  have d0 : decide (vb ≤ va) = false := by simpa using hv
  go_enter Tryd.func71, Tryd.ntmps71
  go_wp2
  refine wp_still 17 (by kernel_rfl) (by kernel_rfl) ?_; simp only [List.take_succ_cons, List.take_zero, List.drop_succ_cons, List.drop_zero]; repeat (refine WS_step (fun K hK => ?_); go_simp; refine hK _ ?_; clear hK K)
  refine WS_nil ?_; go_wp2
  go_end0
  go_light
  exact ⟨rfl, (by repeat (first | with_reducible exact Below.refl _ _ | with_reducible assumption | with_reducible refine Below.drew ?_ | with_reducible refine Below.drewN ?_ _ | with_reducible refine Below.alloc ?_ (by first | omega | (simp <;> omega) | (simp at * <;> omega)) _ | with_reducible refine Below.setCell ?_ (by first | omega | (simp <;> omega) | (simp at * <;> omega)) _ | (with_reducible refine Below.trans ?_ (Below.mono (by first | with_reducible assumption | exact hF _) (by first | omega | (simp <;> omega) | (simp at * <;> omega))))))⟩
end Go.Proofs.YtgpdggjpbmgegaaDoor
