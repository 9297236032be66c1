import Derived.Test.YtgpdggjpbmgegaaDoorEngD
namespace Go.Proofs.YtgpdggjpbmgegaaDoor
open Go.RowKit
set_option linter.unusedVariables false
set_option linter.unusedSimpArgs false


set_option maxRecDepth 100000 in
set_option maxHeartbeats 1000000 in
theorem div_trap (eb fb rb : Nat) (p wv : Value) (at_ into : Int) (regs : List Int) (w : World) (hf : Own w fb [p, .int .i64 at_, .int .i64 into, .slice (some ⟨rb, 0, none⟩) regs.length regs.length, wv]) (hr : Own w rb (Nums regs)) (hm : regs.length ≤ 64) (op n va vb vc : Int) (a b c : Nat) (ha : regs[a]? = some va) (hb : regs[b]? = some vb) (hc : regs[c]? = some vc) (hz : vc = 0) :
    Calls Tryd.prog 65 #[.pointer (some ⟨eb, 0, none⟩), .pointer (some ⟨fb, 0, none⟩), InsVal ⟨op, a, b, c, n⟩] w fun e w' => e = .panicked (trapV 50) ∧ Below w.heap.size w w' := by
  unfold InsVal
  dsimp only
  have f5 := own5 hf
  have r1 := fun i => hr.2.2 i
  have r2 := hr.1
  have hff : fb < w.heap.size := hf.1
  have la := some_lt ha
  have lb := some_lt hb
  have lc := some_lt hc
  have r0 := hr.num ha
  have r3 := hr.num hb
  have r4 := hr.num hc
  have z0 : (vc == 0) = true := by simp [hz]
  clear hz
  go_enter Tryd.func65, Tryd.ntmps65
  go_wp2
  refine wp_still 17 (by kernel_rfl) (by kernel_rfl) ?_; simp only [List.take_succ_cons, List.take_zero, List.drop_succ_cons, List.drop_zero]; repeat (refine WS_step (fun K hK => ?_); go_simp; refine hK _ ?_; clear hK K)
  refine WS_nil ?_; go_wp2
  go_light
  exact ⟨rfl, rfl, (by repeat (first | with_reducible exact Below.refl _ _ | with_reducible assumption | with_reducible refine Below.drew ?_ | with_reducible refine Below.drewN ?_ _ | with_reducible refine Below.alloc ?_ (by first | omega | (simp <;> omega) | (simp at * <;> omega)) _ | with_reducible refine Below.setCell ?_ (by first | omega | (simp <;> omega) | (simp at * <;> omega)) _ | (with_reducible refine Below.trans ?_ (Below.mono (by first | with_reducible assumption | exact hF _) (by first | omega | (simp <;> omega) | (simp at * <;> omega))))))⟩


set_option maxRecDepth 100000 in
set_option maxHeartbeats 1000000 in
theorem quo_plain (eb fb rb : Nat) (p wv : Value) (at_ into : Int) (regs : List Int) (w : World) (hf : Own w fb [p, .int .i64 at_, .int .i64 into, .slice (some ⟨rb, 0, none⟩) regs.length regs.length, wv]) (hr : Own w rb (Nums regs)) (hm : regs.length ≤ 64) (n va vb vc : Int) (a b c : Nat) (ha : regs[a]? = some va) (hb : regs[b]? = some vb) (hc : regs[c]? = some vc) (hz : vc ≠ 0) (h1 : vb ≠ -9223372036854775808) :
    Calls Tryd.prog 65 #[.pointer (some ⟨eb, 0, none⟩), .pointer (some ⟨fb, 0, none⟩), InsVal ⟨6, a, b, c, n⟩] w fun e w' => e = .returned (.tuple #[]) ∧ Chg (· = rb) w w' ∧ Own w' rb (Nums (regs.set a (numV 6 vb vc))) := by
  unfold InsVal
  dsimp only
  have f5 := own5 hf
  have r1 := fun i => hr.2.2 i
  have r2 := hr.1
  have hff : fb < w.heap.size := hf.1
  have la := some_lt ha
  have lb := some_lt hb
  have lc := some_lt hc
  have r0 := hr.num ha
  have r3 := hr.num hb
  have r4 := hr.num hc
  have z0 : (vc == 0) = false := by simpa using hz
  have zz : ¬ vc = 0 := hz
  have z1 : (vb == -9223372036854775808) = false := by simpa using h1
  clear hz h1
  go_enter Tryd.func65, Tryd.ntmps65
  go_wp2
  refine wp_still 17 (by kernel_rfl) (by kernel_rfl) ?_; simp only [List.take_succ_cons, List.take_zero, List.drop_succ_cons, List.drop_zero]; repeat (refine WS_step (fun K hK => ?_); go_simp; refine hK _ ?_; clear hK K)
  refine WS_nil ?_; go_wp2
  refine wp_still 10 (by kernel_rfl) (by kernel_rfl) ?_; simp only [List.take_succ_cons, List.take_zero, List.drop_succ_cons, List.drop_zero]; repeat (refine WS_step (fun K hK => ?_); go_simp; refine hK _ ?_; clear hK K)
  refine WS_nil ?_; go_wp2
  go_end0
  go_light
  have hn : numV 6 vb vc = wrap64 (vb.tdiv vc) := by simp [numV]
  rw [hn]
  exact ⟨rfl, (by repeat (first | with_reducible exact Chg.refl _ _ | with_reducible assumption | with_reducible refine Chg.drew ?_ | with_reducible refine Chg.drewN ?_ _ | with_reducible refine Chg.alloc ?_ _ | with_reducible refine Chg.setCell ?_ (by first | with_reducible exact .inl rfl | exact .inl (.inl rfl) | exact .inl (.inr rfl) | exact .inr (by simp)) _ | (with_reducible refine Chg.trans ?_ (Chg.of (by first | with_reducible assumption | exact hF _))))), (by repeat (first | with_reducible assumption | with_reducible refine Own.drew ?_ | with_reducible refine Own.drewN ?_ _ | with_reducible refine Own.alloc ?_ _ | (with_reducible refine Own.setNum ?_ _ _ (by omega)) | (with_reducible refine Own.setOther ?_ _ (by simp; omega)) | (with_reducible refine Own.below ?_ (hF _))))⟩

set_option maxRecDepth 100000 in
set_option maxHeartbeats 1000000 in
theorem quo_least (eb fb rb : Nat) (p wv : Value) (at_ into : Int) (regs : List Int) (w : World) (hf : Own w fb [p, .int .i64 at_, .int .i64 into, .slice (some ⟨rb, 0, none⟩) regs.length regs.length, wv]) (hr : Own w rb (Nums regs)) (hm : regs.length ≤ 64) (n va vb vc : Int) (a b c : Nat) (ha : regs[a]? = some va) (hb : regs[b]? = some vb) (hc : regs[c]? = some vc) (hz : vc ≠ 0) (h1 : vb = -9223372036854775808) (h2 : vc ≠ -1) :
    Calls Tryd.prog 65 #[.pointer (some ⟨eb, 0, none⟩), .pointer (some ⟨fb, 0, none⟩), InsVal ⟨6, a, b, c, n⟩] w fun e w' => e = .returned (.tuple #[]) ∧ Chg (· = rb) w w' ∧ Own w' rb (Nums (regs.set a (numV 6 vb vc))) := by
  unfold InsVal
  dsimp only
  have f5 := own5 hf
  have r1 := fun i => hr.2.2 i
  have r2 := hr.1
  have hff : fb < w.heap.size := hf.1
  have la := some_lt ha
  have lb := some_lt hb
  have lc := some_lt hc
  have r0 := hr.num ha
  have r3 := hr.num hb
  have r4 := hr.num hc
  have z0 : (vc == 0) = false := by simpa using hz
  have zz : ¬ vc = 0 := hz
  have z1 : (vb == -9223372036854775808) = true := by simpa using h1
  have z2 : (vc == -1) = false := by simpa using h2
  clear hz h1 h2
  go_enter Tryd.func65, Tryd.ntmps65
  go_wp2
  refine wp_still 17 (by kernel_rfl) (by kernel_rfl) ?_; simp only [List.take_succ_cons, List.take_zero, List.drop_succ_cons, List.drop_zero]; repeat (refine WS_step (fun K hK => ?_); go_simp; refine hK _ ?_; clear hK K)
  refine WS_nil ?_; go_wp2
  refine wp_still 10 (by kernel_rfl) (by kernel_rfl) ?_; simp only [List.take_succ_cons, List.take_zero, List.drop_succ_cons, List.drop_zero]; repeat (refine WS_step (fun K hK => ?_); go_simp; refine hK _ ?_; clear hK K)
  refine WS_nil ?_; go_wp2
  go_end0
  go_light
  have hn : numV 6 vb vc = wrap64 (vb.tdiv vc) := by simp [numV]
  rw [hn]
  exact ⟨rfl, (by repeat (first | with_reducible exact Chg.refl _ _ | with_reducible assumption | with_reducible refine Chg.drew ?_ | with_reducible refine Chg.drewN ?_ _ | with_reducible refine Chg.alloc ?_ _ | with_reducible refine Chg.setCell ?_ (by first | with_reducible exact .inl rfl | exact .inl (.inl rfl) | exact .inl (.inr rfl) | exact .inr (by simp)) _ | (with_reducible refine Chg.trans ?_ (Chg.of (by first | with_reducible assumption | exact hF _))))), (by repeat (first | with_reducible assumption | with_reducible refine Own.drew ?_ | with_reducible refine Own.drewN ?_ _ | with_reducible refine Own.alloc ?_ _ | (with_reducible refine Own.setNum ?_ _ _ (by omega)) | (with_reducible refine Own.setOther ?_ _ (by simp; omega)) | (with_reducible refine Own.below ?_ (hF _))))⟩

set_option maxRecDepth 100000 in
set_option maxHeartbeats 1000000 in
theorem rem_plain (eb fb rb : Nat) (p wv : Value) (at_ into : Int) (regs : List Int) (w : World) (hf : Own w fb [p, .int .i64 at_, .int .i64 into, .slice (some ⟨rb, 0, none⟩) regs.length regs.length, wv]) (hr : Own w rb (Nums regs)) (hm : regs.length ≤ 64) (n va vb vc : Int) (a b c : Nat) (ha : regs[a]? = some va) (hb : regs[b]? = some vb) (hc : regs[c]? = some vc) (hz : vc ≠ 0) (h1 : vb ≠ -9223372036854775808) :
    Calls Tryd.prog 65 #[.pointer (some ⟨eb, 0, none⟩), .pointer (some ⟨fb, 0, none⟩), InsVal ⟨7, a, b, c, n⟩] w fun e w' => e = .returned (.tuple #[]) ∧ Chg (· = rb) w w' ∧ Own w' rb (Nums (regs.set a (numV 7 vb vc))) := by
  unfold InsVal
  dsimp only
  have f5 := own5 hf
  have r1 := fun i => hr.2.2 i
  have r2 := hr.1
  have hff : fb < w.heap.size := hf.1
  have la := some_lt ha
  have lb := some_lt hb
  have lc := some_lt hc
  have r0 := hr.num ha
  have r3 := hr.num hb
  have r4 := hr.num hc
  have z0 : (vc == 0) = false := by simpa using hz
  have zz : ¬ vc = 0 := hz
  have z1 : (vb == -9223372036854775808) = false := by simpa using h1
  clear hz h1
  go_enter Tryd.func65, Tryd.ntmps65
  go_wp2
  refine wp_still 17 (by kernel_rfl) (by kernel_rfl) ?_; simp only [List.take_succ_cons, List.take_zero, List.drop_succ_cons, List.drop_zero]; repeat (refine WS_step (fun K hK => ?_); go_simp; refine hK _ ?_; clear hK K)
  refine WS_nil ?_; go_wp2
  refine wp_still 10 (by kernel_rfl) (by kernel_rfl) ?_; simp only [List.take_succ_cons, List.take_zero, List.drop_succ_cons, List.drop_zero]; repeat (refine WS_step (fun K hK => ?_); go_simp; refine hK _ ?_; clear hK K)
  refine WS_nil ?_; go_wp2
  go_end0
  go_light
  have hn : numV 7 vb vc = vb.tmod vc := by simp [numV]
  rw [hn]
  exact ⟨rfl, (by repeat (first | with_reducible exact Chg.refl _ _ | with_reducible assumption | with_reducible refine Chg.drew ?_ | with_reducible refine Chg.drewN ?_ _ | with_reducible refine Chg.alloc ?_ _ | with_reducible refine Chg.setCell ?_ (by first | with_reducible exact .inl rfl | exact .inl (.inl rfl) | exact .inl (.inr rfl) | exact .inr (by simp)) _ | (with_reducible refine Chg.trans ?_ (Chg.of (by first | with_reducible assumption | exact hF _))))), (by repeat (first | with_reducible assumption | with_reducible refine Own.drew ?_ | with_reducible refine Own.drewN ?_ _ | with_reducible refine Own.alloc ?_ _ | (with_reducible refine Own.setNum ?_ _ _ (by omega)) | (with_reducible refine Own.setOther ?_ _ (by simp; omega)) | (with_reducible refine Own.below ?_ (hF _))))⟩

set_option maxRecDepth 100000 in
set_option maxHeartbeats 1000000 in
theorem rem_least (eb fb rb : Nat) (p wv : Value) (at_ into : Int) (regs : List Int) (w : World) (hf : Own w fb [p, .int .i64 at_, .int .i64 into, .slice (some ⟨rb, 0, none⟩) regs.length regs.length, wv]) (hr : Own w rb (Nums regs)) (hm : regs.length ≤ 64) (n va vb vc : Int) (a b c : Nat) (ha : regs[a]? = some va) (hb : regs[b]? = some vb) (hc : regs[c]? = some vc) (hz : vc ≠ 0) (h1 : vb = -9223372036854775808) (h2 : vc ≠ -1) :
    Calls Tryd.prog 65 #[.pointer (some ⟨eb, 0, none⟩), .pointer (some ⟨fb, 0, none⟩), InsVal ⟨7, a, b, c, n⟩] w fun e w' => e = .returned (.tuple #[]) ∧ Chg (· = rb) w w' ∧ Own w' rb (Nums (regs.set a (numV 7 vb vc))) := by
  unfold InsVal
  dsimp only
  have f5 := own5 hf
  have r1 := fun i => hr.2.2 i
  have r2 := hr.1
  have hff : fb < w.heap.size := hf.1
  have la := some_lt ha
  have lb := some_lt hb
  have lc := some_lt hc
  have r0 := hr.num ha
  have r3 := hr.num hb
  have r4 := hr.num hc
  have z0 : (vc == 0) = false := by simpa using hz
  have zz : ¬ vc = 0 := hz
  have z1 : (vb == -9223372036854775808) = true := by simpa using h1
  have z2 : (vc == -1) = false := by simpa using h2
  clear hz h1 h2
  go_enter Tryd.func65, Tryd.ntmps65
  go_wp2
  refine wp_still 17 (by kernel_rfl) (by kernel_rfl) ?_; simp only [List.take_succ_cons, List.take_zero, List.drop_succ_cons, List.drop_zero]; repeat (refine WS_step (fun K hK => ?_); go_simp; refine hK _ ?_; clear hK K)
  refine WS_nil ?_; go_wp2
  refine wp_still 10 (by kernel_rfl) (by kernel_rfl) ?_; simp only [List.take_succ_cons, List.take_zero, List.drop_succ_cons, List.drop_zero]; repeat (refine WS_step (fun K hK => ?_); go_simp; refine hK _ ?_; clear hK K)
  refine WS_nil ?_; go_wp2
  go_end0
  go_light
  have hn : numV 7 vb vc = vb.tmod vc := by simp [numV]
  rw [hn]
  exact ⟨rfl, (by repeat (first | with_reducible exact Chg.refl _ _ | with_reducible assumption | with_reducible refine Chg.drew ?_ | with_reducible refine Chg.drewN ?_ _ | with_reducible refine Chg.alloc ?_ _ | with_reducible refine Chg.setCell ?_ (by first | with_reducible exact .inl rfl | exact .inl (.inl rfl) | exact .inl (.inr rfl) | exact .inr (by simp)) _ | (with_reducible refine Chg.trans ?_ (Chg.of (by first | with_reducible assumption | exact hF _))))), (by repeat (first | with_reducible assumption | with_reducible refine Own.drew ?_ | with_reducible refine Own.drewN ?_ _ | with_reducible refine Own.alloc ?_ _ | (with_reducible refine Own.setNum ?_ _ _ (by omega)) | (with_reducible refine Own.setOther ?_ _ (by simp; omega)) | (with_reducible refine Own.below ?_ (hF _))))⟩

set_option maxRecDepth 100000 in
set_option maxHeartbeats 1000000 in
theorem quo_both (eb fb rb : Nat) (p wv : Value) (at_ into : Int) (regs : List Int) (w : World) (hf : Own w fb [p, .int .i64 at_, .int .i64 into, .slice (some ⟨rb, 0, none⟩) regs.length regs.length, wv]) (hr : Own w rb (Nums regs)) (hm : regs.length ≤ 64) (n va vb vc : Int) (a b c : Nat) (ha : regs[a]? = some va) (hb : regs[b]? = some vb) (hc : regs[c]? = some vc) (h1 : vb = -9223372036854775808) (h2 : vc = -1) (hne : fb ≠ rb) :
    Calls Tryd.prog 65 #[.pointer (some ⟨eb, 0, none⟩), .pointer (some ⟨fb, 0, none⟩), InsVal ⟨6, a, b, c, n⟩] w fun e w' => e = .returned (.tuple #[]) ∧ Chg (· = rb) w w' ∧ Own w' rb (Nums (regs.set a (numV 6 vb vc))) := by
  unfold InsVal
  dsimp only
  have f5 := own5 hf
  have r1 := fun i => hr.2.2 i
  have r2 := hr.1
  have hff : fb < w.heap.size := hf.1
  have la := some_lt ha
  have lb := some_lt hb
  have lc := some_lt hc
  have r0 := hr.num ha
  have r3 := hr.num hb
  have r4 := hr.num hc
  have z0 : (vc == 0) = false := by simp [h2]
  have z1 : (vb == -9223372036854775808) = true := by simpa using h1
  have z2 : (vc == -1) = true := by simpa using h2
  clear h1 h2
  have g1 : ∀ x, (w.setCell ⟨rb, a, none⟩ x).cell? ⟨fb, 3, none⟩ = some (.slice (some ⟨rb, 0, none⟩) regs.length regs.length) := fun x => by
    rw [World.cell?_setCell_other _ _ _ _ (by intro h; injection h; omega)]; exact f5.2.2.2.2.1
  have g2 : ∀ x, (w.setCell ⟨rb, a, none⟩ x).cell? ⟨rb, a, none⟩ = some x := fun x => World.cell?_setCell_same _ _ _ r0
  go_enter Tryd.func65, Tryd.ntmps65
  go_wp2
  refine wp_still 17 (by kernel_rfl) (by kernel_rfl) ?_; simp only [List.take_succ_cons, List.take_zero, List.drop_succ_cons, List.drop_zero]; repeat (refine WS_step (fun K hK => ?_); go_simp; refine hK _ ?_; clear hK K)
  refine WS_nil ?_; go_wp2
  refine wp_still 7 (by kernel_rfl) (by kernel_rfl) ?_; simp only [List.take_succ_cons, List.take_zero, List.drop_succ_cons, List.drop_zero]; repeat (refine WS_step (fun K hK => ?_); go_simp; refine hK _ ?_; clear hK K)
  refine WS_nil ?_; go_wp2
  refine wp_still 8 (by kernel_rfl) (by kernel_rfl) ?_; simp only [List.take_succ_cons, List.take_zero, List.drop_succ_cons, List.drop_zero]; repeat (refine WS_step (fun K hK => ?_); go_simp; refine hK _ ?_; clear hK K)
  refine WS_nil ?_; go_wp2
  go_end0
  go_light
  have hn : numV 6 vb vc = vb := by rw [eq_of_beq z1, eq_of_beq z2]; simp [numV, wrap64]
  rw [hn]
  refine ⟨rfl, (by repeat (first | with_reducible exact Chg.refl _ _ | with_reducible assumption | with_reducible refine Chg.drew ?_ | with_reducible refine Chg.drewN ?_ _ | with_reducible refine Chg.alloc ?_ _ | with_reducible refine Chg.setCell ?_ (by first | with_reducible exact .inl rfl | exact .inl (.inl rfl) | exact .inl (.inr rfl) | exact .inr (by simp)) _ | (with_reducible refine Chg.trans ?_ (Chg.of (by first | with_reducible assumption | exact hF _))))), ?_⟩
  have ho := (hr.setNum a 0 la).setNum a vb (by simpa using la)
  rw [List.set_set] at ho
  exact (by repeat (first | with_reducible assumption | with_reducible refine Own.drew ?_ | with_reducible refine Own.drewN ?_ _ | with_reducible refine Own.alloc ?_ _ | (with_reducible refine Own.setNum ?_ _ _ (by omega)) | (with_reducible refine Own.setOther ?_ _ (by simp; omega)) | (with_reducible refine Own.below ?_ (hF _))))

set_option maxRecDepth 100000 in
set_option maxHeartbeats 1000000 in
theorem rem_both (eb fb rb : Nat) (p wv : Value) (at_ into : Int) (regs : List Int) (w : World) (hf : Own w fb [p, .int .i64 at_, .int .i64 into, .slice (some ⟨rb, 0, none⟩) regs.length regs.length, wv]) (hr : Own w rb (Nums regs)) (hm : regs.length ≤ 64) (n va vb vc : Int) (a b c : Nat) (ha : regs[a]? = some va) (hb : regs[b]? = some vb) (hc : regs[c]? = some vc) (h1 : vb = -9223372036854775808) (h2 : vc = -1) :
    Calls Tryd.prog 65 #[.pointer (some ⟨eb, 0, none⟩), .pointer (some ⟨fb, 0, none⟩), InsVal ⟨7, a, b, c, n⟩] w fun e w' => e = .returned (.tuple #[]) ∧ Chg (· = rb) w w' ∧ Own w' rb (Nums (regs.set a (numV 7 vb vc))) := by
  unfold InsVal
  dsimp only
  have f5 := own5 hf
  have r1 := fun i => hr.2.2 i
  have r2 := hr.1
  have hff : fb < w.heap.size := hf.1
  have la := some_lt ha
  have lb := some_lt hb
  have lc := some_lt hc
  have r0 := hr.num ha
  have r3 := hr.num hb
  have r4 := hr.num hc
  have z0 : (vc == 0) = false := by simp [h2]
  have z1 : (vb == -9223372036854775808) = true := by simpa using h1
  have z2 : (vc == -1) = true := by simpa using h2
  clear h1 h2
  go_enter Tryd.func65, Tryd.ntmps65
  go_wp2
  refine wp_still 17 (by kernel_rfl) (by kernel_rfl) ?_; simp only [List.take_succ_cons, List.take_zero, List.drop_succ_cons, List.drop_zero]; repeat (refine WS_step (fun K hK => ?_); go_simp; refine hK _ ?_; clear hK K)
  refine WS_nil ?_; go_wp2
  refine wp_still 7 (by kernel_rfl) (by kernel_rfl) ?_; simp only [List.take_succ_cons, List.take_zero, List.drop_succ_cons, List.drop_zero]; repeat (refine WS_step (fun K hK => ?_); go_simp; refine hK _ ?_; clear hK K)
  refine WS_nil ?_; go_wp2
  go_end0
  go_light
  have hn : numV 7 vb vc = 0 := by rw [eq_of_beq z1, eq_of_beq z2]; simp [numV]
  rw [hn]
  exact ⟨rfl, (by repeat (first | with_reducible exact Chg.refl _ _ | with_reducible assumption | with_reducible refine Chg.drew ?_ | with_reducible refine Chg.drewN ?_ _ | with_reducible refine Chg.alloc ?_ _ | with_reducible refine Chg.setCell ?_ (by first | with_reducible exact .inl rfl | exact .inl (.inl rfl) | exact .inl (.inr rfl) | exact .inr (by simp)) _ | (with_reducible refine Chg.trans ?_ (Chg.of (by first | with_reducible assumption | exact hF _))))), (by repeat (first | with_reducible assumption | with_reducible refine Own.drew ?_ | with_reducible refine Own.drewN ?_ _ | with_reducible refine Own.alloc ?_ _ | (with_reducible refine Own.setNum ?_ _ _ (by omega)) | (with_reducible refine Own.setOther ?_ _ (by simp; omega)) | (with_reducible refine Own.below ?_ (hF _))))⟩
end Go.Proofs.YtgpdggjpbmgegaaDoor
