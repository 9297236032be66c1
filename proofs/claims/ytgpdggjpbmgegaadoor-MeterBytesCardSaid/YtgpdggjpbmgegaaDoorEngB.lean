import Derived.Test.YtgpdggjpbmgegaaDoorEngA
namespace Go.Proofs.YtgpdggjpbmgegaaDoor
open Go.RowKit
set_option linter.unusedVariables false
set_option linter.unusedSimpArgs false


set_option maxRecDepth 100000 in
set_option maxHeartbeats 1000000 in
theorem less_yes (eb fb rb : Nat) (p wv : Value) (at_ into : Int) (regs : List Int) (w : World) (hf : Own w fb [p, .int .i64 at_, .int .i64 into, .slice (some ⟨rb, 0, none⟩) regs.length regs.length, wv]) (hr : Own w rb (Nums regs)) (hm : regs.length ≤ 64) (n va vb vc : Int) (a b c : Nat) (ha : regs[a]? = some va) (hb : regs[b]? = some vb) (hc : regs[c]? = some vc) (hv : vb < vc) :
    Calls Tryd.prog 66 #[.pointer (some ⟨eb, 0, none⟩), .pointer (some ⟨fb, 0, none⟩), InsVal ⟨8, a, b, c, n⟩] w fun e w' => e = .returned (.tuple #[]) ∧ Chg (· = rb) w w' ∧ Own w' rb (Nums (regs.set a (truthZ true))) := by
  unfold InsVal
  dsimp only
  have f5 := own5 hf
  have r1 := fun i => hr.2.2 i
  have r2 := hr.1
  have hff : fb < w.heap.size := hf.1
  have la := some_lt ha
  have lb := some_lt hb
  have lc := some_lt hc
  have r0 := hr.num ha
  have r3 := hr.num hb
  have r4 := hr.num hc
  have hv1 : decide (vb < vc) = true := by simpa using hv
  go_enter Tryd.func66, Tryd.ntmps66
  go_wp2
  refine wp_still 17 (by kernel_rfl) (by kernel_rfl) ?_; simp only [List.take_succ_cons, List.take_zero, List.drop_succ_cons, List.drop_zero]; repeat (refine WS_step (fun K hK => ?_); go_simp; refine hK _ ?_; clear hK K)
  refine WS_nil ?_; go_wp2
  refine wp_still 25 (by kernel_rfl) (by kernel_rfl) ?_; simp only [List.take_succ_cons, List.take_zero, List.drop_succ_cons, List.drop_zero]; repeat (refine WS_step (fun K hK => ?_); go_simp; refine hK _ ?_; clear hK K)
  refine WS_step (fun K hK => ?_); go_simp; refine ⟨_, ((truth_any _ _).mono fun e w' h => ⟨h.1, h.2.symm⟩), hK _ ?_⟩; clear hK K; repeat (refine WS_step (fun K hK => ?_); go_simp; refine hK _ ?_; clear hK K)
  refine WS_nil ?_; go_wp2
  go_end0
  go_light
  exact ⟨rfl, (by repeat (first | with_reducible exact Chg.refl _ _ | with_reducible assumption | with_reducible refine Chg.drew ?_ | with_reducible refine Chg.drewN ?_ _ | with_reducible refine Chg.alloc ?_ _ | with_reducible refine Chg.setCell ?_ (by first | with_reducible exact .inl rfl | exact .inl (.inl rfl) | exact .inl (.inr rfl) | exact .inr (by simp)) _ | (with_reducible refine Chg.trans ?_ (Chg.of (by first | with_reducible assumption | exact hF _))))), (by repeat (first | with_reducible assumption | with_reducible refine Own.drew ?_ | with_reducible refine Own.drewN ?_ _ | with_reducible refine Own.alloc ?_ _ | (with_reducible refine Own.setNum ?_ _ _ (by omega)) | (with_reducible refine Own.setOther ?_ _ (by simp; omega)) | (with_reducible refine Own.below ?_ (hF _))))⟩

set_option maxRecDepth 100000 in
set_option maxHeartbeats 1000000 in
theorem less_no (eb fb rb : Nat) (p wv : Value) (at_ into : Int) (regs : List Int) (w : World) (hf : Own w fb [p, .int .i64 at_, .int .i64 into, .slice (some ⟨rb, 0, none⟩) regs.length regs.length, wv]) (hr : Own w rb (Nums regs)) (hm : regs.length ≤ 64) (n va vb vc : Int) (a b c : Nat) (ha : regs[a]? = some va) (hb : regs[b]? = some vb) (hc : regs[c]? = some vc) (hv : ¬ vb < vc) :
    Calls Tryd.prog 66 #[.pointer (some ⟨eb, 0, none⟩), .pointer (some ⟨fb, 0, none⟩), InsVal ⟨8, a, b, c, n⟩] w fun e w' => e = .returned (.tuple #[]) ∧ Chg (· = rb) w w' ∧ Own w' rb (Nums (regs.set a (truthZ false))) := by
  unfold InsVal
  dsimp only
  have f5 := own5 hf
  have r1 := fun i => hr.2.2 i
  have r2 := hr.1
  have hff : fb < w.heap.size := hf.1
  have la := some_lt ha
  have lb := some_lt hb
  have lc := some_lt hc
  have r0 := hr.num ha
  have r3 := hr.num hb
  have r4 := hr.num hc
  have hv1 : decide (vb < vc) = false := by simpa using hv
  go_enter Tryd.func66, Tryd.ntmps66
  go_wp2
  refine wp_still 17 (by kernel_rfl) (by kernel_rfl) ?_; simp only [List.take_succ_cons, List.take_zero, List.drop_succ_cons, List.drop_zero]; repeat (refine WS_step (fun K hK => ?_); go_simp; refine hK _ ?_; clear hK K)
  refine WS_nil ?_; go_wp2
  refine wp_still 25 (by kernel_rfl) (by kernel_rfl) ?_; simp only [List.take_succ_cons, List.take_zero, List.drop_succ_cons, List.drop_zero]; repeat (refine WS_step (fun K hK => ?_); go_simp; refine hK _ ?_; clear hK K)
  refine WS_step (fun K hK => ?_); go_simp; refine ⟨_, ((truth_any _ _).mono fun e w' h => ⟨h.1, h.2.symm⟩), hK _ ?_⟩; clear hK K; repeat (refine WS_step (fun K hK => ?_); go_simp; refine hK _ ?_; clear hK K)
  refine WS_nil ?_; go_wp2
  go_end0
  go_light
  exact ⟨rfl, (by repeat (first | with_reducible exact Chg.refl _ _ | with_reducible assumption | with_reducible refine Chg.drew ?_ | with_reducible refine Chg.drewN ?_ _ | with_reducible refine Chg.alloc ?_ _ | with_reducible refine Chg.setCell ?_ (by first | with_reducible exact .inl rfl | exact .inl (.inl rfl) | exact .inl (.inr rfl) | exact .inr (by simp)) _ | (with_reducible refine Chg.trans ?_ (Chg.of (by first | with_reducible assumption | exact hF _))))), (by repeat (first | with_reducible assumption | with_reducible refine Own.drew ?_ | with_reducible refine Own.drewN ?_ _ | with_reducible refine Own.alloc ?_ _ | (with_reducible refine Own.setNum ?_ _ _ (by omega)) | (with_reducible refine Own.setOther ?_ _ (by simp; omega)) | (with_reducible refine Own.below ?_ (hF _))))⟩

set_option maxRecDepth 100000 in
set_option maxHeartbeats 1000000 in
theorem equal_any (eb fb rb : Nat) (p wv : Value) (at_ into : Int) (regs : List Int) (w : World) (hf : Own w fb [p, .int .i64 at_, .int .i64 into, .slice (some ⟨rb, 0, none⟩) regs.length regs.length, wv]) (hr : Own w rb (Nums regs)) (hm : regs.length ≤ 64) (n va vb vc : Int) (a b c : Nat) (ha : regs[a]? = some va) (hb : regs[b]? = some vb) (hc : regs[c]? = some vc) :
    Calls Tryd.prog 66 #[.pointer (some ⟨eb, 0, none⟩), .pointer (some ⟨fb, 0, none⟩), InsVal ⟨9, a, b, c, n⟩] w fun e w' => e = .returned (.tuple #[]) ∧ Chg (· = rb) w w' ∧ Own w' rb (Nums (regs.set a (truthZ (vb == vc)))) := by
  unfold InsVal
  dsimp only
  have f5 := own5 hf
  have r1 := fun i => hr.2.2 i
  have r2 := hr.1
  have hff : fb < w.heap.size := hf.1
  have la := some_lt ha
  have lb := some_lt hb
  have lc := some_lt hc
  have r0 := hr.num ha
  have r3 := hr.num hb
  have r4 := hr.num hc
  skip
  go_enter Tryd.func66, Tryd.ntmps66
  go_wp2
  refine wp_still 17 (by kernel_rfl) (by kernel_rfl) ?_; simp only [List.take_succ_cons, List.take_zero, List.drop_succ_cons, List.drop_zero]; repeat (refine WS_step (fun K hK => ?_); go_simp; refine hK _ ?_; clear hK K)
  refine WS_nil ?_; go_wp2
  refine wp_still 25 (by kernel_rfl) (by kernel_rfl) ?_; simp only [List.take_succ_cons, List.take_zero, List.drop_succ_cons, List.drop_zero]; repeat (refine WS_step (fun K hK => ?_); go_simp; refine hK _ ?_; clear hK K)
  refine WS_step (fun K hK => ?_); go_simp; refine ⟨_, ((truth_any _ _).mono fun e w' h => ⟨h.1, h.2.symm⟩), hK _ ?_⟩; clear hK K; repeat (refine WS_step (fun K hK => ?_); go_simp; refine hK _ ?_; clear hK K)
  refine WS_nil ?_; go_wp2
  go_end0
  go_light
  exact ⟨rfl, (by repeat (first | with_reducible exact Chg.refl _ _ | with_reducible assumption | with_reducible refine Chg.drew ?_ | with_reducible refine Chg.drewN ?_ _ | with_reducible refine Chg.alloc ?_ _ | with_reducible refine Chg.setCell ?_ (by first | with_reducible exact .inl rfl | exact .inl (.inl rfl) | exact .inl (.inr rfl) | exact .inr (by simp)) _ | (with_reducible refine Chg.trans ?_ (Chg.of (by first | with_reducible assumption | exact hF _))))), (by repeat (first | with_reducible assumption | with_reducible refine Own.drew ?_ | with_reducible refine Own.drewN ?_ _ | with_reducible refine Own.alloc ?_ _ | (with_reducible refine Own.setNum ?_ _ _ (by omega)) | (with_reducible refine Own.setOther ?_ _ (by simp; omega)) | (with_reducible refine Own.below ?_ (hF _))))⟩
end Go.Proofs.YtgpdggjpbmgegaaDoor
