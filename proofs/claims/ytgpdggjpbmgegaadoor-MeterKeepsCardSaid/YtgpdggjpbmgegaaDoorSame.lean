/- R9.Same: modules that read alike are told the same. -/
import Derived.Test.YtgpdggjpbmgegaaDoorMay
import Derived.Test.YtgpdggjpbmgegaaDoorMach
namespace Go.Proofs.YtgpdggjpbmgegaaDoor
open Go.RowKit
set_option linter.unusedVariables false
set_option linter.unusedSimpArgs false


set_option maxRecDepth 100000 in
set_option maxHeartbeats 2000000 in
theorem sameFunc_any (B : Nat) (f : PFunc) (h1 h2 : HF) (w : World) (hB : B ≤ w.heap.size) (o1 : FuncOk B w h1 f) (o2 : FuncOk B w h2 f) :
    Calls Tryd.prog 26 #[FuncVal h1 f, FuncVal h2 f] w fun e w' => e = .returned (.bool true) ∧ Below w.heap.size w w' := by
  obtain ⟨hnm, ⟨p1, p2, pb, po, pa, ps⟩, ⟨c1, c2, cb, co, ca, cs⟩, _, _⟩ := o1
  obtain ⟨_, ⟨p1', _, pb', po', pa', ps'⟩, ⟨c1', _, cb', co', ca', cs'⟩, _, _⟩ := o2
  obtain ⟨xa, xl, xc, ya, yl, yc⟩ := h1
  obtain ⟨xa', xl', xc', ya', yl', yc'⟩ := h2
  dsimp only at *
  obtain rfl : xl = xl' := by omega
  obtain rfl : yl = yl' := by omega
  have Ps := Lib.hid ps; clear ps
  have Ps' := Lib.hid ps'; clear ps'
  have Cs := Lib.hid cs; clear cs
  have Cs' := Lib.hid cs'; clear cs'
  subst p1 c1
  clear p1' c1'
  unfold maxLen at p2 c2
  unfold FuncVal
  dsimp only
  generalize f.name = nm at *
  generalize f.regs = R at *
  generalize f.words = Wd at *
  go_enter Tryd.func26, Tryd.ntmps26
  go_wp2
  generalize hW0 : World.alloc _ _ = W0
  have hb0 : Below w.heap.size w W0 := by rw [← hW0]; exact (by repeat (first | with_reducible exact Below.refl _ _ | with_reducible assumption | with_reducible refine Below.drew ?_ | with_reducible refine Below.drewN ?_ _ | with_reducible refine Below.alloc ?_ (by first | omega | (simp <;> omega) | (simp at * <;> omega)) _ | with_reducible refine Below.setCell ?_ (by first | omega | (simp <;> omega) | (simp at * <;> omega)) _ | (with_reducible refine Below.trans ?_ (Below.mono (by first | with_reducible assumption | exact hF _) (by first | omega | (simp <;> omega) | (simp at * <;> omega))))))
  have O1 := Lib.hid (show Own W0 w.heap.size [.string nm, .slice xa f.params.length xc, .int .i64 R, .int .i64 Wd, .slice ya f.code.length yc] by rw [← hW0]; exact (Own.new _ _ _).alloc _)
  have O2 := Lib.hid (show Own W0 (w.heap.size + 1) [.string nm, .slice xa' f.params.length xc', .int .i64 R, .int .i64 Wd, .slice ya' f.code.length yc'] by rw [← hW0]; exact Own.new' _ _ _ _ (by simp))
  clear hW0
  have hz0 := O2.out.1
  go_loopw [5] (fun i wr => ∃ k : Nat, k ≤ f.params.length ∧ i = .int .i64 k ∧ Below W0.heap.size W0 wr) (fun i _ => f.params.length - (intOf i).toNat)
  case atStart => exact ⟨0, Nat.zero_le _, rfl, Below.refl _ _⟩
  case round =>
    obtain ⟨k, hk, rfl, hbel⟩ := hrel
    have hz := hbel.size
    have oa := own5 (O1.out.below hbel)
    have ob := own5 (O2.out.below hbel)
    by_cases hlt : k < f.params.length
    · have d2 : (k : Int) < (f.params.length : Int) := by omega
      obtain ⟨rfl, hpb⟩ := pa (by omega)
      obtain ⟨rfl, hpb'⟩ := pa' (by omega)
      obtain ⟨s0, s1, _⟩ := Ps.out k hlt
      obtain ⟨t0, t1, _⟩ := Ps'.out k hlt
      have hc := (bcell (hb0.trans (Below.mono hbel (by omega)))).1
      have u0 := (hc pb _ (by omega)).trans s0
      have u1 := (hc pb _ (by omega)).trans s1
      have v0 := (hc pb' _ (by omega)).trans t0
      have v1 := (hc pb' _ (by omega)).trans t1
      have hpw : pb < wr.heap.size ∧ pb' < wr.heap.size := by omega
      generalize f.params.getD k default = sp at *
      clear hc s0 s1 t0 t1
      have hwk : IntKind.i64.wrap ((k : Int) + 1) = (k : Int) + 1 := IntWalk.i64_in _ (by omega)
      have hwk0 : IntKind.i64.wrap (k : Int) = (k : Int) := IntWalk.i64_in _ (by omega)
      go_wp2
      refine wp_still 10 (by kernel_rfl) (by kernel_rfl) ?_; simp only [List.take_succ_cons, List.take_zero, List.drop_succ_cons, List.drop_zero]; repeat (refine WS_step (fun K hK => ?_); go_simp; refine hK _ ?_; clear hK K)
      refine WS_nil ?_; go_wp2
      go_roundw
      case rel => exact ⟨k + 1, by omega, by simp, (by repeat (first | with_reducible exact Below.refl _ _ | with_reducible assumption | with_reducible refine Below.drew ?_ | with_reducible refine Below.drewN ?_ _ | with_reducible refine Below.alloc ?_ (by first | omega | (simp <;> omega) | (simp at * <;> omega)) _ | with_reducible refine Below.setCell ?_ (by first | omega | (simp <;> omega) | (simp at * <;> omega)) _ | (with_reducible refine Below.trans ?_ (Below.mono (by first | with_reducible assumption | exact hF _) (by first | omega | (simp <;> omega) | (simp at * <;> omega))))))⟩
      case measure => go_light; first | omega | (simp only [intOf]; omega)
    · have d2 : ¬ (k : Int) < (f.params.length : Int) := by omega
      go_wp2
      obtain ⟨wA, rfl⟩ : ∃ wo : World, wo = wr := ⟨_, rfl⟩
      go_loopw [6] (fun i wr => ∃ k : Nat, k ≤ f.code.length ∧ i = .int .i64 k ∧ Below wA.heap.size wA wr) (fun i _ => f.code.length - (intOf i).toNat)
      case atStart => exact ⟨0, Nat.zero_le _, rfl, Below.refl _ _⟩
      case round =>
        obtain ⟨j, hj, rfl, hbelj⟩ := hrel
        have hzj := hbelj.size
        have oa := own5 ((O1.out.below hbel).below hbelj)
        have ob := own5 ((O2.out.below hbel).below hbelj)
        by_cases hlj : j < f.code.length
        · have d3 : (j : Int) < (f.code.length : Int) := by omega
          obtain ⟨rfl, hcb⟩ := ca (by omega)
          obtain ⟨rfl, hcb'⟩ := ca' (by omega)
          obtain ⟨⟨s0, s1, s2, s3, s4⟩, _⟩ := Cs.out j hlj
          obtain ⟨⟨t0, t1, t2, t3, t4⟩, _⟩ := Cs'.out j hlj
          have hc := (bcell (hb0.trans (Below.mono (hbel.trans (Below.mono hbelj (by omega))) (by omega)))).1
          have u0 := (hc cb _ (by omega)).trans s0
          have u1 := (hc cb _ (by omega)).trans s1
          have u2 := (hc cb _ (by omega)).trans s2
          have u3 := (hc cb _ (by omega)).trans s3
          have u4 := (hc cb _ (by omega)).trans s4
          have v0 := (hc cb' _ (by omega)).trans t0
          have v1 := (hc cb' _ (by omega)).trans t1
          have v2 := (hc cb' _ (by omega)).trans t2
          have v3 := (hc cb' _ (by omega)).trans t3
          have v4 := (hc cb' _ (by omega)).trans t4
          have hpw : cb < wr.heap.size ∧ cb' < wr.heap.size := by omega
          generalize f.code.getD j default = sp at *
          clear hc s0 s1 s2 s3 s4 t0 t1 t2 t3 t4
          have hwk : IntKind.i64.wrap ((j : Int) + 1) = (j : Int) + 1 := IntWalk.i64_in _ (by omega)
          have hwk0 : IntKind.i64.wrap (j : Int) = (j : Int) := IntWalk.i64_in _ (by omega)
          go_wp2
          refine wp_still 10 (by kernel_rfl) (by kernel_rfl) ?_; simp only [List.take_succ_cons, List.take_zero, List.drop_succ_cons, List.drop_zero]; repeat (refine WS_step (fun K hK => ?_); go_simp; refine hK _ ?_; clear hK K)
          refine WS_nil ?_; go_wp2
          go_roundw
          case rel => exact ⟨j + 1, by omega, by simp, (by repeat (first | with_reducible exact Below.refl _ _ | with_reducible assumption | with_reducible refine Below.drew ?_ | with_reducible refine Below.drewN ?_ _ | with_reducible refine Below.alloc ?_ (by first | omega | (simp <;> omega) | (simp at * <;> omega)) _ | with_reducible refine Below.setCell ?_ (by first | omega | (simp <;> omega) | (simp at * <;> omega)) _ | (with_reducible refine Below.trans ?_ (Below.mono (by first | with_reducible assumption | exact hF _) (by first | omega | (simp <;> omega) | (simp at * <;> omega))))))⟩
          case measure => go_light; first | omega | (simp only [intOf]; omega)
        · have d3 : ¬ (j : Int) < (f.code.length : Int) := by omega
          go_wp2
          go_ret
          exact ⟨rfl, hb0.trans (Below.mono (hbel.trans (Below.mono hbelj (by omega))) (by omega))⟩

set_option maxRecDepth 100000 in
set_option maxHeartbeats 2000000 in
theorem same_any (B : Nat) (m : PMod) (v1 v2 : Value) (w : World) (hB : B ≤ w.heap.size) (o1 : ModAt B w v1 m) (o2 : ModAt B w v2 m) :
    Calls Tryd.prog 14 #[v1, v2] w fun e w' => e = .returned (.bool true) ∧ Below w.heap.size w w' := by
  obtain ⟨ta, tl, tc, fa, fl, fc, rfl, ⟨p1, p2, pb, po, pa, ps⟩, ⟨c1, c2, cb, co, ca, H, cs⟩⟩ := o1
  obtain ⟨ta', tl', tc', fa', fl', fc', rfl, ⟨p1', _, pb', po', pa', ps'⟩, ⟨c1', _, cb', co', ca', H', cs'⟩⟩ := o2
  obtain rfl : tl = tl' := by omega
  obtain rfl : fl = fl' := by omega
  have Ps := Lib.hid ps; clear ps
  have Ps' := Lib.hid ps'; clear ps'
  have Cs := Lib.hid cs; clear cs
  have Cs' := Lib.hid cs'; clear cs'
  subst p1 c1
  clear p1' c1'
  unfold maxLen at p2 c2
  go_enter Tryd.func14, Tryd.ntmps14
  go_wp2
  generalize hW0 : World.alloc _ _ = W0
  have hb0 : Below w.heap.size w W0 := by rw [← hW0]; exact (by repeat (first | with_reducible exact Below.refl _ _ | with_reducible assumption | with_reducible refine Below.drew ?_ | with_reducible refine Below.drewN ?_ _ | with_reducible refine Below.alloc ?_ (by first | omega | (simp <;> omega) | (simp at * <;> omega)) _ | with_reducible refine Below.setCell ?_ (by first | omega | (simp <;> omega) | (simp at * <;> omega)) _ | (with_reducible refine Below.trans ?_ (Below.mono (by first | with_reducible assumption | exact hF _) (by first | omega | (simp <;> omega) | (simp at * <;> omega))))))
  have O1 := Lib.hid (show Own W0 w.heap.size [.slice ta m.thr.length tc, .slice fa m.funcs.length fc] by rw [← hW0]; exact (Own.new _ _ _).alloc _)
  have O2 := Lib.hid (show Own W0 (w.heap.size + 1) [.slice ta' m.thr.length tc', .slice fa' m.funcs.length fc'] by rw [← hW0]; exact Own.new' _ _ _ _ (by simp))
  clear hW0
  have hz0 := O2.out.1
  go_loopw [5] (fun i wr => ∃ k : Nat, k ≤ m.thr.length ∧ i = .int .i64 k ∧ Below W0.heap.size W0 wr) (fun i _ => m.thr.length - (intOf i).toNat)
  case atStart => exact ⟨0, Nat.zero_le _, rfl, Below.refl _ _⟩
  case round =>
    obtain ⟨k, hk, rfl, hbel⟩ := hrel
    have hz := hbel.size
    have oa := own2 (O1.out.below hbel)
    have ob := own2 (O2.out.below hbel)
    by_cases hlt : k < m.thr.length
    · have d2 : (k : Int) < (m.thr.length : Int) := by omega
      obtain ⟨rfl, hpb⟩ := pa (by omega)
      obtain ⟨rfl, hpb'⟩ := pa' (by omega)
      obtain ⟨s0, _⟩ := Ps.out k hlt
      obtain ⟨t0, _⟩ := Ps'.out k hlt
      have hc := (bcell (hb0.trans (Below.mono hbel (by omega)))).1
      have u0 := (hc pb _ (by omega)).trans s0
      have v0 := (hc pb' _ (by omega)).trans t0
      have hpw : pb < wr.heap.size ∧ pb' < wr.heap.size := by omega
      generalize m.thr.getD k 0 = sp at *
      clear hc s0 t0
      have hwk : IntKind.i64.wrap ((k : Int) + 1) = (k : Int) + 1 := IntWalk.i64_in _ (by omega)
      have hwk0 : IntKind.i64.wrap (k : Int) = (k : Int) := IntWalk.i64_in _ (by omega)
      go_wp2
      refine wp_still 10 (by kernel_rfl) (by kernel_rfl) ?_; simp only [List.take_succ_cons, List.take_zero, List.drop_succ_cons, List.drop_zero]; repeat (refine WS_step (fun K hK => ?_); go_simp; refine hK _ ?_; clear hK K)
      refine WS_nil ?_; go_wp2
      go_roundw
      case rel => exact ⟨k + 1, by omega, by simp, (by repeat (first | with_reducible exact Below.refl _ _ | with_reducible assumption | with_reducible refine Below.drew ?_ | with_reducible refine Below.drewN ?_ _ | with_reducible refine Below.alloc ?_ (by first | omega | (simp <;> omega) | (simp at * <;> omega)) _ | with_reducible refine Below.setCell ?_ (by first | omega | (simp <;> omega) | (simp at * <;> omega)) _ | (with_reducible refine Below.trans ?_ (Below.mono (by first | with_reducible assumption | exact hF _) (by first | omega | (simp <;> omega) | (simp at * <;> omega))))))⟩
      case measure => go_light; first | omega | (simp only [intOf]; omega)
    · have d2 : ¬ (k : Int) < (m.thr.length : Int) := by omega
      go_wp2
      obtain ⟨wA, rfl⟩ : ∃ wo : World, wo = wr := ⟨_, rfl⟩
      go_loopw [6] (fun i wr => ∃ k : Nat, k ≤ m.funcs.length ∧ i = .int .i64 k ∧ Below wA.heap.size wA wr) (fun i _ => m.funcs.length - (intOf i).toNat)
      case atStart => exact ⟨0, Nat.zero_le _, rfl, Below.refl _ _⟩
      case round =>
        obtain ⟨j, hj, rfl, hbelj⟩ := hrel
        have hzj := hbelj.size
        have oa := own2 ((O1.out.below hbel).below hbelj)
        have ob := own2 ((O2.out.below hbel).below hbelj)
        by_cases hlj : j < m.funcs.length
        · have d3 : (j : Int) < (m.funcs.length : Int) := by omega
          obtain ⟨rfl, hcb⟩ := ca (by omega)
          obtain ⟨rfl, hcb'⟩ := ca' (by omega)
          have hbw := hb0.trans (Below.mono (hbel.trans (Below.mono hbelj (by omega))) (by omega))
          have sm : Same B w wr := Same.of hbw hB
          obtain ⟨⟨s0, s1, s2, s3, s4⟩, ok⟩ := Cs.out j hlj
          obtain ⟨⟨t0, t1, t2, t3, t4⟩, ok'⟩ := Cs'.out j hlj
          have hc := (bcell hbw).1
          have u0 := (hc cb _ (by omega)).trans s0
          have u1 := (hc cb _ (by omega)).trans s1
          have u2 := (hc cb _ (by omega)).trans s2
          have u3 := (hc cb _ (by omega)).trans s3
          have u4 := (hc cb _ (by omega)).trans s4
          have v0 := (hc cb' _ (by omega)).trans t0
          have v1 := (hc cb' _ (by omega)).trans t1
          have v2 := (hc cb' _ (by omega)).trans t2
          have v3 := (hc cb' _ (by omega)).trans t3
          have v4 := (hc cb' _ (by omega)).trans t4
          have hpw : cb < wr.heap.size ∧ cb' < wr.heap.size := by omega
          have hcall := fun w1 h0 (hs : Same B w w1) => sameFunc_any B (m.funcs.getD j default) (H j) (H' j) w1 h0 (ok.same hs) (ok'.same hs)
          have HC := Lib.hid hcall; clear hcall
          clear hc s0 s1 s2 s3 s4 t0 t1 t2 t3 t4 ok ok'
          unfold FuncVal at HC
          generalize m.funcs.getD j default = ff at *
          generalize H j = ha at *
          generalize H' j = hb at *
          have hwk : IntKind.i64.wrap ((j : Int) + 1) = (j : Int) + 1 := IntWalk.i64_in _ (by omega)
          have hwk0 : IntKind.i64.wrap (j : Int) = (j : Int) := IntWalk.i64_in _ (by omega)
          go_wp2
          refine wp_still 10 (by kernel_rfl) (by kernel_rfl) ?_; simp only [List.take_succ_cons, List.take_zero, List.drop_succ_cons, List.drop_zero]; repeat (refine WS_step (fun K hK => ?_); go_simp; refine hK _ ?_; clear hK K)
          refine WS_nil ?_
          go_wp2_with (go_at_call 26; refine (HC.out _ (by first | omega | (simp <;> omega) | (simp at * <;> omega)) (by repeat (first | with_reducible exact Same.refl _ _ | with_reducible assumption | with_reducible refine Same.drew ?_ | with_reducible refine Same.drewN ?_ _ | with_reducible refine Same.alloc ?_ (by first | omega | (simp <;> omega) | (simp at * <;> omega)) _ | with_reducible refine Same.setCell ?_ (by first | omega | (simp <;> omega) | (simp at * <;> omega)) _ | (with_reducible refine Same.trans ?_ (Same.of (by assumption) (by first | omega | (simp <;> omega) | (simp at * <;> omega))))))).mono ?_; rintro e w2 ⟨rfl, hb2⟩)
          go_roundw
          case rel => exact ⟨j + 1, by omega, by simp, (by repeat (first | with_reducible exact Below.refl _ _ | with_reducible assumption | with_reducible refine Below.drew ?_ | with_reducible refine Below.drewN ?_ _ | with_reducible refine Below.alloc ?_ (by first | omega | (simp <;> omega) | (simp at * <;> omega)) _ | with_reducible refine Below.setCell ?_ (by first | omega | (simp <;> omega) | (simp at * <;> omega)) _ | (with_reducible refine Below.trans ?_ (Below.mono (by first | with_reducible assumption | exact hF _) (by first | omega | (simp <;> omega) | (simp at * <;> omega))))))⟩
          case measure => go_light; first | omega | (simp only [intOf]; omega)
        · have d3 : ¬ (j : Int) < (m.funcs.length : Int) := by omega
          go_wp2
          go_ret
          exact ⟨rfl, hb0.trans (Below.mono (hbel.trans (Below.mono hbelj (by omega))) (by omega))⟩
end Go.Proofs.YtgpdggjpbmgegaaDoor
