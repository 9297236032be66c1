/- The law MeterFuel, walked: for any module, name, arguments, fuel and less it returns true and writes nothing that was there. -/
import Derived.Test.YtgpdggjpbmgegaaDoorAwake
namespace Go.Proofs.YtgpdggjpbmgegaaDoor
open Go.RowKit
set_option linter.unusedVariables false
set_option linter.unusedSimpArgs false


set_option maxRecDepth 100000 in
set_option maxHeartbeats 1500000 in
theorem fuel_any (v0 : Value) (m : PMod) (w : World) (hma : ModAt w.heap.size w v0 m) (hr : RowsAt w) (name : ByteArray) (aa : Option Addr) (al ac : Nat) (xs : List Int) (ha : NumsAt w.heap.size w aa al xs) (fuel less : Int) (hf64 : In64 fuel) (hl64 : In64 less) :
    Calls Tryd.prog 5 #[v0, .string name, .slice aa al ac, .int .i64 fuel, .int .i64 less] w fun e w' => e = .returned (.bool true) ∧ Below w.heap.size w w' := by
  have hB0 := hr.1
  have h64 := hma.ins64
  have ha64 := ha.in64
  have HM := Lib.hid (show ∀ (w1 : World) (hb : Below w.heap.size w w1) (f : Int) (hf : f ≤ 1099511627776) (e v st mf mw : Int) (he : meterP m name xs f = ⟨e, v, st, mf, mw⟩),
      Calls Tryd.prog 9 #[v0, .string name, .slice aa al ac, .int .i64 f] w1 fun en w' => en = .returned (.agg #[.int .i64 e, .int .i64 v, .int .i64 st, .int .i64 mf, .int .i64 mw]) ∧ Below w1.heap.size w1 w' from by
    intro w1 hb f hf e v1 st mf mw he
    have := meter_any (B := w1.heap.size) v0 m w1 (Nat.le_refl _) (by have := hb.size; omega) ((hma.same (Same.of' hb)).up hb.size) (hr.same (Same.of' hb) hB0 hb.size) name aa al ac xs (ha.up (Same.of' hb) hb.size) f hf
    rw [he] at this
    exact this)
  have HA := Lib.hid (show ∀ (w1 : World) (hb : Below w.heap.size w w1), Calls Tryd.prog 8 #[] w1 fun e w' => e = .returned (.bool true) ∧ Below w1.heap.size w1 w' from fun w1 hb => awake_any w1 (hr.same (Same.of' hb) hB0 hb.size))
  obtain ⟨ta, tl, tc, fa, fl, fc, rfl, _, _⟩ := hma
  clear hr ha
  unfold In64 at hf64 hl64
  by_cases hbig : 4194304 ≤ fuel
  · have d0 : decide ((4194304 : Int) ≤ fuel) = true := by simpa using hbig
    clear HM
    go_enter Tryd.func5, Tryd.ntmps5
    go_wp2_with (go_at_call 8; refine (HA.out _ (by repeat (first | with_reducible exact Below.refl _ _ | with_reducible assumption | with_reducible refine Below.drew ?_ | with_reducible refine Below.drewN ?_ _ | with_reducible refine Below.alloc ?_ (by first | omega | (simp <;> omega) | (simp at * <;> omega)) _ | with_reducible refine Below.setCell ?_ (by first | omega | (simp <;> omega) | (simp at * <;> omega)) _ | (with_reducible refine Below.trans ?_ (Below.mono (by first | with_reducible assumption | exact hF _) (by first | omega | (simp <;> omega) | (simp at * <;> omega))))))).mono ?_; rintro e w1 ⟨rfl, hb1⟩)
    go_ret
    exact ⟨rfl, (by repeat (first | with_reducible exact Below.refl _ _ | with_reducible assumption | with_reducible refine Below.drew ?_ | with_reducible refine Below.drewN ?_ _ | with_reducible refine Below.alloc ?_ (by first | omega | (simp <;> omega) | (simp at * <;> omega)) _ | with_reducible refine Below.setCell ?_ (by first | omega | (simp <;> omega) | (simp at * <;> omega)) _ | (with_reducible refine Below.trans ?_ (Below.mono (by first | with_reducible assumption | exact hF _) (by first | omega | (simp <;> omega) | (simp at * <;> omega))))))⟩
  · have d0 : decide ((4194304 : Int) ≤ fuel) = false := by simpa using hbig
    have hlaw := meterP_law m name xs fuel h64 ha64 _ rfl
    obtain ⟨ae, av, ast, amf, amw, hA⟩ : ∃ e v st mf mw, meterP m name xs fuel = ⟨e, v, st, mf, mw⟩ := ⟨_, _, _, _, _, rfl⟩
    rw [hA] at hlaw
    dsimp only at hlaw
    have HA1 := Lib.hid hA; clear hA
    obtain ⟨l0, l1⟩ := hlaw
    by_cases hz : amf = 0
    · obtain ⟨e1, e2, e3⟩ := l0 hz
      simp only [POut.mk.injEq, true_and] at e1
      obtain ⟨rfl, rfl, rfl, rfl⟩ := e1
      have d1 : (ae != 0) = true := by simpa using e2
      have d2 : (ae != 90) = true := by simpa using e3
      clear l0 l1 e2 e3
      go_enter Tryd.func5, Tryd.ntmps5
      go_wp2_with (first
        | (go_at_call 8; refine (HA.out _ (by repeat (first | with_reducible exact Below.refl _ _ | with_reducible assumption | with_reducible refine Below.drew ?_ | with_reducible refine Below.drewN ?_ _ | with_reducible refine Below.alloc ?_ (by first | omega | (simp <;> omega) | (simp at * <;> omega)) _ | with_reducible refine Below.setCell ?_ (by first | omega | (simp <;> omega) | (simp at * <;> omega)) _ | (with_reducible refine Below.trans ?_ (Below.mono (by first | with_reducible assumption | exact hF _) (by first | omega | (simp <;> omega) | (simp at * <;> omega))))))).mono ?_; rintro e w1 ⟨rfl, hb1⟩; have hz1 : w.heap.size < w1.heap.size := (by have := hb1.size; simp at this; omega); have om := own2 (((Own.new w _ _).below hb1)))
        | (go_at_call 9; refine (HM.out _ (by repeat (first | with_reducible exact Below.refl _ _ | with_reducible assumption | with_reducible refine Below.drew ?_ | with_reducible refine Below.drewN ?_ _ | with_reducible refine Below.alloc ?_ (by first | omega | (simp <;> omega) | (simp at * <;> omega)) _ | with_reducible refine Below.setCell ?_ (by first | omega | (simp <;> omega) | (simp at * <;> omega)) _ | (with_reducible refine Below.trans ?_ (Below.mono (by first | with_reducible assumption | exact hF _) (by first | omega | (simp <;> omega) | (simp at * <;> omega)))))) fuel (by omega) _ _ _ _ _ HA1.out).mono ?_; rintro e w2 ⟨rfl, hb2⟩; have hz2 : w1.heap.size ≤ w2.heap.size := (by have := hb2.size; simpa using this)))
      go_ret
      exact ⟨rfl, (by repeat (first | with_reducible exact Below.refl _ _ | with_reducible assumption | with_reducible refine Below.drew ?_ | with_reducible refine Below.drewN ?_ _ | with_reducible refine Below.alloc ?_ (by first | omega | (simp <;> omega) | (simp at * <;> omega)) _ | with_reducible refine Below.setCell ?_ (by first | omega | (simp <;> omega) | (simp at * <;> omega)) _ | (with_reducible refine Below.trans ?_ (Below.mono (by first | with_reducible assumption | exact hF _) (by first | omega | (simp <;> omega) | (simp at * <;> omega))))))⟩
    · obtain ⟨r0, r1, r2, r3, r4, r5, r6⟩ := l1 hz
      clear l0 l1
      have d1 : (amf == 0) = false := by simpa using hz
      have d2 : decide (fuel < ast) = false := by simpa using r1
      have d3 : decide (ast < 0) = false := by simpa using r0
      have d4 : decide (amf < 1) = false := by simpa using r3
      have d5 : decide (64 < amf) = false := by simpa using r4
      have hvv : ae = 0 ∨ (ae ≠ 0 ∧ av = 0) := by
        by_cases h : ae = 0
        · exact .inl h
        · exact .inr ⟨h, r2 h⟩
      have HR5 := Lib.hid r5; clear r5
      by_cases h90 : ae = 90
      · obtain rfl := r2 (by omega)
        subst h90
        clear r6 hvv hz
        go_enter Tryd.func5, Tryd.ntmps5
        go_wp2_with (first
          | (go_at_call 8; refine (HA.out _ (by repeat (first | with_reducible exact Below.refl _ _ | with_reducible assumption | with_reducible refine Below.drew ?_ | with_reducible refine Below.drewN ?_ _ | with_reducible refine Below.alloc ?_ (by first | omega | (simp <;> omega) | (simp at * <;> omega)) _ | with_reducible refine Below.setCell ?_ (by first | omega | (simp <;> omega) | (simp at * <;> omega)) _ | (with_reducible refine Below.trans ?_ (Below.mono (by first | with_reducible assumption | exact hF _) (by first | omega | (simp <;> omega) | (simp at * <;> omega))))))).mono ?_; rintro e w1 ⟨rfl, hb1⟩; have hz1 : w.heap.size < w1.heap.size := (by have := hb1.size; simp at this; omega); have om := own2 (((Own.new w _ _).below hb1)); have Om := Lib.hid (((Own.new w _ _).below hb1)))
          | (go_at_call 9; refine (HM.out _ (by repeat (first | with_reducible exact Below.refl _ _ | with_reducible assumption | with_reducible refine Below.drew ?_ | with_reducible refine Below.drewN ?_ _ | with_reducible refine Below.alloc ?_ (by first | omega | (simp <;> omega) | (simp at * <;> omega)) _ | with_reducible refine Below.setCell ?_ (by first | omega | (simp <;> omega) | (simp at * <;> omega)) _ | (with_reducible refine Below.trans ?_ (Below.mono (by first | with_reducible assumption | exact hF _) (by first | omega | (simp <;> omega) | (simp at * <;> omega)))))) fuel (by omega) _ _ _ _ _ HA1.out).mono ?_; rintro e w2 ⟨rfl, hb2⟩; have hz2 : w1.heap.size ≤ w2.heap.size := (by have := hb2.size; simpa using this); have om2 := own2 (Om.out.below hb2); clear HA1)
          | (go_at_call 9; refine (HM.out _ (by repeat (first | with_reducible exact Below.refl _ _ | with_reducible assumption | with_reducible refine Below.drew ?_ | with_reducible refine Below.drewN ?_ _ | with_reducible refine Below.alloc ?_ (by first | omega | (simp <;> omega) | (simp at * <;> omega)) _ | with_reducible refine Below.setCell ?_ (by first | omega | (simp <;> omega) | (simp at * <;> omega)) _ | (with_reducible refine Below.trans ?_ (Below.mono (by first | with_reducible assumption | exact hF _) (by first | omega | (simp <;> omega) | (simp at * <;> omega)))))) ast (by omega) _ _ _ _ _ HR5.out).mono ?_; rintro e w3 ⟨rfl, hb3⟩; have hz3 : w2.heap.size < w3.heap.size := (by have := hb3.size; simp at this; omega); have oa := own5 ((Own.new w2 _ _).below hb3); clear HR5))
        go_ret
        exact ⟨rfl, (by repeat (first | with_reducible exact Below.refl _ _ | with_reducible assumption | with_reducible refine Below.drew ?_ | with_reducible refine Below.drewN ?_ _ | with_reducible refine Below.alloc ?_ (by first | omega | (simp <;> omega) | (simp at * <;> omega)) _ | with_reducible refine Below.setCell ?_ (by first | omega | (simp <;> omega) | (simp at * <;> omega)) _ | (with_reducible refine Below.trans ?_ (Below.mono (by first | with_reducible assumption | exact hF _) (by first | omega | (simp <;> omega) | (simp at * <;> omega))))))⟩
      · have d6 : (ae == 90) = false := by simpa using h90
        obtain ⟨s0, s1⟩ := r6 h90
        have hwl : IntKind.i64.wrap (ast - 1) = ast - 1 := IntWalk.i64_in _ (by omega)
        obtain ⟨L, hL⟩ : ∃ L : Int, L = if less < 0 ∨ ast ≤ less then ast - 1 else less := ⟨_, rfl⟩
        have hL0 : 0 ≤ L ∧ L < ast := by subst hL; split <;> omega
        have hB := s1 L hL0.1 hL0.2 _ rfl
        obtain ⟨be, bv, bst, bmf, bmw, hB2⟩ : ∃ e v st mf mw, meterP m name xs L = ⟨e, v, st, mf, mw⟩ := ⟨_, _, _, _, _, rfl⟩
        rw [hB2] at hB
        dsimp only at hB
        obtain ⟨rfl, rfl, t2, t3, t4, t5⟩ := hB
        have t0 : 0 ≤ bst := by
          have := (meterP_law m name xs L h64 ha64 _ rfl).2
          rw [hB2] at this
          dsimp only at this
          by_cases hz0 : bmf = 0
          · have := (meterP_law m name xs L h64 ha64 _ rfl).1
            rw [hB2] at this
            exact absurd rfl (this hz0).2.2
          · exact (this hz0).1
        have d10 : decide (bst ≤ L) = true := by simpa using t2
        have hwl2 : IntKind.i64.wrap (L - bst) = L - bst := IntWalk.i64_in _ (by omega)
        have d11 : decide (L - bst < 8) = true := by simpa using t3
        have d12 : decide (bmf ≤ amf) = true := by simpa using t4
        have d13 : decide (bmw ≤ amw) = true := by simpa using t5
        have HB := Lib.hid hB2; clear hB2 s1 r6 hz
        have HL := Lib.hid hL; clear hL
        clear h64 ha64
        go_enter Tryd.func5, Tryd.ntmps5
        have hvv' : (ae != 0) = false ∨ ((ae != 0) = true ∧ (av != 0) = false) := by
          rcases hvv with h | ⟨h, h2⟩
          · exact .inl (by simp [h])
          · exact .inr ⟨by simpa using h, by simp [h2]⟩
        clear hvv
        go_wp2_with (first
          | (go_at_call 8; refine (HA.out _ (by repeat (first | with_reducible exact Below.refl _ _ | with_reducible assumption | with_reducible refine Below.drew ?_ | with_reducible refine Below.drewN ?_ _ | with_reducible refine Below.alloc ?_ (by first | omega | (simp <;> omega) | (simp at * <;> omega)) _ | with_reducible refine Below.setCell ?_ (by first | omega | (simp <;> omega) | (simp at * <;> omega)) _ | (with_reducible refine Below.trans ?_ (Below.mono (by first | with_reducible assumption | exact hF _) (by first | omega | (simp <;> omega) | (simp at * <;> omega))))))).mono ?_; rintro e w1 ⟨rfl, hb1⟩; have hz1 : w.heap.size < w1.heap.size := (by have := hb1.size; simp at this; omega); have om := own2 (((Own.new w _ _).below hb1)); have Om := Lib.hid (((Own.new w _ _).below hb1)))
          | (go_at_call 9; refine (HM.out _ (by repeat (first | with_reducible exact Below.refl _ _ | with_reducible assumption | with_reducible refine Below.drew ?_ | with_reducible refine Below.drewN ?_ _ | with_reducible refine Below.alloc ?_ (by first | omega | (simp <;> omega) | (simp at * <;> omega)) _ | with_reducible refine Below.setCell ?_ (by first | omega | (simp <;> omega) | (simp at * <;> omega)) _ | (with_reducible refine Below.trans ?_ (Below.mono (by first | with_reducible assumption | exact hF _) (by first | omega | (simp <;> omega) | (simp at * <;> omega)))))) fuel (by omega) _ _ _ _ _ HA1.out).mono ?_; rintro e w2 ⟨rfl, hb2⟩; have hz2 : w1.heap.size ≤ w2.heap.size := (by have := hb2.size; simpa using this); clear HA1; rcases hvv' with hv | hv))
        all_goals
          generalize hW : World.alloc _ _ = W2
          have hbW : Below w.heap.size w W2 := by rw [← hW]; exact (by repeat (first | with_reducible exact Below.refl _ _ | with_reducible assumption | with_reducible refine Below.drew ?_ | with_reducible refine Below.drewN ?_ _ | with_reducible refine Below.alloc ?_ (by first | omega | (simp <;> omega) | (simp at * <;> omega)) _ | with_reducible refine Below.setCell ?_ (by first | omega | (simp <;> omega) | (simp at * <;> omega)) _ | (with_reducible refine Below.trans ?_ (Below.mono (by first | with_reducible assumption | exact hF _) (by first | omega | (simp <;> omega) | (simp at * <;> omega))))))
          have OA := Lib.hid (show Own W2 w2.heap.size [.int .i64 ae, .int .i64 av, .int .i64 ast, .int .i64 amf, .int .i64 amw] by rw [← hW]; exact Own.new w2 _ _)
          have OM := Lib.hid (show Own W2 w.heap.size [.slice ta tl tc, .slice fa fl fc] by rw [← hW]; exact (Om.out.below hb2).alloc _)
          clear hW
          have qa := own5 OA.out
          have qm := own2 OM.out
          refine wp_below_tail 7 (by kernel_rfl) (by kernel_rfl) (fun T F hF hall => ?_); simp only [List.take_succ_cons, List.take_zero, List.drop_succ_cons, List.drop_zero]; have hFc := fun t => (bcell (hF t)).1; have hFf := fun t => (bcell (hF t)).2; have hFs := fun t => (hF t).size; have hNE : Nonempty T := (hall _ (Below.refl _ _)).elim fun t _ => ⟨t⟩; repeat (refine WQ_step (fun K hK => ?_); go_simp; refine hK _ ?_; clear hK K)
          (refine WQ_step (fun K hK => ?_); go_simp; refine ⟨_, fun t => calls_family (hF t) hall (HM.out (F t) (hbW.trans (Below.mono (hF t) hbW.size)) ast (by omega) _ _ _ _ _ HR5.out), hK _ ?_⟩; clear hK K)
          repeat (refine WQ_step (fun K hK => ?_); go_simp; refine hK _ ?_; clear hK K)
          refine WQ_nil (fun t => ?_)
          have hbF := hbW.trans (Below.mono (hF t) hbW.size)
          have OAF := Lib.hid (OA.out.below (hF t))
          have OMF := Lib.hid (OM.out.below (hF t))
          generalize F t = W3 at *
          clear hFc hFf hFs
          have qa3 := own5 OAF.out
          have qm3 := own2 OMF.out
          clear qa qm
          go_wp2_with fail
          all_goals
            have hh := HL.out
            split at hh
          all_goals first
            | (exfalso; omega)
            | subst hh
          all_goals
            refine (HM.out W3 hbF _ (by omega) _ _ _ _ _ HB.out).mono ?_
            rintro e w4 ⟨rfl, hb4⟩
            have oa4 := own5 (OAF.out.below hb4)
            have hz4 : w2.heap.size < w4.heap.size := by have := hb4.size; have := OAF.out.1; omega
            have hbG := hbF.trans (Below.mono hb4 hbF.size)
            go_wp2
            go_ret
            exact ⟨rfl, (by repeat (first | with_reducible exact Below.refl _ _ | with_reducible assumption | with_reducible refine Below.drew ?_ | with_reducible refine Below.drewN ?_ _ | with_reducible refine Below.alloc ?_ (by first | omega | (simp <;> omega) | (simp at * <;> omega)) _ | with_reducible refine Below.setCell ?_ (by first | omega | (simp <;> omega) | (simp at * <;> omega)) _ | (with_reducible refine Below.trans ?_ (Below.mono (by first | with_reducible assumption | exact hF _) (by first | omega | (simp <;> omega) | (simp at * <;> omega))))))⟩
end Go.Proofs.YtgpdggjpbmgegaaDoor
