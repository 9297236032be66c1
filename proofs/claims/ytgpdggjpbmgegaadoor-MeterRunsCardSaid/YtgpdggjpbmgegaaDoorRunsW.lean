/- The law MeterRuns, walked: for any module, name, arguments and fuel it returns true and writes nothing that was there. -/
import Derived.Test.YtgpdggjpbmgegaaDoorMrR
import Derived.Test.YtgpdggjpbmgegaaDoorRefM
import Derived.Test.YtgpdggjpbmgegaaDoorAwake
namespace Go.Proofs.YtgpdggjpbmgegaaDoor
open Go.RowKit
set_option linter.unusedVariables false
set_option linter.unusedSimpArgs false

def RunInv (m : PMod) (fuel : Int) (R : POut) (k : Nat) (st : Int) (s : PSt) : Prop := Inv m s ∧ 0 ≤ st ∧ st ≤ fuel ∧ fuel - st < k ∧ runP m 64 k (fuel - st) st s = R
theorem goInv_runP {m : PMod} (hm : Fine m) (h64 : ∀ k i, k < m.funcs.length → i < (fnAt m k).code.length → InsOk ((fnAt m k).code.getD i default)) (fuel : Int) (hf : 0 ≤ fuel ∧ fuel ≤ 1099511627776) (R : POut) : GoInv m 64 fuel R (RunInv m fuel R) := by
  have un : ∀ k st s, RunInv m fuel R k st s → ∃ k', k = k' + 1 ∧ 1 ≤ weightZ (insAt m s.top).op := by
    intro k st s ⟨h1, h2, h3, h4, _⟩
    exact ⟨k - 1, by omega, (h1.weight hm).1⟩
  refine ⟨fun k st s ⟨h1, h2, h3, h4, h5⟩ => ⟨h1.ok, by have := h1.deep; omega, h2, by omega⟩, fun k st s h hq => ?_, fun k st s h hq s' hd => ?_, fun k st s h hq v u mf mw hd => ?_, fun k st s h hq e hd => ?_⟩
  · obtain ⟨k', rfl, hw⟩ := un k st s h
    obtain ⟨h1, h2, h3, h4, h5⟩ := h
    unfold runP at h5
    rw [if_pos hq.2] at h5
    exact h5.symm
  · obtain ⟨k', rfl, hw⟩ := un k st s h
    obtain ⟨h1, h2, h3, h4, h5⟩ := h
    unfold runP at h5
    rw [if_neg (fun e => hq ⟨hf.1, e⟩), hd] at h5
    dsimp only at h5
    have hle : weightZ (insAt m s.top).op ≤ fuel - st := by
      by_cases e : fuel - st < weightZ (insAt m s.top).op
      · exact absurd ⟨hf.1, e⟩ hq
      · omega
    refine ⟨k', by omega, h1.step hm h64 hd, by omega, by omega, by omega, ?_⟩
    rw [show fuel - (st + weightZ (insAt m s.top).op) = fuel - st - weightZ (insAt m s.top).op by omega]
    exact h5
  · obtain ⟨k', rfl, hw⟩ := un k st s h
    obtain ⟨h1, h2, h3, h4, h5⟩ := h
    unfold runP at h5
    rw [if_neg (fun e => hq ⟨hf.1, e⟩), hd] at h5
    exact h5.symm
  · obtain ⟨k', rfl, hw⟩ := un k st s h
    obtain ⟨h1, h2, h3, h4, h5⟩ := h
    unfold runP at h5
    rw [if_neg (fun e => hq ⟨hf.1, e⟩), hd] at h5
    exact h5.symm

/-- R20.Go with fuel answers as the plain function does -/
theorem go_meter {B : Nat} {m : PMod} (he : (mayP m).e = 0) (w : World) (hB : B ≤ w.heap.size) (v : Value) (hma : ModAt B w v m) (name : ByteArray) (aa : Option Addr) (al ac : Nat) (xs : List Int) (ha : NumsAt B w aa al xs) (fuel : Int) (hf : 0 ≤ fuel ∧ fuel ≤ 1099511627776) :
    Calls Tryd.prog 11 #[v, .string name, .slice aa al ac, .int .i64 fuel, .int .i64 64] w fun e w' => e = .returned (outV (meterP m name xs fuel)) ∧ Below w.heap.size w w' := by
  have hm := fine_of he
  have h64 := hma.ins64
  have ha64 := ha.in64
  have hma0 := hma
  obtain ⟨ta, tl, tc, fa, fl, fc, rfl, _, _⟩ := hma
  have un : meterP m name xs fuel = if findZ m.funcs name < 0 then ⟨8, 0, 0, 0, 0⟩ else if fitsB (fnAt m (findZ m.funcs name).toNat).params xs = false then ⟨2, 0, 0, 0, 0⟩ else runP m 64 (fuel.toNat + 1) fuel 0 (beginP m (findZ m.funcs name).toNat xs) := by
    unfold meterP; rw [if_neg (by omega), if_neg (by simpa using he)]
  refine mGo_any hm h64 ta tl tc fa fl fc w hB hma0 name aa al ac xs ha fuel 64 (by omega) (meterP m name xs fuel) (fun h => by rw [un, if_pos h]) (fun h1 h2 => by rw [un, if_neg h1, if_pos h2]) (RunInv m fuel (meterP m name xs fuel)) (fuel.toNat + 1) (fun h1 h2 => ⟨goInv_runP hm h64 fuel hf _, ?_⟩)
  have hk : (findZ m.funcs name).toNat < m.funcs.length := by have := findZ_bd m.funcs name; omega
  refine ⟨begin_inv hm hk h2 ha64, by omega, hf.1, by omega, ?_⟩
  rw [un, if_neg h1, if_neg h2, show fuel - 0 = fuel by omega]

set_option maxRecDepth 100000 in
set_option maxHeartbeats 1500000 in
theorem runs_any (v0 : Value) (m : PMod) (w : World) (hma : ModAt w.heap.size w v0 m) (hr : RowsAt w) (name : ByteArray) (aa : Option Addr) (al ac : Nat) (xs : List Int) (ha : NumsAt w.heap.size w aa al xs) (fuel : Int) (hf64 : In64 fuel) :
    Calls Tryd.prog 4 #[v0, .string name, .slice aa al ac, .int .i64 fuel] w fun e w' => e = .returned (.bool true) ∧ Below w.heap.size w w' := by
  have hB0 := hr.1
  have HM := Lib.hid (show ∀ (w1 : World) (hb : Below w.heap.size w w1) (hf : fuel ≤ 1099511627776) (e v st mf mw : Int) (he : meterP m name xs fuel = ⟨e, v, st, mf, mw⟩),
      Calls Tryd.prog 9 #[v0, .string name, .slice aa al ac, .int .i64 fuel] w1 fun en w' => en = .returned (.agg #[.int .i64 e, .int .i64 v, .int .i64 st, .int .i64 mf, .int .i64 mw]) ∧ Below w1.heap.size w1 w' from by
    intro w1 hb hf e v1 st mf mw he
    have := meter_any (B := w1.heap.size) v0 m w1 (Nat.le_refl _) (by have := hb.size; omega) ((hma.same (Same.of' hb)).up hb.size) (hr.same (Same.of' hb) hB0 hb.size) name aa al ac xs (ha.up (Same.of' hb) hb.size) fuel hf
    rw [he] at this
    exact this)
  have HMAY := Lib.hid (show ∀ (w1 : World) (hb : Below w.heap.size w w1), _ from fun w1 hb => rmay_any w1.heap.size v0 m w1 (Nat.le_refl _) (by have := hb.size; omega) ((hma.same (Same.of' hb)).up hb.size))
  have HA := Lib.hid (show ∀ (w1 : World) (hb : Below w.heap.size w w1), Calls Tryd.prog 8 #[] w1 fun e w' => e = .returned (.bool true) ∧ Below w1.heap.size w1 w' from fun w1 hb => awake_any w1 (hr.same (Same.of' hb) hB0 hb.size))
  have HGO := Lib.hid (show ∀ (w1 : World) (hb : Below w.heap.size w w1) (he0 : (mayP m).e = 0) (h0 : 0 ≤ fuel) (hf : fuel ≤ 1099511627776) (e v st mf mw : Int) (he : meterP m name xs fuel = ⟨e, v, st, mf, mw⟩),
      Calls Tryd.prog 11 #[v0, .string name, .slice aa al ac, .int .i64 fuel, .int .i64 64] w1 fun en w' => en = .returned (.agg #[.int .i64 e, .int .i64 v, .int .i64 st, .int .i64 mf, .int .i64 mw]) ∧ Below w1.heap.size w1 w' from by
    intro w1 hb he0 h0 hf e v1 st mf mw he
    have := go_meter (B := w1.heap.size) he0 w1 (Nat.le_refl _) v0 ((hma.same (Same.of' hb)).up hb.size) name aa al ac xs (ha.up (Same.of' hb) hb.size) fuel ⟨h0, hf⟩
    rw [he] at this
    exact this)
  obtain ⟨ta, tl, tc, fa, fl, fc, rfl, _, _⟩ := hma
  clear hr ha
  unfold In64 at hf64
  by_cases hbig : 4194304 ≤ fuel
  · have d0 : decide ((4194304 : Int) ≤ fuel) = true := by simpa using hbig
    clear HM HGO HMAY
    go_enter Tryd.func4, Tryd.ntmps4
    go_wp2_with (go_at_call 8; refine (HA.out _ (by repeat (first | with_reducible exact Below.refl _ _ | with_reducible assumption | with_reducible refine Below.drew ?_ | with_reducible refine Below.drewN ?_ _ | with_reducible refine Below.alloc ?_ (by first | omega | (simp <;> omega) | (simp at * <;> omega)) _ | with_reducible refine Below.setCell ?_ (by first | omega | (simp <;> omega) | (simp at * <;> omega)) _ | (with_reducible refine Below.trans ?_ (Below.mono (by first | with_reducible assumption | exact hF _) (by first | omega | (simp <;> omega) | (simp at * <;> omega))))))).mono ?_; rintro e w1 ⟨rfl, hb1⟩)
    go_ret
    exact ⟨rfl, (by repeat (first | with_reducible exact Below.refl _ _ | with_reducible assumption | with_reducible refine Below.drew ?_ | with_reducible refine Below.drewN ?_ _ | with_reducible refine Below.alloc ?_ (by first | omega | (simp <;> omega) | (simp at * <;> omega)) _ | with_reducible refine Below.setCell ?_ (by first | omega | (simp <;> omega) | (simp at * <;> omega)) _ | (with_reducible refine Below.trans ?_ (Below.mono (by first | with_reducible assumption | exact hF _) (by first | omega | (simp <;> omega) | (simp at * <;> omega))))))⟩
  · have d0 : decide ((4194304 : Int) ≤ fuel) = false := by simpa using hbig
    by_cases hneg : fuel < 0
    · have d1 : decide (fuel < 0) = true := by simpa using hneg
      have hX : meterP m name xs fuel = ⟨1, 0, 0, 0, 0⟩ := by unfold meterP; rw [if_pos hneg]
      have HX := Lib.hid hX; clear hX HGO HMAY
      go_enter Tryd.func4, Tryd.ntmps4
      go_wp2_with (first
        | (go_at_call 8; refine (HA.out _ (by repeat (first | with_reducible exact Below.refl _ _ | with_reducible assumption | with_reducible refine Below.drew ?_ | with_reducible refine Below.drewN ?_ _ | with_reducible refine Below.alloc ?_ (by first | omega | (simp <;> omega) | (simp at * <;> omega)) _ | with_reducible refine Below.setCell ?_ (by first | omega | (simp <;> omega) | (simp at * <;> omega)) _ | (with_reducible refine Below.trans ?_ (Below.mono (by first | with_reducible assumption | exact hF _) (by first | omega | (simp <;> omega) | (simp at * <;> omega))))))).mono ?_; rintro e w1 ⟨rfl, hb1⟩; have hz1 : w.heap.size < w1.heap.size := (by have := hb1.size; simp at this; omega); have om := own2 (((Own.new w _ _).below hb1)))
        | (go_at_call 9; refine (HM.out _ (by repeat (first | with_reducible exact Below.refl _ _ | with_reducible assumption | with_reducible refine Below.drew ?_ | with_reducible refine Below.drewN ?_ _ | with_reducible refine Below.alloc ?_ (by first | omega | (simp <;> omega) | (simp at * <;> omega)) _ | with_reducible refine Below.setCell ?_ (by first | omega | (simp <;> omega) | (simp at * <;> omega)) _ | (with_reducible refine Below.trans ?_ (Below.mono (by first | with_reducible assumption | exact hF _) (by first | omega | (simp <;> omega) | (simp at * <;> omega)))))) (by omega) _ _ _ _ _ HX.out).mono ?_; rintro e w2 ⟨rfl, hb2⟩; have hz2 : w1.heap.size ≤ w2.heap.size := (by have := hb2.size; simpa using this)))
      go_ret
      exact ⟨rfl, (by repeat (first | with_reducible exact Below.refl _ _ | with_reducible assumption | with_reducible refine Below.drew ?_ | with_reducible refine Below.drewN ?_ _ | with_reducible refine Below.alloc ?_ (by first | omega | (simp <;> omega) | (simp at * <;> omega)) _ | with_reducible refine Below.setCell ?_ (by first | omega | (simp <;> omega) | (simp at * <;> omega)) _ | (with_reducible refine Below.trans ?_ (Below.mono (by first | with_reducible assumption | exact hF _) (by first | omega | (simp <;> omega) | (simp at * <;> omega))))))⟩
    · have d1 : decide (fuel < 0) = false := by simpa using hneg
      by_cases he : (mayP m).e = 0
      · have d2 : ((mayP m).e != 0) = false := by simpa using he
        obtain ⟨ae, av, ast, amf, amw, hA⟩ : ∃ e v st mf mw, meterP m name xs fuel = ⟨e, v, st, mf, mw⟩ := ⟨_, _, _, _, _, rfl⟩
        have HA1 := Lib.hid hA; clear hA
        have HE := Lib.hid he; clear he
        generalize hme : (mayP m).e = me at d2 HMAY
        generalize (mayP m).f = mef at HMAY
        generalize (mayP m).at_ = mea at HMAY
        clear hme
        go_enter Tryd.func4, Tryd.ntmps4
        go_wp2_with (first
          | (go_at_call 8; refine (HA.out _ (by repeat (first | with_reducible exact Below.refl _ _ | with_reducible assumption | with_reducible refine Below.drew ?_ | with_reducible refine Below.drewN ?_ _ | with_reducible refine Below.alloc ?_ (by first | omega | (simp <;> omega) | (simp at * <;> omega)) _ | with_reducible refine Below.setCell ?_ (by first | omega | (simp <;> omega) | (simp at * <;> omega)) _ | (with_reducible refine Below.trans ?_ (Below.mono (by first | with_reducible assumption | exact hF _) (by first | omega | (simp <;> omega) | (simp at * <;> omega))))))).mono ?_; rintro e w1 ⟨rfl, hb1⟩; have hz1 : w.heap.size < w1.heap.size := (by have := hb1.size; simp at this; omega); have om := own2 (((Own.new w _ _).below hb1)); have Om := Lib.hid (((Own.new w _ _).below hb1)))
          | (go_at_call 9; refine (HM.out _ (by repeat (first | with_reducible exact Below.refl _ _ | with_reducible assumption | with_reducible refine Below.drew ?_ | with_reducible refine Below.drewN ?_ _ | with_reducible refine Below.alloc ?_ (by first | omega | (simp <;> omega) | (simp at * <;> omega)) _ | with_reducible refine Below.setCell ?_ (by first | omega | (simp <;> omega) | (simp at * <;> omega)) _ | (with_reducible refine Below.trans ?_ (Below.mono (by first | with_reducible assumption | exact hF _) (by first | omega | (simp <;> omega) | (simp at * <;> omega)))))) (by omega) _ _ _ _ _ HA1.out).mono ?_; rintro e w2 ⟨rfl, hb2⟩; have hz2 : w1.heap.size ≤ w2.heap.size := (by have := hb2.size; simpa using this); have om2 := own2 ((Om.out.below hb2)); have Om2 := Lib.hid (Om.out.below hb2); clear om)
          | (go_at_call 10; refine (HMAY.out _ (by repeat (first | with_reducible exact Below.refl _ _ | with_reducible assumption | with_reducible refine Below.drew ?_ | with_reducible refine Below.drewN ?_ _ | with_reducible refine Below.alloc ?_ (by first | omega | (simp <;> omega) | (simp at * <;> omega)) _ | with_reducible refine Below.setCell ?_ (by first | omega | (simp <;> omega) | (simp at * <;> omega)) _ | (with_reducible refine Below.trans ?_ (Below.mono (by first | with_reducible assumption | exact hF _) (by first | omega | (simp <;> omega) | (simp at * <;> omega))))))).mono ?_; rintro e w3 ⟨rfl, hb3⟩; have hz3 : w2.heap.size < w3.heap.size := (by have := hb3.size; simp at this; omega); have om3 := own2 (((Om2.out.alloc _).below hb3)); have Om3 := Lib.hid (((Om2.out.alloc _).below hb3)); have og3 := own5 ((Own.new w2 _ _).below hb3); have Og3 := Lib.hid ((Own.new w2 [.int .i64 ae, .int .i64 av, .int .i64 ast, .int .i64 amf, .int .i64 amw] 29).below hb3); clear om2))
        generalize hW : World.alloc _ _ = W2
        have hbW : Below w.heap.size w W2 := by rw [← hW]; exact (by repeat (first | with_reducible exact Below.refl _ _ | with_reducible assumption | with_reducible refine Below.drew ?_ | with_reducible refine Below.drewN ?_ _ | with_reducible refine Below.alloc ?_ (by first | omega | (simp <;> omega) | (simp at * <;> omega)) _ | with_reducible refine Below.setCell ?_ (by first | omega | (simp <;> omega) | (simp at * <;> omega)) _ | (with_reducible refine Below.trans ?_ (Below.mono (by first | with_reducible assumption | exact hF _) (by first | omega | (simp <;> omega) | (simp at * <;> omega))))))
        have OA := Lib.hid (show Own W2 w2.heap.size [.int .i64 ae, .int .i64 av, .int .i64 ast, .int .i64 amf, .int .i64 amw] by rw [← hW]; exact Og3.out.alloc _)
        have OM := Lib.hid (show Own W2 w.heap.size [.slice ta tl tc, .slice fa fl fc] by rw [← hW]; exact Om3.out.alloc _)
        clear hW om3 og3
        have qa := own5 OA.out
        have qm := own2 OM.out
        refine wp_below_tail 7 (by kernel_rfl) (by kernel_rfl) (fun T F hF hall => ?_); simp only [List.take_succ_cons, List.take_zero, List.drop_succ_cons, List.drop_zero]; have hFc := fun t => (bcell (hF t)).1; have hFf := fun t => (bcell (hF t)).2; have hFs := fun t => (hF t).size; have hNE : Nonempty T := (hall _ (Below.refl _ _)).elim fun t _ => ⟨t⟩; repeat (refine WQ_step (fun K hK => ?_); go_simp; refine hK _ ?_; clear hK K)
        (refine WQ_step (fun K hK => ?_); go_simp; refine ⟨_, fun t => calls_family (hF t) hall (HGO.out (F t) (hbW.trans (Below.mono (hF t) hbW.size)) HE.out (by omega) (by omega) _ _ _ _ _ HA1.out), hK _ ?_⟩; clear hK K)
        repeat (refine WQ_step (fun K hK => ?_); go_simp; refine hK _ ?_; clear hK K)
        refine WQ_nil (fun t => ?_)
        have hbF := hbW.trans (Below.mono (hF t) hbW.size)
        go_wp2
        go_ret
        exact ⟨rfl, hbF⟩
      · have d2 : ((mayP m).e != 0) = true := by simpa using he
        have hX : meterP m name xs fuel = ⟨(mayP m).e, 0, 0, 0, 0⟩ := by unfold meterP; rw [if_neg hneg, if_pos he]
        have HX := Lib.hid hX; clear hX HGO he
        generalize (mayP m).e = me at d2 HMAY HX
        generalize (mayP m).f = mef at HMAY
        generalize (mayP m).at_ = mea at HMAY
        go_enter Tryd.func4, Tryd.ntmps4
        go_wp2_with (first
          | (go_at_call 8; refine (HA.out _ (by repeat (first | with_reducible exact Below.refl _ _ | with_reducible assumption | with_reducible refine Below.drew ?_ | with_reducible refine Below.drewN ?_ _ | with_reducible refine Below.alloc ?_ (by first | omega | (simp <;> omega) | (simp at * <;> omega)) _ | with_reducible refine Below.setCell ?_ (by first | omega | (simp <;> omega) | (simp at * <;> omega)) _ | (with_reducible refine Below.trans ?_ (Below.mono (by first | with_reducible assumption | exact hF _) (by first | omega | (simp <;> omega) | (simp at * <;> omega))))))).mono ?_; rintro e w1 ⟨rfl, hb1⟩; have hz1 : w.heap.size < w1.heap.size := (by have := hb1.size; simp at this; omega); have om := own2 (((Own.new w _ _).below hb1)); have Om := Lib.hid (((Own.new w _ _).below hb1)))
          | (go_at_call 9; refine (HM.out _ (by repeat (first | with_reducible exact Below.refl _ _ | with_reducible assumption | with_reducible refine Below.drew ?_ | with_reducible refine Below.drewN ?_ _ | with_reducible refine Below.alloc ?_ (by first | omega | (simp <;> omega) | (simp at * <;> omega)) _ | with_reducible refine Below.setCell ?_ (by first | omega | (simp <;> omega) | (simp at * <;> omega)) _ | (with_reducible refine Below.trans ?_ (Below.mono (by first | with_reducible assumption | exact hF _) (by first | omega | (simp <;> omega) | (simp at * <;> omega)))))) (by omega) _ _ _ _ _ HX.out).mono ?_; rintro e w2 ⟨rfl, hb2⟩; have hz2 : w1.heap.size ≤ w2.heap.size := (by have := hb2.size; simpa using this); have om2 := own2 ((Om.out.below hb2)); have Om2 := Lib.hid (Om.out.below hb2); clear om)
          | (go_at_call 10; refine (HMAY.out _ (by repeat (first | with_reducible exact Below.refl _ _ | with_reducible assumption | with_reducible refine Below.drew ?_ | with_reducible refine Below.drewN ?_ _ | with_reducible refine Below.alloc ?_ (by first | omega | (simp <;> omega) | (simp at * <;> omega)) _ | with_reducible refine Below.setCell ?_ (by first | omega | (simp <;> omega) | (simp at * <;> omega)) _ | (with_reducible refine Below.trans ?_ (Below.mono (by first | with_reducible assumption | exact hF _) (by first | omega | (simp <;> omega) | (simp at * <;> omega))))))).mono ?_; rintro e w3 ⟨rfl, hb3⟩; have hz3 : w2.heap.size < w3.heap.size := (by have := hb3.size; simp at this; omega); have og3 := own5 ((Own.new w2 _ _).below hb3)))
        go_ret
        exact ⟨rfl, (by repeat (first | with_reducible exact Below.refl _ _ | with_reducible assumption | with_reducible refine Below.drew ?_ | with_reducible refine Below.drewN ?_ _ | with_reducible refine Below.alloc ?_ (by first | omega | (simp <;> omega) | (simp at * <;> omega)) _ | with_reducible refine Below.setCell ?_ (by first | omega | (simp <;> omega) | (simp at * <;> omega)) _ | (with_reducible refine Below.trans ?_ (Below.mono (by first | with_reducible assumption | exact hF _) (by first | omega | (simp <;> omega) | (simp at * <;> omega))))))⟩
end Go.Proofs.YtgpdggjpbmgegaaDoor
