/- The metered run: its loop, and its deferred end. -/
import Derived.Test.YtgpdggjpbmgegaaDoorBegin
import Derived.Test.YtgpdggjpbmgegaaDoorStop
namespace Go.Proofs.YtgpdggjpbmgegaaDoor
open Go.RowKit
set_option linter.unusedVariables false
set_option linter.unusedSimpArgs false


/-- what is true at the loop's head: a run is under way, or has come to its end -/
def RunRel (B : Nat) (w : World) (m : PMod) (eb cb : Nat) (R : POut) (L0 : Int) (k : Nat) (wr : World) : Prop :=
  Below B w wr ∧ ((∃ g s i left, k = left.toNat + 1 ∧ 0 ≤ left ∧ left ≤ L0 ∧ i.eb = eb ∧ g.kept = [(cb, ptrV eb)] ∧ EngAt B wr g m i [.int .i64 left] 64 (L0 - left) s ∧ Inv m s ∧ runP m 64 (left.toNat + 1) left (L0 - left) s = R) ∨
    (R.e = 0 ∧ k = 0 ∧ wr.cell? ⟨cb, 0, none⟩ = some (ptrV eb) ∧ ∃ mp fv use dv ex, Own wr eb (engC 0 R.v R.steps R.mf R.mw 64 mp fv use true dv ++ ex)))

set_option maxHeartbeats 1000000 in
theorem run_end_trap (Q : Ending → World → Prop) (t : Int) (T : Array Value) (W : World) (eb cb : Nat) (E V : Int) (cl : List Value) (h : Own W eb (.int .i64 E :: .int .i64 V :: cl)) (hc : W.cell? ⟨cb, 0, none⟩ = some (.pointer (some ⟨eb, 0, none⟩)))
    (hq : ∀ w', Chg (· = eb) W w' → Own w' eb (.int .i64 t :: .int .i64 0 :: cl) → Q (.returned (.tuple #[])) w') :
    bodyPostD Tryd.prog Tryd.f20 Q (Exit.panic (trapV t)) { tmps := T, defers := [{ target := Target.fn (Fn.func 39) #[.pointer (some ⟨cb, 0, none⟩)], args := #[] }] } W := by
  refine leaves_cons (f := 39) (args := #[.pointer (some ⟨cb, 0, none⟩)]) (by simp) (by simp [go_sem]) ?_
  refine (stop_trap eb cb E V t cl [] W h hc).mono ?_
  rintro e u' w3 ⟨rfl, rfl, kc, ho⟩
  have := hq w3 kc ho
  simpa [Leaves, settle, results, Tryd.results20, go_sem] using this
set_option maxHeartbeats 1000000 in
theorem run_end_idle (Q : Ending → World → Prop) (T : Array Value) (W : World) (eb cb : Nat) (hc : W.cell? ⟨cb, 0, none⟩ = some (.pointer (some ⟨eb, 0, none⟩)))
    (hq : ∀ w', Below W.heap.size W w' → Q (.returned (.tuple #[])) w') :
    bodyPostD Tryd.prog Tryd.f20 Q Exit.normal { tmps := T, defers := [{ target := Target.fn (Fn.func 39) #[.pointer (some ⟨cb, 0, none⟩)], args := #[] }] } W := by
  refine leaves_cons (f := 39) (args := #[.pointer (some ⟨cb, 0, none⟩)]) (by simp) (by simp [go_sem]) ?_
  refine (stop_idle eb cb W hc).mono ?_
  rintro e u' w3 ⟨rfl, rfl, kb⟩
  have := hq w3 kb
  simpa [Leaves, settle, results, Tryd.results20, go_sem] using this

theorem FramesAt.kept {w : World} {g : ModImg} (l : List (Nat × Value)) : ∀ {hs : List HFr} {fs : List PFr}, FramesAt w g hs fs → FramesAt w { g with kept := l } hs fs
  | [], [], h => h
  | _ :: _, _ :: _, h => ⟨h.1, FramesAt.kept l h.2⟩
  | [], _ :: _, h => h.elim
  | _ :: _, [], h => h.elim
theorem EngAt.keep {B : Nat} {w : World} {g : ModImg} {m : PMod} {i : Img} {ex : List Value} {lim steps : Int} {s : PSt} (h : EngAt B w g m i ex lim steps s) (l : List (Nat × Value)) (hk : KeptAt w l i.blocks) : EngAt B w { g with kept := l } m i ex lim steps s :=
  ⟨h.low, h.mod, h.eng, h.does, h.row, h.frames.kept l, h.top, h.nodup, h.own, hk⟩

set_option maxRecDepth 100000 in
set_option maxHeartbeats 1500000 in
theorem run_any {B : Nat} {g : ModImg} {m : PMod} {i : Img} {s : PSt} (w : World) (hm : Fine m) (h64 : ∀ k i, k < m.funcs.length → i < (fnAt m k).code.length → InsOk ((fnAt m k).code.getD i default)) (left : Int) (h : EngAt B w g m i [.int .i64 left] 64 0 s) (hi : Inv m s) (hr : RowsAt w) (hB : 0 < B)
    (h0 : 0 ≤ left) (h1 : left ≤ 1099511627776) (eb : Nat) (heb : i.eb = eb) :
    Calls Tryd.prog 20 #[ptrV eb] w fun e w' => e = .returned (.tuple #[]) ∧ Below B w w' ∧ ∀ R, R = runP m 64 (left.toNat + 1) left 0 s →
      ∃ tl, Own w' eb (.int .i64 R.e :: .int .i64 R.v :: .int .i64 R.steps :: .int .i64 R.mf :: .int .i64 R.mw :: tl) := by
  have hmf : ∀ (fn : Fn) (first cap : Array Value) (w : World), (Instr.makeFunc fn first cap).run Tryd.prog w = .ok (.func fn first cap) w := fun _ _ _ _ => rfl
  obtain ⟨R, hR⟩ : ∃ R, R = runP m 64 (left.toNat + 1) left 0 s := ⟨_, rfl⟩
  have hlow := h.low
  have hebs : eb < w.heap.size ∧ B ≤ eb := by have := h.own i.eb (by simp [Img.blocks]); omega
  have hstart : RunRel B w m eb w.heap.size R left (left.toNat + 1) (w.alloc (.cells #[ptrV eb] 52)) := by
    refine ⟨(by repeat (first | with_reducible exact Below.refl _ _ | with_reducible assumption | with_reducible refine Below.drew ?_ | with_reducible refine Below.drewN ?_ _ | with_reducible refine Below.alloc ?_ (by first | omega | (simp <;> omega) | (simp at * <;> omega)) _ | with_reducible refine Below.setCell ?_ (by first | omega | (simp <;> omega) | (simp at * <;> omega)) _ | (with_reducible refine Below.trans ?_ (Below.mono (by first | with_reducible assumption | exact hF _) (by first | omega | (simp <;> omega) | (simp at * <;> omega)))))), .inl ⟨{ g with kept := [(w.heap.size, ptrV eb)] }, s, i, left, rfl, h0, Int.le_refl _, heb, rfl, ?_, hi, ?_⟩⟩
    · have h2 := h.below (w' := w.alloc (.cells #[ptrV eb] 52)) (by repeat (first | with_reducible exact Below.refl _ _ | with_reducible assumption | with_reducible refine Below.drew ?_ | with_reducible refine Below.drewN ?_ _ | with_reducible refine Below.alloc ?_ (by first | omega | (simp <;> omega) | (simp at * <;> omega)) _ | with_reducible refine Below.setCell ?_ (by first | omega | (simp <;> omega) | (simp at * <;> omega)) _ | (with_reducible refine Below.trans ?_ (Below.mono (by first | with_reducible assumption | exact hF _) (by first | omega | (simp <;> omega) | (simp at * <;> omega))))))
      rw [show left - left = 0 by omega]
      refine h2.keep _ (fun p hp => ?_)
      rw [List.mem_singleton.1 hp]
      exact ⟨by simp, by simp, fun hx => by have := (h.own _ hx).2.1; omega⟩
    · rw [hR]; congr 1; omega
  clear h heb
  unfold ptrV
  have HR := Lib.hid hR; clear hR
  have Hrow := Lib.hid hr; clear hr
  have Hst := Lib.hid hstart; clear hstart
  go_enter_defers Tryd.func20, Tryd.ntmps20
  go_wp2
  go_loopg [] (left.toNat + 1) (fun k wr => RunRel B w m eb w.heap.size R left k wr)
  case atStart =>
    exact Hst.out
  case round =>
    obtain ⟨hbel, hA | hA⟩ := hrel
    · obtain ⟨g1, s1, i1, lf, rfl, l0, l1, hie, hk, hE, hI, hRun⟩ := hA
      have sm := Same.of' hbel
      have hz := hbel.size
      obtain ⟨k1, k2, k3⟩ := hE.kept (w.heap.size, ptrV eb) (by rw [hk]; simp)
      dsimp only at k1 k2 k3
      have hx := insAt_fine hm hI.ok.top
      have hwt := hI.weight hm
      have hO := hE.eng
      rw [hie] at hO
      have hdeep := hI.deep
      have hfr := hI.ok.top
      have hNext := next_any wr hE hfr.fn hfr.at0 hfr.at1 (by omega)
      rw [hie] at hNext
      rw [runP] at hRun
      have hke : w.heap.size ≠ eb := fun e => k3 (by rw [e, ← hie]; simp [Img.blocks])
      have hwL : IntKind.i64.wrap (lf - weightZ (insAt m s1.top).op) = lf - weightZ (insAt m s1.top).op := IntWalk.i64_in _ (by omega)
      have hDo : ∀ w1, EngAt B w1 g1 m i1 [.int .i64 (lf - weightZ (insAt m s1.top).op)] 64 (left - lf) s1 → RowsAt w1 → InsOk (insAt m s1.top) →
          Calls Tryd.prog 44 #[.pointer (some ⟨eb, 0, none⟩), .agg #[.int .i64 (insAt m s1.top).op, .int .i64 (insAt m s1.top).a, .int .i64 (insAt m s1.top).b, .int .i64 (insAt m s1.top).c, .int .i64 (insAt m s1.top).n]] w1
            fun e w' => StepPost B w1 g1 m i1 [.int .i64 (lf - weightZ (insAt m s1.top).op)] 64 (left - lf + weightZ (insAt m s1.top).op) s1.pass (insAt m s1.top) e w' := by
        intro w1 h1 h2 h3
        have := do_any w1 hm h1 h2 hB hI.ok h3 (by omega) (.inr rfl) (by omega)
        rw [hie] at this
        exact this
      have hstep := fun s' hd => hI.step hm h64 (s' := s') hd
      unfold ptrV at *
      generalize insAt m s1.top = x at *
      have HE := Lib.hid hE; clear hE
      have HI := Lib.hid hI; clear hI
      have HO := Lib.hid hO; clear hO
      have HNext := Lib.hid hNext; clear hNext
      have HRun := Lib.hid hRun; clear hRun
      have HDo := Lib.hid hDo; clear hDo
      have Hstep := Lib.hid hstep; clear hstep
      have Hie := Lib.hid hie; clear hie
      have Hk := Lib.hid hk; clear hk
      have K3 := Lib.hid k3; clear k3
      by_cases hlt : lf < weightZ x.op
      · have d0 : decide (lf < weightZ x.op) = true := by simpa using hlt
        obtain ⟨op, xa, xb, xc, xn⟩ := x
        dsimp only at *
        clear hlt
        go_wp2_with (first
          | (go_at_call 41; refine (over_any eb _ _ _ _ _ _ _ _ _ _ _ _ _ HO.out).mono ?_; rintro e w1 ⟨rfl, rfl⟩)
          | (go_at_call 42; refine HNext.out.mono ?_; rintro e w1 ⟨rfl, hb1, hiok⟩; unfold InsVal; have HE1 := Lib.hid (HE.out.below hb1); have e11 := (HO.out.below hb1).2.1 11 _ rfl; have ef1 := (HO.out.below hb1).2.2; have hz1 := hb1.size; have hq1 : w.heap.size < w1.heap.size ∧ eb < w1.heap.size := (by omega); have c1 := ((bcell hb1).1 w.heap.size 0 k1).trans k2; dsimp only)
          | (go_at_call 43; refine (weight_any _ _ (Hrow.out.same (by repeat (first | with_reducible exact Same.refl _ _ | with_reducible assumption | with_reducible refine Same.drew ?_ | with_reducible refine Same.drewN ?_ _ | with_reducible refine Same.alloc ?_ (by first | omega | (simp <;> omega) | (simp at * <;> omega)) _ | with_reducible refine Same.setCell ?_ (by first | omega | (simp <;> omega) | (simp at * <;> omega)) _ | (with_reducible refine Same.trans ?_ (Same.of (by assumption) (by first | omega | (simp <;> omega) | (simp at * <;> omega)))))) hB (by first | omega | (simp <;> omega) | (simp at * <;> omega)))).mono ?_; rintro e w2 ⟨rfl, rfl⟩))
        refine run_end_trap _ 90 _ _ eb w.heap.size 0 0 _ ((HO.out.below hb1).alloc _) ?_ ?_
        · rw [World.cell?_alloc_lt _ _ _ (by exact hq1.1)]; exact c1
        · intro w3 kc ho
          have hc1 := hbel.trans (Below.mono hb1 (by omega))
          have hc2 : Chg (· = eb) w1 w3 := ((Chg.refl _ _).alloc _).trans kc
          refine ⟨rfl, hc1.trans (hc2.below B (by omega) (fun k hk e => by omega)), fun R' hR' => ?_⟩
          have e1 : (⟨90, 0, left - lf, s1.mf, s1.mw⟩ : POut) = R := by have := HRun.out; rwa [if_pos (by simpa using d0)] at this
          have e2 : R' = ⟨90, 0, left - lf, s1.mf, s1.mw⟩ := by rw [e1, HR.out]; exact hR'
          subst e2
          exact ⟨_, ho⟩
      · have d0 : decide (lf < weightZ x.op) = false := by simpa using hlt
        have hR2 := HRun.out
        rw [if_neg hlt] at hR2
        obtain ⟨op, xa, xb, xc, xn⟩ := x
        dsimp only at *
        have hle : weightZ op ≤ lf := by omega
        clear hlt
        go_wp2_with (first
          | (go_at_call 41; refine (over_any eb _ _ _ _ _ _ _ _ _ _ _ _ _ HO.out).mono ?_; rintro e w1 ⟨rfl, rfl⟩)
          | (go_at_call 42; refine HNext.out.mono ?_; rintro e w1 ⟨rfl, hb1, hiok⟩; unfold InsVal; have HE1 := Lib.hid (HE.out.below hb1); have e11 := (HO.out.below hb1).2.1 11 _ rfl; have ef1 := (HO.out.below hb1).2.2; have hz1 := hb1.size; have hq1 : w.heap.size < w1.heap.size ∧ eb < w1.heap.size := (by omega); have c1 := ((bcell hb1).1 w.heap.size 0 k1).trans k2; dsimp only)
          | (go_at_call 43; refine (weight_any _ _ (Hrow.out.same (by repeat (first | with_reducible exact Same.refl _ _ | with_reducible assumption | with_reducible refine Same.drew ?_ | with_reducible refine Same.drewN ?_ _ | with_reducible refine Same.alloc ?_ (by first | omega | (simp <;> omega) | (simp at * <;> omega)) _ | with_reducible refine Same.setCell ?_ (by first | omega | (simp <;> omega) | (simp at * <;> omega)) _ | (with_reducible refine Same.trans ?_ (Same.of (by assumption) (by first | omega | (simp <;> omega) | (simp at * <;> omega)))))) hB (by first | omega | (simp <;> omega) | (simp at * <;> omega)))).mono ?_; rintro e w2 ⟨rfl, rfl⟩))
        refine wp_still 4 (by kernel_rfl) (by kernel_rfl) ?_; simp only [List.take_succ_cons, List.take_zero, List.drop_succ_cons, List.drop_zero]; repeat (refine WS_step (fun K hK => ?_); go_simp; refine hK _ ?_; clear hK K)
        refine WS_nil ?_
        go_wp2_with (go_at_call 44; refine (HDo.out _ ?_ ?_ hiok).mono ?_)
        · have c : Chg (· = i1.eb) w1 ((w1.setCell ⟨eb, 11, none⟩ (.int .i64 (lf - weightZ op))).alloc (.cells #[.int .i64 op, .int .i64 xa, .int .i64 xb, .int .i64 xc, .int .i64 xn] 47)).drew := by rw [Hie.out]; exact (by repeat (first | with_reducible exact Chg.refl _ _ | with_reducible assumption | with_reducible refine Chg.drew ?_ | with_reducible refine Chg.drewN ?_ _ | with_reducible refine Chg.alloc ?_ _ | with_reducible refine Chg.setCell ?_ (by first | with_reducible exact .inl rfl | exact .inl (.inl rfl) | exact .inl (.inr rfl) | exact .inr (by simp)) _ | (with_reducible refine Chg.trans ?_ (Chg.of (by first | with_reducible assumption | exact hF _)))))
          refine HE1.out.eng_chg c ?_
          rw [Hie.out]
          exact (((HO.out.below hb1).set 11 _ (by simp [engC])).alloc _).drew
        · exact Hrow.out.same (by repeat (first | with_reducible exact Same.refl _ _ | with_reducible assumption | with_reducible refine Same.drew ?_ | with_reducible refine Same.drewN ?_ _ | with_reducible refine Same.alloc ?_ (by first | omega | (simp <;> omega) | (simp at * <;> omega)) _ | with_reducible refine Same.setCell ?_ (by first | omega | (simp <;> omega) | (simp at * <;> omega)) _ | (with_reducible refine Same.trans ?_ (Same.of (by assumption) (by first | omega | (simp <;> omega) | (simp at * <;> omega)))))) hB (by first | omega | (simp <;> omega) | (simp at * <;> omega))
        rintro e w4 ⟨hb4, hp⟩
        have hc1 : Below B w w1 := hbel.trans (Below.mono hb1 (by omega))
        have hc4 : Below B w w4 := Below.trans (by repeat (first | with_reducible exact Below.refl _ _ | with_reducible assumption | with_reducible refine Below.drew ?_ | with_reducible refine Below.drewN ?_ _ | with_reducible refine Below.alloc ?_ (by first | omega | (simp <;> omega) | (simp at * <;> omega)) _ | with_reducible refine Below.setCell ?_ (by first | omega | (simp <;> omega) | (simp at * <;> omega)) _ | (with_reducible refine Below.trans ?_ (Below.mono (by first | with_reducible assumption | exact hF _) (by first | omega | (simp <;> omega) | (simp at * <;> omega)))))) hb4
        cases hd : doP m 64 s1.pass ⟨op, xa, xb, xc, xn⟩ with
        | next s' =>
          rw [hd] at hp hR2
          dsimp only at hp hR2
          obtain ⟨rfl, i2, hi2, hE2⟩ := hp
          have HE2 := Lib.hid hE2; clear hE2
          have HR2 := Lib.hid hR2; clear hR2
          have Hd := Lib.hid hd; clear hd
          have Hi2 := Lib.hid hi2; clear hi2
          go_wp2
          go_roundg ((lf - weightZ op).toNat + 1)
          case measure => go_light; omega
          case rel =>
            have hI2 := Hstep.out s' Hd.out
            refine ⟨hc4, .inl ⟨g1, s', i2, lf - weightZ op, rfl, by omega, by omega, Hi2.out.trans Hie.out, Hk.out, ?_, hI2, ?_⟩⟩
            · rw [show left - (lf - weightZ op) = left - lf + weightZ op by omega]
              exact HE2.out
            · rw [show left - (lf - weightZ op) = left - lf + weightZ op by omega, ← HR2.out]
              exact runP_more hm h64 _ _ _ _ _ hI2 (by omega) (by omega) (by omega)
        | done v use mf mw =>
          rw [hd] at hp hR2
          dsimp only at hp hR2
          obtain ⟨rfl, hkp, fv, us, hO2⟩ := hp
          have HO2 := Lib.hid hO2; clear hO2
          have HR2 := Lib.hid hR2; clear hR2
          have Hkp := Lib.hid hkp; clear hkp
          clear hd
          go_wp2
          go_roundg 0
          case measure => go_light; omega
          case rel =>
            have hkp := Hkp.out (w.heap.size, ptrV eb) (by rw [Hk.out]; exact List.mem_singleton.2 rfl)
            refine ⟨hc4, .inr ⟨?_, rfl, hkp.2.1, ptrV g1.mb, fv, us, .slice (some ⟨i1.db, 0, none⟩) 20 20, [.int .i64 (lf - weightZ op)], ?_⟩⟩
            · rw [← HR2.out]
            · rw [← HR2.out, ← Hie.out]; exact HO2.out
        | trap t =>
          rw [hd] at hp hR2
          dsimp only at hp hR2
          obtain ⟨rfl, hE2⟩ := hp
          have ho2 := hE2.eng
          rw [Hie.out] at ho2
          have hkp := hE2.kept (w.heap.size, ptrV eb) (by rw [Hk.out]; exact List.mem_singleton.2 rfl)
          refine run_end_trap _ t _ _ eb w.heap.size 0 0 _ ho2 hkp.2.1 ?_
          intro w5 kc ho
          refine ⟨rfl, hc4.trans (kc.below B (by have := hE2.low; omega) (fun k hk e => by omega)), fun R' hR' => ?_⟩
          have e2 : R' = ⟨t, 0, left - lf + weightZ op, s1.mf, s1.mw⟩ := by rw [hR2, HR.out]; exact hR'
          subst e2
          exact ⟨_, ho⟩
    · obtain ⟨hRe, rfl, hcb, mp, fv, use, dv, ex, hO⟩ := hA
      have hov := fun w1 h => over_any eb 0 R.v R.steps R.mf R.mw 64 use mp fv dv true ex w1 h
      have HO := Lib.hid hO; clear hO
      have HRe := Lib.hid hRe; clear hRe
      have hz := hbel.size
      unfold ptrV at *
      go_wp2_with (go_at_call 41; refine (hov _ HO.out).mono ?_; rintro e w1 ⟨rfl, rfl⟩)
      refine run_end_idle _ _ _ eb w.heap.size hcb ?_
      intro w5 kb
      refine ⟨rfl, hbel.trans (Below.mono kb (by omega)), fun R' hR' => ?_⟩
      have e2 : R' = R := by rw [HR.out]; exact hR'
      subst e2
      have ho := HO.out.below kb
      have he := HRe.out
      obtain ⟨re, rv, rs, rm, rw'⟩ := R'
      dsimp only at he
      subst he
      exact ⟨_, ho⟩
end Go.Proofs.YtgpdggjpbmgegaaDoor
