/- The law MeterBytes, walked: for any module, name, arguments and fuel it returns true and writes nothing that was there. -/
import Derived.Test.YtgpdggjpbmgegaaDoorPkG
import Derived.Test.YtgpdggjpbmgegaaDoorPkC
import Derived.Test.YtgpdggjpbmgegaaDoorAwake
namespace Go.Proofs.YtgpdggjpbmgegaaDoor
open Go.RowKit
set_option linter.unusedVariables false
set_option linter.unusedSimpArgs false


set_option maxRecDepth 100000 in
set_option maxHeartbeats 2000000 in
theorem encode_bad {B : Nat} (m : PMod) (w : World) (v : Value) (hB : B ≤ w.heap.size) (hB0 : 0 < B) (hma : ModAt B w v m) (hr : RowsAt w) (he : (mayP m).e ≠ 0) :
    Calls Tryd.prog 16 #[v] w fun e w' => e = .returned (.tuple #[.slice none 0 0, .agg #[.int .i64 (mayP m).e, .int .i64 (mayP m).f, .int .i64 (mayP m).at_]]) ∧ Below w.heap.size w w' := by
  have HMay := Lib.hid (show ∀ w1, w.heap.size ≤ w1.heap.size → Same B w w1 → Calls Tryd.prog 18 #[v] w1 fun e w' => e = .returned (.agg #[.int .i64 (mayP m).e, .int .i64 (mayP m).f, .int .i64 (mayP m).at_]) ∧ Below w1.heap.size w1 w' from fun w1 hz hs =>
    may_any B _ m w1 (by omega) hB0 (hma.same hs) (hr.same hs hB0 hz))
  have d0 : ((mayP m).e != 0) = true := by simpa using he
  generalize (mayP m).e = me at *
  generalize (mayP m).f = mf at *
  generalize (mayP m).at_ = mat at *
  clear hr he
  obtain ⟨ta, tl, tc, fa, fl, fc, rfl, ht, hf⟩ := hma
  clear ht hf
  go_enter Tryd.func16, Tryd.ntmps16
  go_wp2_with (first
    | (go_at_call 18; refine (HMay.out _ (by first | omega | (simp <;> omega) | (simp at * <;> omega)) (by repeat (first | with_reducible exact Same.refl _ _ | with_reducible assumption | with_reducible refine Same.drew ?_ | with_reducible refine Same.drewN ?_ _ | with_reducible refine Same.alloc ?_ (by first | omega | (simp <;> omega) | (simp at * <;> omega)) _ | with_reducible refine Same.setCell ?_ (by first | omega | (simp <;> omega) | (simp at * <;> omega)) _ | (with_reducible refine Same.trans ?_ (Same.of (by assumption) (by first | omega | (simp <;> omega) | (simp at * <;> omega))))))).mono ?_; rintro e w1 ⟨rfl, hb1⟩; have hz1 := hb1.size; have hres := ((Own.new' (w.alloc (.cells #[.slice ta tl tc, .slice fa fl fc] 26)) [.int .i64 0, .int .i64 0, .int .i64 0] 32 (w.heap.size + 1) (by simp)).below hb1); have r3 := own3 hres; have s3 := set3 hres)
    | fail)
  refine wp_still 2 (by kernel_rfl) (by kernel_rfl) ?_; simp only [List.take_succ_cons, List.take_zero, List.drop_succ_cons, List.drop_zero]; repeat (refine WS_step (fun K hK => ?_); go_simp; refine hK _ ?_; clear hK K)
  refine WS_nil ?_; go_wp2
  refine enc_end _ _ _ (w.heap.size + 1) (.slice none 0 0) me mf mat (((own3_set hres _ _ _).alloc _).drew) rfl rfl _ (by simp) ⟨rfl, (by repeat (first | with_reducible exact Below.refl _ _ | with_reducible assumption | with_reducible refine Below.drew ?_ | with_reducible refine Below.drewN ?_ _ | with_reducible refine Below.alloc ?_ (by first | omega | (simp <;> omega) | (simp at * <;> omega)) _ | with_reducible refine Below.setCell ?_ (by first | omega | (simp <;> omega) | (simp at * <;> omega)) _ | (with_reducible refine Below.trans ?_ (Below.mono (by first | with_reducible assumption | exact hF _) (by first | omega | (simp <;> omega) | (simp at * <;> omega))))))⟩

theorem m64_of {B : Nat} {w : World} {v : Value} {m : PMod} (h : ModAt B w v m) : M64 m := by
  have hi := h.ins64
  obtain ⟨_, _, _, _, _, _, rfl, ht, hl, _, b, o, _, H, hc⟩ := h
  obtain ⟨h1, _, tb, tO, _, h4⟩ := ht
  refine ⟨fun i hi => (h4 i (by omega)).2, fun k hk j hj => ?_, fun k hk j hj => hi k j hk hj⟩
  obtain ⟨_, _, ⟨pl, _, pb, po, _, hps⟩, _⟩ := hc k (by omega)
  have := hps j (by omega)
  exact ⟨this.2.2.1, this.2.2.2⟩

set_option maxRecDepth 100000 in
set_option maxHeartbeats 4000000 in
theorem bytes_any (v0 : Value) (m : PMod) (w : World) (hma : ModAt w.heap.size w v0 m) (hr : RowsAt w) (name : ByteArray) (aa : Option Addr) (al ac : Nat) (xs : List Int) (ha : NumsAt w.heap.size w aa al xs) (fuel : Int) (hf64 : In64 fuel) :
    Calls Tryd.prog 7 #[v0, .string name, .slice aa al ac, .int .i64 fuel] w fun e w' => e = .returned (.bool true) ∧ Below w.heap.size w w' := by
  have hB0 := hr.1
  have HM := Lib.hid (show ∀ (w1 : World) (v : Value) (hb : Below w.heap.size w w1) (hv : ModAt w1.heap.size w1 v m) (hf : fuel ≤ 1099511627776) (e u st mf mw : Int) (he : meterP m name xs fuel = ⟨e, u, st, mf, mw⟩),
      Calls Tryd.prog 9 #[v, .string name, .slice aa al ac, .int .i64 fuel] w1 fun en w' => en = .returned (.agg #[.int .i64 e, .int .i64 u, .int .i64 st, .int .i64 mf, .int .i64 mw]) ∧ Below w1.heap.size w1 w' from by
    intro w1 v hb hv hf e v1 st mf mw he
    have := meter_any (B := w1.heap.size) v m w1 (Nat.le_refl _) (by have := hb.size; omega) hv (hr.same (Same.of' hb) hB0 hb.size) name aa al ac xs (ha.up (Same.of' hb) hb.size) fuel hf
    rw [he] at this
    exact this)
  have HM0 := Lib.hid (show ∀ (w1 : World) (hb : Below w.heap.size w w1), ModAt w1.heap.size w1 v0 m from fun w1 hb => (hma.same (Same.of' hb)).up hb.size)
  have HA := Lib.hid (show ∀ (w1 : World) (hb : Below w.heap.size w w1), Calls Tryd.prog 8 #[] w1 fun e w' => e = .returned (.bool true) ∧ Below w1.heap.size w1 w' from fun w1 hb => awake_any w1 (hr.same (Same.of' hb) hB0 hb.size))
  have h64 := m64_of hma
  have HEB := Lib.hid (show ∀ (w1 : World) (hb : Below w.heap.size w w1) (he : (mayP m).e ≠ 0), _ from fun w1 hb he => encode_bad (B := w1.heap.size) m w1 v0 (Nat.le_refl _) (by have := hb.size; omega) ((hma.same (Same.of' hb)).up hb.size) (hr.same (Same.of' hb) hB0 hb.size) he)
  have HEG := Lib.hid (show ∀ (w1 : World) (hb : Below w.heap.size w w1) (he : (mayP m).e = 0), _ from fun w1 hb he => encode_any (B := w1.heap.size) m w1 v0 (Nat.le_refl _) (by have := hb.size; omega) ((hma.same (Same.of' hb)).up hb.size) (hr.same (Same.of' hb) hB0 hb.size) he)
  obtain ⟨ta, tl, tc, fa, fl, fc, rfl, _, _⟩ := hma
  clear hr ha
  unfold In64 at hf64
  by_cases hbig : 4194304 ≤ fuel
  · have d0 : decide ((4194304 : Int) ≤ fuel) = true := by simpa using hbig
    clear HM HEB HEG
    go_enter Tryd.func7, Tryd.ntmps7
    go_wp2_with (go_at_call 8; refine (HA.out _ (by repeat (first | with_reducible exact Below.refl _ _ | with_reducible assumption | with_reducible refine Below.drew ?_ | with_reducible refine Below.drewN ?_ _ | with_reducible refine Below.alloc ?_ (by first | omega | (simp <;> omega) | (simp at * <;> omega)) _ | with_reducible refine Below.setCell ?_ (by first | omega | (simp <;> omega) | (simp at * <;> omega)) _ | (with_reducible refine Below.trans ?_ (Below.mono (by first | with_reducible assumption | exact hF _) (by first | omega | (simp <;> omega) | (simp at * <;> omega))))))).mono ?_; rintro e w1 ⟨rfl, hb1⟩)
    go_ret
    exact ⟨rfl, (by repeat (first | with_reducible exact Below.refl _ _ | with_reducible assumption | with_reducible refine Below.drew ?_ | with_reducible refine Below.drewN ?_ _ | with_reducible refine Below.alloc ?_ (by first | omega | (simp <;> omega) | (simp at * <;> omega)) _ | with_reducible refine Below.setCell ?_ (by first | omega | (simp <;> omega) | (simp at * <;> omega)) _ | (with_reducible refine Below.trans ?_ (Below.mono (by first | with_reducible assumption | exact hF _) (by first | omega | (simp <;> omega) | (simp at * <;> omega))))))⟩
  · have d0 : decide ((4194304 : Int) ≤ fuel) = false := by simpa using hbig
    by_cases he : (mayP m).e = 0
    · have hPK := modPk he
      have hlenb : (encP m).length ≤ 1048576 := by
        have h1 := (enc_reads m).2.2.2.2.2
        have h2 := flatMap_len_le funB 13000 m.funcs (fun f hf => by
          obtain ⟨i, hi, rfl⟩ := List.getElem_of_mem hf
          have := funB_len (hPK.fn i hi)
          rwa [getD_eq m.funcs i hi] at this)
        have h3 := hPK.thr
        have h4 := hPK.few
        omega
      have HE1 := Lib.hid (fun (w1 : World) (hb : Below w.heap.size w w1) => HEG.out w1 hb he)
      have HDC := Lib.hid (fun (w1 : World) (g cap : Nat) (hb : BufAt w1 g cap (encP m)) => (show Calls Tryd.prog 17 #[.slice (some ⟨g, 0, none⟩) (encP m).length cap] w1 _ from decode_any w1 m g cap hPK h64 hb.lt (fun j hj => own_cells hb (Bys_some (getD_some hj))) (by
        rcases hb.2 with ⟨e, _⟩ | ⟨_, _, _, e, _, _, q1, q2, _⟩
        · cases e
        · cases e; exact q1) hlenb))
      obtain ⟨ae, av, ast, amf, amw, hA⟩ : ∃ e v st mf mw, meterP m name xs fuel = ⟨e, v, st, mf, mw⟩ := ⟨_, _, _, _, _, rfl⟩
      have HA1 := Lib.hid hA
      clear hA HEB HEG h64 hPK he hlenb
      generalize hbs : encP m = bs at *
      clear hbs
      go_enter Tryd.func7, Tryd.ntmps7
      go_wp2_with (first
        | (go_at_call 8; refine (HA.out _ (by repeat (first | with_reducible exact Below.refl _ _ | with_reducible assumption | with_reducible refine Below.drew ?_ | with_reducible refine Below.drewN ?_ _ | with_reducible refine Below.alloc ?_ (by first | omega | (simp <;> omega) | (simp at * <;> omega)) _ | with_reducible refine Below.setCell ?_ (by first | omega | (simp <;> omega) | (simp at * <;> omega)) _ | (with_reducible refine Below.trans ?_ (Below.mono (by first | with_reducible assumption | exact hF _) (by first | omega | (simp <;> omega) | (simp at * <;> omega))))))).mono ?_; rintro e w1 ⟨rfl, hb1⟩; have hz1 : w.heap.size < w1.heap.size := (by have := hb1.size; simp at this; omega); have om := own2 (((Own.new w _ _).below hb1)); have Om := Lib.hid (((Own.new w [.slice ta tl tc, .slice fa fl fc] 26).below hb1)))
        | (go_at_call 16; refine (HE1.out _ (by repeat (first | with_reducible exact Below.refl _ _ | with_reducible assumption | with_reducible refine Below.drew ?_ | with_reducible refine Below.drewN ?_ _ | with_reducible refine Below.alloc ?_ (by first | omega | (simp <;> omega) | (simp at * <;> omega)) _ | with_reducible refine Below.setCell ?_ (by first | omega | (simp <;> omega) | (simp at * <;> omega)) _ | (with_reducible refine Below.trans ?_ (Below.mono (by first | with_reducible assumption | exact hF _) (by first | omega | (simp <;> omega) | (simp at * <;> omega))))))).mono ?_; rintro e w2 ⟨g, cap, rfl, hb2, hg2, hbuf⟩; have hz2 : w1.heap.size ≤ w2.heap.size := hb2.size; have om2 := own2 ((Om.out.below hb2)); have Om2 := Lib.hid (Om.out.below hb2); have HBUF := Lib.hid hbuf; clear om hbuf)
        | (go_at_call 17; refine (HDC.out _ g cap (HBUF.out.below (by repeat (first | with_reducible exact Below.refl _ _ | with_reducible assumption | with_reducible refine Below.drew ?_ | with_reducible refine Below.drewN ?_ _ | with_reducible refine Below.alloc ?_ (by first | omega | (simp <;> omega) | (simp at * <;> omega)) _ | with_reducible refine Below.setCell ?_ (by first | omega | (simp <;> omega) | (simp at * <;> omega)) _ | (with_reducible refine Below.trans ?_ (Below.mono (by first | with_reducible assumption | exact hF _) (by first | omega | (simp <;> omega) | (simp at * <;> omega)))))))).mono ?_; rintro e w3 ⟨nv, rfl, hb3, hmv⟩; have hz3 : w2.heap.size < w3.heap.size := (by have := hb3.size; simp at this; omega); obtain ⟨ta', tl', tc', fa', fl', fc', rfl, q1, q2⟩ := hmv; have HMV := Lib.hid (show ModAt w3.heap.size w3 (.agg #[.slice ta' tl' tc', .slice fa' fl' fc']) m from ⟨_, _, _, _, _, _, rfl, q1, q2⟩); have Om3 := Lib.hid ((Om2.out.alloc (.cells #[.int .i64 0, .int .i64 0, .int .i64 0] 32)).below hb3); clear om2 q1 q2))
      generalize hW : World.alloc _ _ = W2
      have hbW : Below w.heap.size w W2 := by rw [← hW]; exact (by repeat (first | with_reducible exact Below.refl _ _ | with_reducible assumption | with_reducible refine Below.drew ?_ | with_reducible refine Below.drewN ?_ _ | with_reducible refine Below.alloc ?_ (by first | omega | (simp <;> omega) | (simp at * <;> omega)) _ | with_reducible refine Below.setCell ?_ (by first | omega | (simp <;> omega) | (simp at * <;> omega)) _ | (with_reducible refine Below.trans ?_ (Below.mono (by first | with_reducible assumption | exact hF _) (by first | omega | (simp <;> omega) | (simp at * <;> omega))))))
      have ON := (show Own W2 w3.heap.size [.slice ta' tl' tc', .slice fa' fl' fc'] by rw [← hW]; exact Own.new _ _ _)
      have OM := (show Own W2 w.heap.size [.slice ta tl tc, .slice fa fl fc] by rw [← hW]; exact Om3.out.alloc _)
      have hb3W : Below w3.heap.size w3 W2 := by rw [← hW]; exact (by repeat (first | with_reducible exact Below.refl _ _ | with_reducible assumption | with_reducible refine Below.drew ?_ | with_reducible refine Below.drewN ?_ _ | with_reducible refine Below.alloc ?_ (by first | omega | (simp <;> omega) | (simp at * <;> omega)) _ | with_reducible refine Below.setCell ?_ (by first | omega | (simp <;> omega) | (simp at * <;> omega)) _ | (with_reducible refine Below.trans ?_ (Below.mono (by first | with_reducible assumption | exact hF _) (by first | omega | (simp <;> omega) | (simp at * <;> omega))))))
      have HMW := Lib.hid ((HMV.out.same (Same.of' hb3W)).up hb3W.size)
      clear hW
      have qa := own2 ON
      have qm := own2 OM
      clear ON OM
      refine wp_below_tail 15 (by kernel_rfl) (by kernel_rfl) (fun T F hF hall => ?_); simp only [List.take_succ_cons, List.take_zero, List.drop_succ_cons, List.drop_zero]; have hFc := fun t => (bcell (hF t)).1; have hFf := fun t => (bcell (hF t)).2; have hFs := fun t => (hF t).size; have hNE : Nonempty T := (hall _ (Below.refl _ _)).elim fun t _ => ⟨t⟩; repeat (refine WQ_step (fun K hK => ?_); go_simp; refine hK _ ?_; clear hK K)
      (refine WQ_step (fun K hK => ?_); go_simp; refine ⟨_, fun t => calls_family (hF t) hall (HM.out (F t) _ (hbW.trans (Below.mono (hF t) hbW.size)) ((HMW.out.same (Same.of' (hF t))).up (hF t).size) (by omega) _ _ _ _ _ HA1.out), hK _ ?_⟩; clear hK K)
      repeat (refine WQ_step (fun K hK => ?_); go_simp; refine hK _ ?_; clear hK K)
      (refine WQ_step (fun K hK => ?_); go_simp; refine ⟨_, fun t => calls_family (hF t) hall (HM.out (F t) _ (hbW.trans (Below.mono (hF t) hbW.size)) (HM0.out _ (hbW.trans (Below.mono (hF t) hbW.size))) (by omega) _ _ _ _ _ HA1.out), hK _ ?_⟩; clear hK K)
      repeat (refine WQ_step (fun K hK => ?_); go_simp; refine hK _ ?_; clear hK K)
      refine WQ_nil (fun t => ?_)
      have hbF := hbW.trans (Below.mono (hF t) hbW.size)
      go_wp2
      go_ret
      exact ⟨rfl, hbF⟩
    · have d1 : ((mayP m).e != 0) = true := by simpa using he
      have HE2 := Lib.hid (fun (w1 : World) (hb : Below w.heap.size w w1) => HEB.out w1 hb he)
      clear HEB HEG he
      generalize (mayP m).e = me at *
      generalize (mayP m).f = mef at *
      generalize (mayP m).at_ = mea at *
      go_enter Tryd.func7, Tryd.ntmps7
      go_wp2_with (first
        | (go_at_call 8; refine (HA.out _ (by repeat (first | with_reducible exact Below.refl _ _ | with_reducible assumption | with_reducible refine Below.drew ?_ | with_reducible refine Below.drewN ?_ _ | with_reducible refine Below.alloc ?_ (by first | omega | (simp <;> omega) | (simp at * <;> omega)) _ | with_reducible refine Below.setCell ?_ (by first | omega | (simp <;> omega) | (simp at * <;> omega)) _ | (with_reducible refine Below.trans ?_ (Below.mono (by first | with_reducible assumption | exact hF _) (by first | omega | (simp <;> omega) | (simp at * <;> omega))))))).mono ?_; rintro e w1 ⟨rfl, hb1⟩; have hz1 : w.heap.size < w1.heap.size := (by have := hb1.size; simp at this; omega); have om := own2 (((Own.new w _ _).below hb1)))
        | (go_at_call 16; refine (HE2.out _ (by repeat (first | with_reducible exact Below.refl _ _ | with_reducible assumption | with_reducible refine Below.drew ?_ | with_reducible refine Below.drewN ?_ _ | with_reducible refine Below.alloc ?_ (by first | omega | (simp <;> omega) | (simp at * <;> omega)) _ | with_reducible refine Below.setCell ?_ (by first | omega | (simp <;> omega) | (simp at * <;> omega)) _ | (with_reducible refine Below.trans ?_ (Below.mono (by first | with_reducible assumption | exact hF _) (by first | omega | (simp <;> omega) | (simp at * <;> omega))))))).mono ?_; rintro e w2 ⟨rfl, hb2⟩; have hz2 : w1.heap.size ≤ w2.heap.size := hb2.size))
      go_ret
      exact ⟨rfl, (by repeat (first | with_reducible exact Below.refl _ _ | with_reducible assumption | with_reducible refine Below.drew ?_ | with_reducible refine Below.drewN ?_ _ | with_reducible refine Below.alloc ?_ (by first | omega | (simp <;> omega) | (simp at * <;> omega)) _ | with_reducible refine Below.setCell ?_ (by first | omega | (simp <;> omega) | (simp at * <;> omega)) _ | (with_reducible refine Below.trans ?_ (Below.mono (by first | with_reducible assumption | exact hF _) (by first | omega | (simp <;> omega) | (simp at * <;> omega))))))⟩
end Go.Proofs.YtgpdggjpbmgegaaDoor
