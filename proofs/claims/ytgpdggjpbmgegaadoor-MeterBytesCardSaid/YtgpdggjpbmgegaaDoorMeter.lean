/- meter.Run, for any module, name, arguments and fuel: what it answers is the plain function meterP. -/
import Derived.Test.YtgpdggjpbmgegaaDoorRun
namespace Go.Proofs.YtgpdggjpbmgegaaDoor
open Go.RowKit
set_option linter.unusedVariables false
set_option linter.unusedSimpArgs false


def outV (R : POut) : Value := .agg #[.int .i64 R.e, .int .i64 R.v, .int .i64 R.steps, .int .i64 R.mf, .int .i64 R.mw]

theorem ModAt.ins64 {B : Nat} {w : World} {v : Value} {m : PMod} (h : ModAt B w v m) : ∀ k i, k < m.funcs.length → i < (fnAt m k).code.length → InsOk ((fnAt m k).code.getD i default) := by
  obtain ⟨_, _, _, _, _, _, _, _, hl, _, b, o, _, H, hc⟩ := h
  intro k i hk hi
  obtain ⟨_, _, _, ⟨cl, _, cb, co, _, hcs⟩, _⟩ := hc k (by omega)
  exact (hcs i (by unfold fnAt at hi; omega)).2
theorem NumsAt.in64 {B : Nat} {w : World} {a : Option Addr} {n : Nat} {zs : List Int} (h : NumsAt B w a n zs) : ∀ v ∈ zs, In64 v := by
  obtain ⟨h1, _, b, o, _, h4⟩ := h
  intro v hv
  obtain ⟨i, hi, rfl⟩ := List.getElem_of_mem hv
  have := (h4 i (by omega)).2
  simpa [List.getD_eq_getElem?_getD, List.getElem?_eq_getElem hi] using this

theorem BaseAt.up {B B' : Nat} {a : Option Addr} {n b o : Nat} (h : BaseAt B a n b o) (hB : B ≤ B') : BaseAt B' a n b o := fun h0 => ⟨(h h0).1, Nat.lt_of_lt_of_le (h h0).2 hB⟩
theorem ModAt.up {B B' : Nat} {w : World} {v : Value} {m : PMod} (h : ModAt B w v m) (hB : B ≤ B') : ModAt B' w v m := by
  obtain ⟨ta, tl, tc, fa, fl, fc, rfl, h1, h2, h3, b, o, h4, H, h5⟩ := h
  refine ⟨ta, tl, tc, fa, fl, fc, rfl, h1.up (Same.refl _ _) hB, h2, h3, b, o, h4.up hB, H, fun i hi => ?_⟩
  obtain ⟨k1, k2, ⟨q1, q2, pb, po, q3, q4⟩, ⟨c1, c2, cb, co, c3, c4⟩, k5, k6⟩ := h5 i hi
  exact ⟨k1, k2, ⟨q1, q2, pb, po, q3.up hB, q4⟩, ⟨c1, c2, cb, co, c3.up hB, c4⟩, k5, k6⟩
theorem Own.of_below {w w' : World} {B k : Nat} {cs : List Value} (h : Own w k cs) (hb : Below B w w') (hk : k < B) : Own w' k cs :=
  ⟨Nat.lt_of_lt_of_le h.1 hb.size, fun i v hv => by rw [hb.cell (p := ⟨k, i, none⟩) hk]; exact h.2.1 i v hv, fun i => by rw [hb.frozen (p := ⟨k, i, none⟩) hk]; exact h.2.2 i⟩
theorem own5_set {w : World} {k : Nat} {a b c d e : Value} (h : Own w k [a, b, c, d, e]) (x y z u v : Value) :
    Own (((((w.setCell ⟨k, 0, none⟩ x).setCell ⟨k, 1, none⟩ y).setCell ⟨k, 2, none⟩ z).setCell ⟨k, 3, none⟩ u).setCell ⟨k, 4, none⟩ v) k [x, y, z, u, v] :=
  ((((h.set 0 x (by simp)).set 1 y (by simp)).set 2 z (by simp)).set 3 u (by simp)).set 4 v (by simp)
/-- the end of meter.Run: what lies in its result's variable -/
theorem meter_end (Q : Ending → World → Prop) (T : Array Value) (W : World) (k : Nat) (e v st mf mw : Int) (ho : Own W k [.int .i64 e, .int .i64 v, .int .i64 st, .int .i64 mf, .int .i64 mw]) (hT : T[8]? = some (.pointer (some ⟨k, 0, none⟩))) (x : Exit) (hx : x = .ret ∨ x = .normal)
    (hq : Q (.returned (outV ⟨e, v, st, mf, mw⟩)) W) : bodyPost Tryd.prog Tryd.f9 Q x { tmps := T, defers := [] } W := by
  obtain ⟨_, r0, r1, r2, r3, r4, _⟩ := own5 ho
  have hr : (results Tryd.f9 T).run Tryd.prog W = .ok (outV ⟨e, v, st, mf, mw⟩) W := by
    simp [outV, results, Tryd.results9, go_sem, hT, r0, r1, r2, r3, r4]
  rcases hx with rfl | rfl
  · exact bodyPost_ret hr rfl hq
  · exact ⟨rfl, _, hr, hq⟩

set_option maxRecDepth 100000 in
set_option maxHeartbeats 2000000 in
theorem meter_any {B : Nat} (v : Value) (m : PMod) (w : World) (hB : B ≤ w.heap.size) (hB0 : 0 < B) (hma : ModAt B w v m) (hr : RowsAt w) (name : ByteArray) (aa : Option Addr) (al ac : Nat) (xs : List Int) (ha : NumsAt B w aa al xs) (fuel : Int) (hf : fuel ≤ 1099511627776) :
    Calls Tryd.prog 9 #[v, .string name, .slice aa al ac, .int .i64 fuel] w fun e w' => e = .returned (outV (meterP m name xs fuel)) ∧ Below B w w' := by
  have h64 := hma.ins64
  have ha64 := ha.in64
  have hma0 := hma
  obtain ⟨ta, tl, tc, fa, fl, fc, rfl, _, _⟩ := hma
  have Hma := Lib.hid hma0; clear hma0
  have Ha := Lib.hid ha; clear ha
  have Hrow := Lib.hid hr; clear hr
  have HMay := Lib.hid (show ∀ w1, w.heap.size ≤ w1.heap.size → Same B w w1 → Calls Tryd.prog 18 #[.agg #[.slice ta tl tc, .slice fa fl fc]] w1 fun e w' => e = .returned (.agg #[.int .i64 (mayP m).e, .int .i64 (mayP m).f, .int .i64 (mayP m).at_]) ∧ Below w1.heap.size w1 w' from fun w1 hz hs =>
    may_any B _ m w1 (by omega) hB0 (Hma.out.same hs) (Hrow.out.same hs hB0 hz))
  by_cases h0 : fuel < 0
  · have HX : meterP m name xs fuel = ⟨1, 0, 0, 0, 0⟩ := by unfold meterP; rw [if_pos h0]
    have HY := Lib.hid HX; clear HX
    have d0 : decide (fuel < 0) = true := by simpa using h0
    clear h0
    go_enter Tryd.func9, Tryd.ntmps9
    go_wp2
    refine bodyPost_ret (v := outV ⟨1, 0, 0, 0, 0⟩) (by simp [outV, results, Tryd.results9, go_sem]) rfl ⟨?_, (by repeat (first | with_reducible exact Below.refl _ _ | with_reducible assumption | with_reducible refine Below.drew ?_ | with_reducible refine Below.drewN ?_ _ | with_reducible refine Below.alloc ?_ (by first | omega | (simp <;> omega) | (simp at * <;> omega)) _ | with_reducible refine Below.setCell ?_ (by first | omega | (simp <;> omega) | (simp at * <;> omega)) _ | (with_reducible refine Below.trans ?_ (Below.mono (by first | with_reducible assumption | exact hF _) (by first | omega | (simp <;> omega) | (simp at * <;> omega))))))⟩
    rw [HY.out]
  · have d0 : decide (fuel < 0) = false := by simpa using h0
    by_cases h1 : (mayP m).e ≠ 0
    · have HX : meterP m name xs fuel = ⟨(mayP m).e, 0, 0, 0, 0⟩ := by unfold meterP; rw [if_neg h0, if_pos h1]
      have HY := Lib.hid HX; clear HX
      have d1 : ((mayP m).e != 0) = true := by simpa using h1
      generalize (mayP m).e = me at *
      generalize (mayP m).f = mf at *
      generalize (mayP m).at_ = mt at *
      clear h0 h1
      go_enter Tryd.func9, Tryd.ntmps9
      go_wp2_with (go_at_call 18; refine (HMay.out _ (by first | omega | (simp <;> omega) | (simp at * <;> omega)) (by repeat (first | with_reducible exact Same.refl _ _ | with_reducible assumption | with_reducible refine Same.drew ?_ | with_reducible refine Same.drewN ?_ _ | with_reducible refine Same.alloc ?_ (by first | omega | (simp <;> omega) | (simp at * <;> omega)) _ | with_reducible refine Same.setCell ?_ (by first | omega | (simp <;> omega) | (simp at * <;> omega)) _ | (with_reducible refine Same.trans ?_ (Same.of (by assumption) (by first | omega | (simp <;> omega) | (simp at * <;> omega))))))).mono ?_; rintro e w1 ⟨rfl, hb1⟩; have hz1 : w.heap.size + 2 ≤ w1.heap.size := (by have := hb1.size; simp at this; omega); have ore : Own w1 (w.heap.size + 1) [.int .i64 0, .int .i64 0, .int .i64 0, .int .i64 0, .int .i64 0] := (Own.new' _ _ _ _ (by simp)).below hb1; have o5 := own5 ore; have s5 := set5 ore; have Ore := Lib.hid ore; clear ore; have Om : Hid (Own w1 w.heap.size [.slice ta tl tc, .slice fa fl fc]) := Lib.hid (((Own.new w _ _).alloc _).below hb1))
      refine meter_end _ _ _ (w.heap.size + 1) me 0 0 0 0 ((own5_set Ore.out _ _ _ _ _).alloc _) rfl _ (by simp) ⟨?_, (by repeat (first | with_reducible exact Below.refl _ _ | with_reducible assumption | with_reducible refine Below.drew ?_ | with_reducible refine Below.drewN ?_ _ | with_reducible refine Below.alloc ?_ (by first | omega | (simp <;> omega) | (simp at * <;> omega)) _ | with_reducible refine Below.setCell ?_ (by first | omega | (simp <;> omega) | (simp at * <;> omega)) _ | (with_reducible refine Below.trans ?_ (Below.mono (by first | with_reducible assumption | exact hF _) (by first | omega | (simp <;> omega) | (simp at * <;> omega))))))⟩
      rw [HY.out]
    · have d1 : ((mayP m).e != 0) = false := by simpa using h1
      have hm : Fine m := fine_of (Decidable.not_not.1 h1)
      have HX : meterP m name xs fuel = if findZ m.funcs name < 0 then ⟨8, 0, 0, 0, 0⟩ else if fitsB (fnAt m (findZ m.funcs name).toNat).params xs = false then ⟨2, 0, 0, 0, 0⟩ else runP m 64 (fuel.toNat + 1) fuel 0 (beginP m (findZ m.funcs name).toNat xs) := by
        unfold meterP; rw [if_neg h0, if_neg h1]
      have HY := Lib.hid HX; clear HX
      generalize (mayP m).e = me at *
      generalize (mayP m).f = mf at *
      generalize (mayP m).at_ = mt at *
      clear h0 h1
      go_enter Tryd.func9, Tryd.ntmps9
      go_wp2_with (go_at_call 18; refine (HMay.out _ (by first | omega | (simp <;> omega) | (simp at * <;> omega)) (by repeat (first | with_reducible exact Same.refl _ _ | with_reducible assumption | with_reducible refine Same.drew ?_ | with_reducible refine Same.drewN ?_ _ | with_reducible refine Same.alloc ?_ (by first | omega | (simp <;> omega) | (simp at * <;> omega)) _ | with_reducible refine Same.setCell ?_ (by first | omega | (simp <;> omega) | (simp at * <;> omega)) _ | (with_reducible refine Same.trans ?_ (Same.of (by assumption) (by first | omega | (simp <;> omega) | (simp at * <;> omega))))))).mono ?_; rintro e w1 ⟨rfl, hb1⟩; have hz1 : w.heap.size + 2 ≤ w1.heap.size := (by have := hb1.size; simp at this; omega); have ore : Own w1 (w.heap.size + 1) [.int .i64 0, .int .i64 0, .int .i64 0, .int .i64 0, .int .i64 0] := (Own.new' _ _ _ _ (by simp)).below hb1; have o5 := own5 ore; have s5 := set5 ore; have Ore := Lib.hid ore; clear ore; have Om : Hid (Own w1 w.heap.size [.slice ta tl tc, .slice fa fl fc]) := Lib.hid (((Own.new w _ _).alloc _).below hb1))
      have hE : Own ((w1.alloc (.cells #[.int .i64 me, .int .i64 mf, .int .i64 mt] 32)).alloc (.cells #[.int .i64 0, .int .i64 0, .int .i64 0, .int .i64 0, .int .i64 0, .int .i64 64, .pointer none, .slice none 0 0, .int .i64 0, .bool false, .slice none 0 0, .int .i64 fuel] 59)) (w1.heap.size + 1)
          (engC 0 0 0 0 0 64 (.pointer none) (.slice none 0 0) 0 false (.slice none 0 0) ++ [.int .i64 fuel]) := Own.new' _ (engC 0 0 0 0 0 64 (.pointer none) (.slice none 0 0) 0 false (.slice none 0 0) ++ [.int .i64 fuel]) _ _ (by simp)
      have hBeg := begin_any (B := w1.heap.size + 1) (m := m) _ hm (w1.heap.size + 1) 64 [.int .i64 fuel] hE (Nat.le_refl _) (by simp) w.heap.size (by omega) (by simp; omega) ta fa tl tc fl fc
        ((Om.out.alloc _).alloc _ |>.2.1 0 _ rfl) ((Om.out.alloc _).alloc _ |>.2.1 1 _ rfl) ((Hma.out.same (by repeat (first | with_reducible exact Same.refl _ _ | with_reducible assumption | with_reducible refine Same.drew ?_ | with_reducible refine Same.drewN ?_ _ | with_reducible refine Same.alloc ?_ (by first | omega | (simp <;> omega) | (simp at * <;> omega)) _ | with_reducible refine Same.setCell ?_ (by first | omega | (simp <;> omega) | (simp at * <;> omega)) _ | (with_reducible refine Same.trans ?_ (Same.of (by assumption) (by first | omega | (simp <;> omega) | (simp at * <;> omega))))))).up (by omega)) name aa al ac xs (Ha.out.up (by repeat (first | with_reducible exact Same.refl _ _ | with_reducible assumption | with_reducible refine Same.drew ?_ | with_reducible refine Same.drewN ?_ _ | with_reducible refine Same.alloc ?_ (by first | omega | (simp <;> omega) | (simp at * <;> omega)) _ | with_reducible refine Same.setCell ?_ (by first | omega | (simp <;> omega) | (simp at * <;> omega)) _ | (with_reducible refine Same.trans ?_ (Same.of (by assumption) (by first | omega | (simp <;> omega) | (simp at * <;> omega)))))) (by omega))
      have HBeg := Lib.hid hBeg; clear hBeg
      by_cases h2 : findZ m.funcs name < 0
      · have HX := HY.out
        rw [if_pos h2] at HX
        have hBeg := HBeg.out
        simp only [if_pos h2] at hBeg
        have HB2 := Lib.hid hBeg; clear hBeg h2
        go_wp2_with (go_at_call 19; refine HB2.out.mono ?_; rintro e w2 ⟨rfl, hb2⟩; have ore2 := ((Ore.out.alloc _).alloc _).of_below hb2 (by omega); have o5 := own5 ore2; have s5 := set5 ore2; have Ore2 := Lib.hid ore2; clear ore2)
        have hc2 : Below B w w2 := Below.trans (b := (w1.alloc (.cells #[.int .i64 me, .int .i64 mf, .int .i64 mt] 32)).alloc (.cells #[.int .i64 0, .int .i64 0, .int .i64 0, .int .i64 0, .int .i64 0, .int .i64 64, .pointer none, .slice none 0 0, .int .i64 0, .bool false, .slice none 0 0, .int .i64 fuel] 59)) (by repeat (first | with_reducible exact Below.refl _ _ | with_reducible assumption | with_reducible refine Below.drew ?_ | with_reducible refine Below.drewN ?_ _ | with_reducible refine Below.alloc ?_ (by first | omega | (simp <;> omega) | (simp at * <;> omega)) _ | with_reducible refine Below.setCell ?_ (by first | omega | (simp <;> omega) | (simp at * <;> omega)) _ | (with_reducible refine Below.trans ?_ (Below.mono (by first | with_reducible assumption | exact hF _) (by first | omega | (simp <;> omega) | (simp at * <;> omega)))))) (Below.mono hb2 (by omega))
        refine meter_end _ _ _ (w.heap.size + 1) 8 0 0 0 0 (own5_set Ore2.out _ _ _ _ _) rfl _ (by simp) ⟨?_, (by repeat (first | with_reducible exact Below.refl _ _ | with_reducible assumption | with_reducible refine Below.drew ?_ | with_reducible refine Below.drewN ?_ _ | with_reducible refine Below.alloc ?_ (by first | omega | (simp <;> omega) | (simp at * <;> omega)) _ | with_reducible refine Below.setCell ?_ (by first | omega | (simp <;> omega) | (simp at * <;> omega)) _ | (with_reducible refine Below.trans ?_ (Below.mono (by first | with_reducible assumption | exact hF _) (by first | omega | (simp <;> omega) | (simp at * <;> omega))))))⟩
        rw [HX]
      · have HX := HY.out
        rw [if_neg h2] at HX
        have hBeg := HBeg.out
        simp only [if_neg h2] at hBeg
        have hkl : (findZ m.funcs name).toNat < m.funcs.length := by have := findZ_bd m.funcs name; omega
        by_cases h3 : fitsB (fnAt m (findZ m.funcs name).toNat).params xs = false
        · rw [if_pos h3] at HX
          simp only [if_pos h3] at hBeg
          have HB2 := Lib.hid hBeg; clear hBeg h2 h3
          go_wp2_with (go_at_call 19; refine HB2.out.mono ?_; rintro e w2 ⟨rfl, hb2⟩; have ore2 := ((Ore.out.alloc _).alloc _).of_below hb2 (by omega); have o5 := own5 ore2; have s5 := set5 ore2; have Ore2 := Lib.hid ore2; clear ore2)
          have hc2 : Below B w w2 := Below.trans (b := (w1.alloc (.cells #[.int .i64 me, .int .i64 mf, .int .i64 mt] 32)).alloc (.cells #[.int .i64 0, .int .i64 0, .int .i64 0, .int .i64 0, .int .i64 0, .int .i64 64, .pointer none, .slice none 0 0, .int .i64 0, .bool false, .slice none 0 0, .int .i64 fuel] 59)) (by repeat (first | with_reducible exact Below.refl _ _ | with_reducible assumption | with_reducible refine Below.drew ?_ | with_reducible refine Below.drewN ?_ _ | with_reducible refine Below.alloc ?_ (by first | omega | (simp <;> omega) | (simp at * <;> omega)) _ | with_reducible refine Below.setCell ?_ (by first | omega | (simp <;> omega) | (simp at * <;> omega)) _ | (with_reducible refine Below.trans ?_ (Below.mono (by first | with_reducible assumption | exact hF _) (by first | omega | (simp <;> omega) | (simp at * <;> omega)))))) (Below.mono hb2 (by omega))
          refine meter_end _ _ _ (w.heap.size + 1) 2 0 0 0 0 (own5_set Ore2.out _ _ _ _ _) rfl _ (by simp) ⟨?_, (by repeat (first | with_reducible exact Below.refl _ _ | with_reducible assumption | with_reducible refine Below.drew ?_ | with_reducible refine Below.drewN ?_ _ | with_reducible refine Below.alloc ?_ (by first | omega | (simp <;> omega) | (simp at * <;> omega)) _ | with_reducible refine Below.setCell ?_ (by first | omega | (simp <;> omega) | (simp at * <;> omega)) _ | (with_reducible refine Below.trans ?_ (Below.mono (by first | with_reducible assumption | exact hF _) (by first | omega | (simp <;> omega) | (simp at * <;> omega))))))⟩
          rw [HX]
        · rw [if_neg h3] at HX
          simp only [if_neg h3] at hBeg
          have hI := begin_inv hm hkl h3 ha64
          have HI := Lib.hid hI; clear hI
          have HB2 := Lib.hid hBeg; clear hBeg h2 h3
          have HXh := Lib.hid HX; clear HX
          have hf0 : 0 ≤ fuel := by simpa using d0
          go_wp2_with (first
            | (go_at_call 19; refine HB2.out.mono ?_; rintro e w2 ⟨rfl, hb2, g, i, hie, hgk, hEng⟩; have hc2 : Below B w w2 := Below.trans (b := (w1.alloc (.cells #[.int .i64 me, .int .i64 mf, .int .i64 mt] 32)).alloc (.cells #[.int .i64 0, .int .i64 0, .int .i64 0, .int .i64 0, .int .i64 0, .int .i64 64, .pointer none, .slice none 0 0, .int .i64 0, .bool false, .slice none 0 0, .int .i64 fuel] 59)) (by repeat (first | with_reducible exact Below.refl _ _ | with_reducible assumption | with_reducible refine Below.drew ?_ | with_reducible refine Below.drewN ?_ _ | with_reducible refine Below.alloc ?_ (by first | omega | (simp <;> omega) | (simp at * <;> omega)) _ | with_reducible refine Below.setCell ?_ (by first | omega | (simp <;> omega) | (simp at * <;> omega)) _ | (with_reducible refine Below.trans ?_ (Below.mono (by first | with_reducible assumption | exact hF _) (by first | omega | (simp <;> omega) | (simp at * <;> omega)))))) (Below.mono hb2 (by omega)); have HEng := Lib.hid hEng; clear hEng; have Hie := Lib.hid hie; clear hie; have Hgk := Lib.hid hgk; clear hgk)
            | (go_at_call 20; refine (run_any w2 hm h64 fuel HEng.out HI.out (Hrow.out.same (Same.of' hc2) hB0 hc2.size) (by omega) hf0 hf _ Hie.out).mono ?_; rintro e w3 ⟨rfl, hb3, hRR⟩; obtain ⟨tl, ho3⟩ := hRR _ rfl; have ore2 := (((Ore.out.alloc _).alloc _).of_below hb2 (by omega)).of_below hb3 (by omega); have o5 := own5 ore2; have s5 := set5 ore2; have Ore2 := Lib.hid ore2; clear ore2; have q0 := ho3.2.1 0 _ rfl; have q1 := ho3.2.1 1 _ rfl; have q2 := ho3.2.1 2 _ rfl; have q3 := ho3.2.1 3 _ rfl; have q4 := ho3.2.1 4 _ rfl; clear hRR))
          have hc3 : Below B w w3 := Below.trans hc2 (Below.mono hb3 (by omega))
          refine meter_end _ _ _ (w.heap.size + 1) _ _ _ _ _ (own5_set Ore2.out _ _ _ _ _) rfl _ (by simp) ⟨?_, (by repeat (first | with_reducible exact Below.refl _ _ | with_reducible assumption | with_reducible refine Below.drew ?_ | with_reducible refine Below.drewN ?_ _ | with_reducible refine Below.alloc ?_ (by first | omega | (simp <;> omega) | (simp at * <;> omega)) _ | with_reducible refine Below.setCell ?_ (by first | omega | (simp <;> omega) | (simp at * <;> omega)) _ | (with_reducible refine Below.trans ?_ (Below.mono (by first | with_reducible assumption | exact hF _) (by first | omega | (simp <;> omega) | (simp at * <;> omega))))))⟩
          rw [HXh.out]
end Go.Proofs.YtgpdggjpbmgegaaDoor
