/- The law MeterKeeps, walked: for a module, a name, arguments and fuel it returns true and writes nothing that was there. -/
import Derived.Test.YtgpdggjpbmgegaaDoorAwake
import Derived.Test.YtgpdggjpbmgegaaDoorBig
import Derived.Test.YtgpdggjpbmgegaaDoorSame
import Derived.Test.YtgpdggjpbmgegaaDoorAppSrc
import Derived.Test.YtgpdggjpbmgegaaDoorSpoilW
import Derived.Test.YtgpdggjpbmgegaaDoorCopy
namespace Go.Proofs.YtgpdggjpbmgegaaDoor
open Go.RowKit
set_option linter.unusedVariables false
set_option linter.unusedSimpArgs false


theorem FreshAt.form {N M : Nat} {w : World} {m : PMod} {tb tcap : Nat} {fv : Value} {zs : List (PFunc × K4)} (h : FreshAt N M w m tb tcap fv zs) : ∃ a c, fv = .slice a zs.length c := by
  obtain ⟨_, _, _, _, hr⟩ := h
  rcases hr.row.2 with ⟨e, e2⟩ | ⟨g', cap', cur, hv, _⟩
  · exact ⟨none, 0, by rw [e, e2]⟩
  · exact ⟨_, _, hv⟩

set_option maxRecDepth 100000 in
set_option maxHeartbeats 4000000 in
theorem keeps_any (v0 : Value) (m : PMod) (w : World) (hma : ModAt w.heap.size w v0 m) (hlm : LenMod m) (hr : RowsAt w) (name : ByteArray) (aa : Option Addr) (al ac : Nat) (xs : List Int) (ha : NumsAt w.heap.size w aa al xs) (fuel : Int) (hf64 : In64 fuel) :
    Calls Tryd.prog 6 #[v0, .string name, .slice aa al ac, .int .i64 fuel] w fun e w' => e = .returned (.bool true) ∧ Below w.heap.size w w' := by
  obtain ⟨i0, hi, iz0, iz1, iz2⟩ := info_parts Tryd.info64
  have hB0 := hr.1
  obtain ⟨ae, av, ast, amf, amw, hA⟩ : ∃ e v st mf mw, meterP m name xs fuel = ⟨e, v, st, mf, mw⟩ := ⟨_, _, _, _, _, rfl⟩
  have HM := Lib.hid (show ∀ (w1 : World) (hb : Below w.heap.size w w1) (hf : fuel ≤ 1099511627776),
      Calls Tryd.prog 9 #[v0, .string name, .slice aa al ac, .int .i64 fuel] w1 fun en w' => en = .returned (.agg #[.int .i64 ae, .int .i64 av, .int .i64 ast, .int .i64 amf, .int .i64 amw]) ∧ Below w1.heap.size w1 w' from by
    intro w1 hb hf
    have := meter_any (B := w1.heap.size) v0 m w1 (Nat.le_refl _) (by have := hb.size; omega) ((hma.same (Same.of' hb)).up hb.size) (hr.same (Same.of' hb) hB0 hb.size) name aa al ac xs (ha.up (Same.of' hb) hb.size) fuel hf
    rw [hA] at this
    exact this)
  have HMo := Lib.hid (show ∀ (N M : Nat) (w1 : World) (hb : Below w.heap.size w w1) (hf : fuel ≤ 1099511627776) (tb tcap : Nat) (fv : Value) (zs : List (PFunc × K4)) (h : FreshAt N M w1 m tb tcap fv zs) (la : Option Addr) (lc : Nat) (hl : NumsAt w1.heap.size w1 la al xs),
      Calls Tryd.prog 9 #[.agg #[.slice (some ⟨tb, 0, none⟩) m.thr.length tcap, fv], .string name, .slice la al lc, .int .i64 fuel] w1 fun en w' => en = .returned (.agg #[.int .i64 ae, .int .i64 av, .int .i64 ast, .int .i64 amf, .int .i64 amw]) ∧ Below w1.heap.size w1 w' from by
    intro N M w1 hb hf tb tcap fv zs h la lc hl
    have := meter_any (B := w1.heap.size) _ m w1 (Nat.le_refl _) (by have := hb.size; omega) (h.at_ hma) (hr.same (Same.of' hb) hB0 hb.size) name la al lc xs hl fuel hf
    rw [hA] at this
    exact this)
  have HS := Lib.hid (show ∀ (N M : Nat) (w1 : World) (hb : Below w.heap.size w w1) (tb tcap : Nat) (fv : Value) (zs : List (PFunc × K4)) (h : FreshAt N M w1 m tb tcap fv zs),
      Calls Tryd.prog 14 #[.agg #[.slice (some ⟨tb, 0, none⟩) m.thr.length tcap, fv], v0] w1 fun en w' => en = .returned (.bool true) ∧ Below w1.heap.size w1 w' from by
    intro N M w1 hb tb tcap fv zs h
    exact same_any w1.heap.size m _ _ w1 (Nat.le_refl _) (h.at_ hma) ((hma.same (Same.of' hb)).up hb.size))
  have HBg := Lib.hid (show ∀ (w1 : World) (hb : Below w.heap.size w w1), Calls Tryd.prog 12 #[v0] w1 (BigPost m w1) from fun w1 hb =>
    big_any w1.heap.size v0 m w1 (Nat.le_refl _) ((hma.same (Same.of' hb)).up hb.size) hlm)
  have HC := Lib.hid (show ∀ (w1 : World) (hb : Below w.heap.size w w1) (hs : SmallMod m), Calls Tryd.prog 13 #[v0] w1 (CopyMPost m w1) from fun w1 hb hs =>
    copy_any (B := w1.heap.size) v0 m w1 (Nat.le_refl _) ((hma.same (Same.of' hb)).up hb.size) hs)
  have HA := Lib.hid (show ∀ (w1 : World) (hb : Below w.heap.size w w1), Calls Tryd.prog 8 #[] w1 fun e w' => e = .returned (.bool true) ∧ Below w1.heap.size w1 w' from fun w1 hb => awake_any w1 (hr.same (Same.of' hb) hB0 hb.size))
  have Hnum := Lib.hid ha
  have hal := ha.1
  obtain ⟨_, alm, pb, po, hpa, hps⟩ := ha
  have Hps := Lib.hid hps; clear hps
  have Hpa := Lib.hid hpa; clear hpa
  unfold maxLen at alm
  have Hal := Lib.hid hal; clear hal
  obtain ⟨ta, tl, tc, fa, fl, fc, rfl, _, _⟩ := hma
  clear hr hlm
  unfold In64 at hf64
  by_cases hbig : 4194304 ≤ fuel
  · have d0 : decide ((4194304 : Int) ≤ fuel) = true := by simpa using hbig
    clear HM HMo HS HC HBg
    go_enter Tryd.func6, Tryd.ntmps6
    go_wp2_with (go_at_call 8; refine (HA.out _ (by repeat (first | with_reducible exact Below.refl _ _ | with_reducible assumption | with_reducible refine Below.drew ?_ | with_reducible refine Below.drewN ?_ _ | with_reducible refine Below.alloc ?_ (by first | omega | (simp <;> omega) | (simp at * <;> omega)) _ | with_reducible refine Below.setCell ?_ (by first | omega | (simp <;> omega) | (simp at * <;> omega)) _ | (with_reducible refine Below.trans ?_ (Below.mono (by first | with_reducible assumption | exact hF _) (by first | omega | (simp <;> omega) | (simp at * <;> omega))))))).mono ?_; rintro e w1 ⟨rfl, hb1⟩)
    go_ret
    exact ⟨rfl, (by repeat (first | with_reducible exact Below.refl _ _ | with_reducible assumption | with_reducible refine Below.drew ?_ | with_reducible refine Below.drewN ?_ _ | with_reducible refine Below.alloc ?_ (by first | omega | (simp <;> omega) | (simp at * <;> omega)) _ | with_reducible refine Below.setCell ?_ (by first | omega | (simp <;> omega) | (simp at * <;> omega)) _ | (with_reducible refine Below.trans ?_ (Below.mono (by first | with_reducible assumption | exact hF _) (by first | omega | (simp <;> omega) | (simp at * <;> omega))))))⟩
  · have d0 : decide ((4194304 : Int) ≤ fuel) = false := by simpa using hbig
    by_cases hab : 1048576 < al
    · have d1 : decide ((1048576 : Int) < (al : Int)) = true := by simpa using (by omega : (1048576 : Int) < (al : Int))
      clear HM HMo HS HC
      go_enter Tryd.func6, Tryd.ntmps6
      go_wp2_with (first
        | (go_at_call 8; refine (HA.out _ (by repeat (first | with_reducible exact Below.refl _ _ | with_reducible assumption | with_reducible refine Below.drew ?_ | with_reducible refine Below.drewN ?_ _ | with_reducible refine Below.alloc ?_ (by first | omega | (simp <;> omega) | (simp at * <;> omega)) _ | with_reducible refine Below.setCell ?_ (by first | omega | (simp <;> omega) | (simp at * <;> omega)) _ | (with_reducible refine Below.trans ?_ (Below.mono (by first | with_reducible assumption | exact hF _) (by first | omega | (simp <;> omega) | (simp at * <;> omega))))))).mono ?_; rintro e w1 ⟨rfl, hb1⟩; have hz1 : w.heap.size < w1.heap.size := (by have := hb1.size; simp at this; omega); have om := own2 (((Own.new w _ _).below hb1)))
        | (go_at_call 12; refine (HBg.out _ (by repeat (first | with_reducible exact Below.refl _ _ | with_reducible assumption | with_reducible refine Below.drew ?_ | with_reducible refine Below.drewN ?_ _ | with_reducible refine Below.alloc ?_ (by first | omega | (simp <;> omega) | (simp at * <;> omega)) _ | with_reducible refine Below.setCell ?_ (by first | omega | (simp <;> omega) | (simp at * <;> omega)) _ | (with_reducible refine Below.trans ?_ (Below.mono (by first | with_reducible assumption | exact hF _) (by first | omega | (simp <;> omega) | (simp at * <;> omega))))))).mono ?_; rintro e w2 ⟨b, rfl, hb2, hsm⟩; clear hsm; rcases b))
      all_goals
        go_ret
        exact ⟨rfl, (by repeat (first | with_reducible exact Below.refl _ _ | with_reducible assumption | with_reducible refine Below.drew ?_ | with_reducible refine Below.drewN ?_ _ | with_reducible refine Below.alloc ?_ (by first | omega | (simp <;> omega) | (simp at * <;> omega)) _ | with_reducible refine Below.setCell ?_ (by first | omega | (simp <;> omega) | (simp at * <;> omega)) _ | (with_reducible refine Below.trans ?_ (Below.mono (by first | with_reducible assumption | exact hF _) (by first | omega | (simp <;> omega) | (simp at * <;> omega))))))⟩
    · have d1 : decide ((1048576 : Int) < (al : Int)) = false := by simpa using (by omega : (al : Int) ≤ 1048576)
      go_enter Tryd.func6, Tryd.ntmps6
      go_wp2_with (first
        | (go_at_call 8; refine (HA.out _ (by repeat (first | with_reducible exact Below.refl _ _ | with_reducible assumption | with_reducible refine Below.drew ?_ | with_reducible refine Below.drewN ?_ _ | with_reducible refine Below.alloc ?_ (by first | omega | (simp <;> omega) | (simp at * <;> omega)) _ | with_reducible refine Below.setCell ?_ (by first | omega | (simp <;> omega) | (simp at * <;> omega)) _ | (with_reducible refine Below.trans ?_ (Below.mono (by first | with_reducible assumption | exact hF _) (by first | omega | (simp <;> omega) | (simp at * <;> omega))))))).mono ?_; rintro e w1 ⟨rfl, hb1⟩; have hz1 : w.heap.size < w1.heap.size := (by have := hb1.size; simp at this; omega); have om := own2 (((Own.new w _ _).below hb1)); have Om := Lib.hid (((Own.new w _ _).below hb1)))
        | (go_at_call 12; refine (HBg.out _ (by repeat (first | with_reducible exact Below.refl _ _ | with_reducible assumption | with_reducible refine Below.drew ?_ | with_reducible refine Below.drewN ?_ _ | with_reducible refine Below.alloc ?_ (by first | omega | (simp <;> omega) | (simp at * <;> omega)) _ | with_reducible refine Below.setCell ?_ (by first | omega | (simp <;> omega) | (simp at * <;> omega)) _ | (with_reducible refine Below.trans ?_ (Below.mono (by first | with_reducible assumption | exact hF _) (by first | omega | (simp <;> omega) | (simp at * <;> omega))))))).mono ?_; rintro e w2 ⟨b, rfl, hb2, hsm⟩; have hz2 : w1.heap.size ≤ w2.heap.size := (by have := hb2.size; simpa using this); have Om2 := Lib.hid (Om.out.below hb2); have om2 := own2 Om2.out; clear Om; have HSM := Lib.hid hsm; clear hsm; rcases b)
        | (go_at_call 13; refine (HC.out _ (by repeat (first | with_reducible exact Below.refl _ _ | with_reducible assumption | with_reducible refine Below.drew ?_ | with_reducible refine Below.drewN ?_ _ | with_reducible refine Below.alloc ?_ (by first | omega | (simp <;> omega) | (simp at * <;> omega)) _ | with_reducible refine Below.setCell ?_ (by first | omega | (simp <;> omega) | (simp at * <;> omega)) _ | (with_reducible refine Below.trans ?_ (Below.mono (by first | with_reducible assumption | exact hF _) (by first | omega | (simp <;> omega) | (simp at * <;> omega)))))) (by first | exact HSM.out trivial | exact HSM.out rfl | exact HSM.out)).mono ?_; rintro e w3 ⟨M, tb, tcap, fv, zs, rfl, hb3, hM3, hF3⟩; obtain ⟨ga, gc, rfl⟩ := hF3.form; have hz3 : w2.heap.size ≤ w3.heap.size := (by have := hb3.size; simpa using this); have Om3 := Lib.hid (Om2.out.below hb3); have om3 := own2 Om3.out; have HF3 := Lib.hid hF3; clear hF3)
        | (at_builtin; refine wpList_append_copy _ rfl (.tmp 29) (.tmp 30) 23 rfl 2 i0 _ 1 8 Tryd.underlying23 hi iz0 iz1 iz2 rfl (by decide) (w3.heap.size + 1) rfl ?own aa al ac (Nums xs) rfl ?c1 ?c2 ?c3 ?c4 ?c5 ?cont))
      case own => exact ownsRow_none (by simp)
      case c1 => have := Hal.out; simp [Nums]; omega
      case c2 =>
        intro h0
        obtain ⟨e0, e1⟩ := Hpa.out h0
        refine ⟨pb, po, e0, fun j u hj => ?_⟩
        have hjl : j < xs.length := by
          have := (List.getElem?_eq_some_iff.1 hj).1
          simpa [Nums] using this
        have hu := Nums_some (getD_some hjl)
        rw [hu] at hj
        cases hj
        exact ((bcell (by repeat (first | with_reducible exact Below.refl _ _ | with_reducible assumption | with_reducible refine Below.drew ?_ | with_reducible refine Below.drewN ?_ _ | with_reducible refine Below.alloc ?_ (by first | omega | (simp <;> omega) | (simp at * <;> omega)) _ | with_reducible refine Below.setCell ?_ (by first | omega | (simp <;> omega) | (simp at * <;> omega)) _ | (with_reducible refine Below.trans ?_ (Below.mono (by first | with_reducible assumption | exact hF _) (by first | omega | (simp <;> omega) | (simp at * <;> omega))))))).1 pb _ e1).trans (Hps.out j (by have := Hal.out; omega)).1
      case c3 => intro u hu; obtain ⟨n, _, rfl⟩ := List.mem_map.1 hu; rfl
      case c4 => unfold maxLen; omega
      case c5 => omega
      case cont =>
        intro b cap w5 own5 hb5 hbg
        have hz5 : w3.heap.size + 1 < w5.heap.size := by have := hb5.size; simp at this; omega
        have hz23 : w2.heap.size ≤ w3.heap.size := hz3
        have hbw5 : Below w.heap.size w w5 := (by repeat (first | with_reducible exact Below.refl _ _ | with_reducible assumption | with_reducible refine Below.drew ?_ | with_reducible refine Below.drewN ?_ _ | with_reducible refine Below.alloc ?_ (by first | omega | (simp <;> omega) | (simp at * <;> omega)) _ | with_reducible refine Below.setCell ?_ (by first | omega | (simp <;> omega) | (simp at * <;> omega)) _ | (with_reducible refine Below.trans ?_ (Below.mono (by first | with_reducible assumption | exact hF _) (by first | omega | (simp <;> omega) | (simp at * <;> omega))))))
        have Om5 := Lib.hid (((Om3.out.alloc (.cells #[.slice (some ⟨tb, 0, none⟩) m.thr.length tcap, .slice ga zs.length gc] 26)).alloc (.cells #[] 2)).of_below hb5 (by omega))
        have Oo5 := Lib.hid (((Own.new w3 [.slice (some ⟨tb, 0, none⟩) m.thr.length tcap, .slice ga zs.length gc] 26).alloc (.cells #[] 2)).of_below hb5 (by omega))
        have hb5' : Below ((w3.alloc (.cells #[.slice (some ⟨tb, 0, none⟩) m.thr.length tcap, .slice ga zs.length gc] 26)).alloc (.cells #[] 2)).heap.size ((w3.alloc (.cells #[.slice (some ⟨tb, 0, none⟩) m.thr.length tcap, .slice ga zs.length gc] 26)).alloc (.cells #[] 2)) w5 := by simpa using hb5
        have hlt := HF3.out.lt
        have F5 := Lib.hid (HF3.out.chg (S := fun _ => False) ((((Chg.refl _ _).alloc _).alloc _).trans (Chg.of hb5')) (fun h => h) (fun _ _ h => h) (fun _ _ => ⟨fun h => h, fun h => h⟩))
        have hbK : w3.heap.size < b := by rcases hbg with h | h <;> first | omega | (simp at h; omega)
        have hbl : b < w5.heap.size := (own5.lt b rfl).2
        have Hlt := Lib.hid hlt; clear hlt
        have R5 := Lib.hid own5; clear own5
        clear hb5' hb5 hbg HF3 Om3 Om2 om3 om2
        have om5 := own2 Om5.out
        have oo5 := own2 Oo5.out
        go_wp2_with (at_builtin; refine wpList_append2 _ rfl (.tmp 31) (.tmp 32) 23 rfl 2 i0 (.int .i64 0) 1 8 Tryd.underlying23 hi iz0 iz1 iz2 rfl (by decide) (.slice (some ⟨b, 0, none⟩) al cap) al (Nums xs) rfl ?d2 ⟨w5.heap.size, 0, none⟩ 1 1 [.int .i64 77] ?d3 ?d4 ?d5 ?d6 ?d7 ?d8 ?d9)
        case d2 => exact R5.out.alloc _
        case d3 => rfl
        case d4 => rfl
        case d5 =>
          intro j u hu
          have hq := (Own.new w5 [.int .i64 77] 2).2.1 j u hu
          rw [add0]; exact hq
        case d6 => intro u hu; simp only [List.mem_singleton] at hu; subst hu; rfl
        case d7 => unfold maxLen; omega
        case d8 => omega
        case d9 =>
          intro v2 w6 hown6 hgr hnn
          obtain ⟨b2, cap2, rfl⟩ : ∃ sb cap, v2 = .slice (some ⟨sb, 0, none⟩) (al + 1) cap := by
            rcases hown6.2 with ⟨_, h0⟩ | ⟨g', cap', cur, hv, _⟩
            · omega
            · exact ⟨g', cap', hv⟩
          have hc6 : al + 1 ≤ cap2 := by
            rcases hown6.2 with ⟨e, _⟩ | ⟨_, _, _, e, _, _, q1, q2, _⟩
            · cases e
            · cases e; exact q1
          have k6 : Chg (fun x => x = b) w5 w6 := (((Chg.refl (fun x => x = b) w5).alloc _).trans ((chg_grown hgr).mono (fun x _ e => by simpa [Value.ownBlock, eq_comm] using e)))
          have hb26 : w3.heap.size < b2 := by
            rcases hnn with e | ⟨e, _⟩
            · simp [Value.ownBlock] at e; omega
            · simp [Value.ownBlock] at e; omega
          have hb2l : b2 < w6.heap.size := (hown6.lt b2 rfl).2
          have hz6 := k6.size
          have hlt := Hlt.out
          have Om6 := Lib.hid (k6.own Om5.out (by omega))
          have Oo6 := Lib.hid (k6.own Oo5.out (by omega))
          have F6 := Lib.hid (F5.out.chg k6 (by omega) (fun k hk e => by have := hlt.2.1 k hk; omega) (fun z hz => by have := hlt.2.2 z hz; omega))
          have hbw6 : Below w.heap.size w w6 := hbw5.trans (k6.below w.heap.size (by omega) (fun x hx e => by omega))
          have hcell : ∀ j u, (Nums xs ++ [.int .i64 77])[j]? = some u → w6.cell? ⟨b2, j, none⟩ = some u := fun j u h => own_cells hown6 h
          have hfroz : ∀ j, w6.frozen? ⟨b2, j, none⟩ = false := RowEx.frozen ⟨_, hown6⟩
          have C6 := Lib.hid hcell; clear hcell
          have Z6 := Lib.hid hfroz; clear hfroz
          have N6 := Lib.hid (show NumsAt w6.heap.size w6 (some ⟨b2, 0, none⟩) al xs from ⟨Hal.out, by unfold maxLen; omega, b2, 0, fun _ => ⟨rfl, hb2l⟩, fun i hi => ⟨by
            have hh := Hal.out
            have := C6.out i (.int .i64 (xs.getD i 0)) (by rw [List.getElem?_append_left (by simp [Nums]; omega)]; exact Nums_some (getD_some (by omega)))
            simpa using this, (Hps.out i hi).2⟩⟩)
          clear hown6 hgr hnn k6 om5 oo5 Om5 Oo5 F5 R5 hbw5
          have om6 := own2 Om6.out
          have oo6 := own2 Oo6.out
          have hzw6 : w.heap.size < w6.heap.size := by omega
          have HFb := Lib.hid (show ∀ (W : World) (hb : Below w6.heap.size w6 W), FreshAt w2.heap.size M W m tb tcap (.slice ga zs.length gc) zs from fun W hb => F6.out.chg (S := fun _ => False) (Chg.of hb) (fun h => h) (fun _ _ h => h) (fun _ _ => ⟨fun h => h, fun h => h⟩))
          have c77 := C6.out al (.int .i64 77) (by have := Hal.out; rw [List.getElem?_append_right (by simp [Nums]; omega)]; simp [Nums, this])
          have hwal : IntKind.i64.wrap ((al : Int) + 1) = (al : Int) + 1 := IntWalk.i64_in _ (by omega)
          have hwal0 : IntKind.i64.wrap (al : Int) = (al : Int) := IntWalk.i64_in _ (by omega)
          have C77 := Lib.hid c77; clear c77
          go_wp2_with (first
            | (go_at_call 9; refine (HMo.out _ _ _ hbw6 (by omega) _ _ _ _ F6.out _ _ N6.out).mono ?_; rintro e w7 ⟨rfl, hb7⟩; have hz7 : w6.heap.size ≤ w7.heap.size := hb7.size; have Om7 := Lib.hid (Om6.out.below hb7); have Oo7 := Lib.hid (Oo6.out.below hb7); have om7 := own2 Om7.out; have oo7 := own2 Oo7.out; have c77 := ((bcell hb7).1 b2 al hb2l).trans C77.out; have hb27 : b2 < w7.heap.size := (by omega); clear N6 HMo)
            | (go_at_call 14; refine (HS.out _ _ _ (by repeat (first | with_reducible exact Below.refl _ _ | with_reducible assumption | with_reducible refine Below.drew ?_ | with_reducible refine Below.drewN ?_ _ | with_reducible refine Below.alloc ?_ (by first | omega | (simp <;> omega) | (simp at * <;> omega)) _ | with_reducible refine Below.setCell ?_ (by first | omega | (simp <;> omega) | (simp at * <;> omega)) _ | (with_reducible refine Below.trans ?_ (Below.mono (by first | with_reducible assumption | exact hF _) (by first | omega | (simp <;> omega) | (simp at * <;> omega)))))) _ _ _ _ (HFb.out _ (by repeat (first | with_reducible exact Below.refl _ _ | with_reducible assumption | with_reducible refine Below.drew ?_ | with_reducible refine Below.drewN ?_ _ | with_reducible refine Below.alloc ?_ (by first | omega | (simp <;> omega) | (simp at * <;> omega)) _ | with_reducible refine Below.setCell ?_ (by first | omega | (simp <;> omega) | (simp at * <;> omega)) _ | (with_reducible refine Below.trans ?_ (Below.mono (by first | with_reducible assumption | exact hF _) (by first | omega | (simp <;> omega) | (simp at * <;> omega)))))))).mono ?_; rintro e w8 ⟨rfl, hb8⟩; have hz8 : w7.heap.size < w8.heap.size := (by have := hb8.size; simp at this; omega); have O8 := Lib.hid ((Own.new w7 _ _).below hb8); have hb68 : Below w6.heap.size w6 w8 := (by repeat (first | with_reducible exact Below.refl _ _ | with_reducible assumption | with_reducible refine Below.drew ?_ | with_reducible refine Below.drewN ?_ _ | with_reducible refine Below.alloc ?_ (by first | omega | (simp <;> omega) | (simp at * <;> omega)) _ | with_reducible refine Below.setCell ?_ (by first | omega | (simp <;> omega) | (simp at * <;> omega)) _ | (with_reducible refine Below.trans ?_ (Below.mono (by first | with_reducible assumption | exact hF _) (by first | omega | (simp <;> omega) | (simp at * <;> omega)))))); clear HS))
          have Om8 := Lib.hid (Om6.out.below hb68)
          have Oo8 := Lib.hid (Oo6.out.below hb68)
          have F8 := Lib.hid (HFb.out w8 hb68)
          have hbw8 : Below w.heap.size w w8 := hbw6.trans (Below.mono hb68 (by omega))
          have HB8 := Lib.hid hbw8
          have C8 := Lib.hid (show ∀ j, j < al → w8.cell? ⟨b2, j, none⟩ = some (.int .i64 (xs.getD j 0)) from fun j hj => ((bcell hb68).1 b2 j hb2l).trans (C6.out j _ (by have hh := Hal.out; rw [List.getElem?_append_left (by simp [Nums]; omega)]; exact Nums_some (getD_some (by omega)))))
          have Z8 := Lib.hid (show ∀ j, w8.frozen? ⟨b2, j, none⟩ = false from fun j => ((bcell hb68).2 b2 j hb2l).trans (Z6.out j))
          have hz68 : w6.heap.size ≤ w7.heap.size := hz7
          clear hb68 hbw8 hb8 hb7 C6 Z6 HFb F6 Om7 Oo7 om6 oo6 om7 oo7 c77 C77 hbw6 Om6 Oo6
          go_loopw [61] (fun i wr => ∃ k : Nat, k ≤ al ∧ i = .int .i64 k ∧ Hid (Chg (fun x => x = b2) w8 wr) ∧ Hid (∀ j, k ≤ j → j < al → wr.cell? ⟨b2, j, none⟩ = some (.int .i64 (xs.getD j 0))) ∧ Hid (∀ j, wr.frozen? ⟨b2, j, none⟩ = false)) (fun i _ => al - (intOf i).toNat)
          case atStart => exact ⟨0, Nat.zero_le _, rfl, Lib.hid (Chg.refl _ _), Lib.hid (fun j _ hj => C8.out j hj), Z8⟩
          case round =>
            obtain ⟨k, hk, rfl, hch, hcs, hfs⟩ := hrel
            have hzr := hch.out.size
            have hbr : Below w.heap.size w wr := HB8.out.trans (hch.out.below w.heap.size (by omega) (fun x hx e => by omega))
            by_cases hlt : k < al
            · have d2 : (k : Int) < (al : Int) := by omega
              obtain ⟨rfl, hpb⟩ := Hpa.out (by omega)
              have hwk : IntKind.i64.wrap ((k : Int) + 1) = (k : Int) + 1 := IntWalk.i64_in _ (by omega)
              have hwk0 : IntKind.i64.wrap (k : Int) = (k : Int) := IntWalk.i64_in _ (by omega)
              have c1 := hcs.out k (Nat.le_refl _) hlt
              have f1 := hfs.out k
              have c2 := ((bcell hbr).1 pb (po + k) hpb).trans (Hps.out k hlt).1
              have hb2r : b2 < wr.heap.size := by omega
              have hpbr : pb < wr.heap.size := by omega
              generalize xs.getD k 0 = xk at *
              go_wp2
              refine wp_still 8 (by kernel_rfl) (by kernel_rfl) ?_; simp only [List.take_succ_cons, List.take_zero, List.drop_succ_cons, List.drop_zero]; repeat (refine WS_step (fun K hK => ?_); go_simp; refine hK _ ?_; clear hK K)
              refine WS_nil ?_; go_wp2
              go_roundw
              case rel =>
                refine ⟨k + 1, by omega, by simp, Lib.hid ?_, Lib.hid ?_, Lib.hid ?_⟩
                · exact (hch.out.setCell (p := ⟨b2, k, none⟩) (.inl rfl) _).drew
                · intro j hj1 hj2
                  have := hcs.out j (by omega) hj2
                  have hne := World.cell?_setCell_other wr ⟨b2, k, none⟩ ⟨b2, j, none⟩ (.int .i64 (-3)) (by intro x; injection x; omega)
                  simpa [this] using hne
                · intro j
                  have := hfs.out j
                  simpa using this
              case measure => go_light; first | omega | (simp only [intOf]; omega)
            · have hkn : k = al := by omega
              subst hkn
              have d2 : ¬ (k : Int) < (k : Int) := by omega
              have Omr := Lib.hid (hch.out.own Om8.out (by omega))
              have Oor := Lib.hid (hch.out.own Oo8.out (by omega))
              have Or := Lib.hid (hch.out.own O8.out (by omega))
              have hlt := Hlt.out
              have Fr := Lib.hid (F8.out.chg hch.out (by omega) (fun x hx e => by have := hlt.2.1 x hx; omega) (fun z hz => by have := hlt.2.2 z hz; omega))
              have hspoil := spoil_any (N := w2.heap.size) (M := M) (K := w3.heap.size) m wr tb tcap (.slice ga zs.length gc) zs Fr.out (by omega) (by omega) (by first | exact HSM.out trivial | exact HSM.out rfl | exact HSM.out) (by omega) hlt.1 hlt.2.1 hlt.2.2
              have HSP := Lib.hid hspoil; clear hspoil
              have omr := own2 Omr.out
              have oor := own2 Oor.out
              go_wp2_with (go_at_call 15; refine HSP.out.mono ?_; rintro e w9 ⟨rfl, hc9⟩; have hz9 : wr.heap.size ≤ w9.heap.size := hc9.size; have Om9 := Lib.hid (hc9.own Omr.out (by omega)); have O9 := Lib.hid (hc9.own Or.out (by omega)); have om9 := own2 Om9.out; have oo9 := own5 O9.out; have hb9 : Below w.heap.size w w9 := hbr.trans (hc9.below w.heap.size (by omega) (fun x hx e => by omega)))
              refine wp_below_tail 6 (by kernel_rfl) (by kernel_rfl) (fun T F hF hall => ?_); simp only [List.take_succ_cons, List.take_zero, List.drop_succ_cons, List.drop_zero]; have hFc := fun t => (bcell (hF t)).1; have hFf := fun t => (bcell (hF t)).2; have hFs := fun t => (hF t).size; have hNE : Nonempty T := (hall _ (Below.refl _ _)).elim fun t _ => ⟨t⟩; repeat (refine WQ_step (fun K hK => ?_); go_simp; refine hK _ ?_; clear hK K)
              (refine WQ_step (fun K hK => ?_); go_simp; refine ⟨_, fun t => calls_family (hF t) hall (HM.out (F t) (hb9.trans (Below.mono (hF t) hb9.size)) (by omega)), hK _ ?_⟩; clear hK K)
              repeat (refine WQ_step (fun K hK => ?_); go_simp; refine hK _ ?_; clear hK K)
              refine WQ_nil (fun t => ?_)
              have hft := hF t
              have hbF := hb9.trans (Below.mono hft hb9.size)
              go_wp2
              go_ret
              exact ⟨rfl, (by repeat (first | with_reducible exact Below.refl _ _ | with_reducible assumption | with_reducible refine Below.drew ?_ | with_reducible refine Below.drewN ?_ _ | with_reducible refine Below.alloc ?_ (by first | omega | (simp <;> omega) | (simp at * <;> omega)) _ | with_reducible refine Below.setCell ?_ (by first | omega | (simp <;> omega) | (simp at * <;> omega)) _ | (with_reducible refine Below.trans ?_ (Below.mono (by first | with_reducible assumption | exact hF _) (by first | omega | (simp <;> omega) | (simp at * <;> omega))))))⟩
      · go_ret
        exact ⟨rfl, (by repeat (first | with_reducible exact Below.refl _ _ | with_reducible assumption | with_reducible refine Below.drew ?_ | with_reducible refine Below.drewN ?_ _ | with_reducible refine Below.alloc ?_ (by first | omega | (simp <;> omega) | (simp at * <;> omega)) _ | with_reducible refine Below.setCell ?_ (by first | omega | (simp <;> omega) | (simp at * <;> omega)) _ | (with_reducible refine Below.trans ?_ (Below.mono (by first | with_reducible assumption | exact hF _) (by first | omega | (simp <;> omega) | (simp at * <;> omega))))))⟩
end Go.Proofs.YtgpdggjpbmgegaaDoor
