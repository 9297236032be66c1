import Derived.Test.YtgpdggjpbmgegaaDoorInstr
import Derived.IntWalk
namespace Go.Proofs.YtgpdggjpbmgegaaDoor
open Go.RowKit
set_option linter.unusedVariables false
set_option linter.unusedSimpArgs false


theorem RowsAt.below {w w' : World} (h : RowsAt w) (hb : Below w.heap.size w w') : RowsAt w' := h.same (Same.of hb (Nat.le_refl _)) h.1 hb.size

set_option maxRecDepth 100000 in
set_option maxHeartbeats 2000000 in
theorem may_any (B : Nat) (v : Value) (m : PMod) (w : World) (hB : B ≤ w.heap.size) (hB0 : 0 < B) (hm : ModAt B w v m) (hr : RowsAt w) :
    Calls Tryd.prog 18 #[v] w fun e w' => e = .returned (.agg #[.int .i64 (mayP m).e, .int .i64 (mayP m).f, .int .i64 (mayP m).at_]) ∧ Below w.heap.size w w' := by
  have hm0 := hm
  obtain ⟨ta, tl, tc, fa, fl, fc, rfl, ⟨htl, htm, tb, tO, hta, hts⟩, hf⟩ := hm
  have hf0 := hf
  obtain ⟨hfl', hlen, fb, fo, hfa, H, hcs⟩ := hf
  subst hfl' htl
  have Hcs := Lib.hid hcs; clear hcs
  have Hts := Lib.hid hts; clear hts
  unfold maxLen at hlen htm
  by_cases h16 : 16 < m.thr.length
  · have HX : mayP m = ⟨3, 0, 16⟩ := by simp [mayP, h16]
    have HY := Lib.hid HX; clear HX
    go_enter Tryd.func18, Tryd.ntmps18
    go_wp2
    refine bodyPost_ret (v := .agg #[.int .i64 3, .int .i64 0, .int .i64 16]) (by simp [results, Tryd.results18, go_sem]) rfl ⟨?_, ?_⟩
    · rw [HY.out]
    · exact (by repeat (first | with_reducible exact Below.refl _ _ | with_reducible assumption | with_reducible refine Below.drew ?_ | with_reducible refine Below.drewN ?_ _ | with_reducible refine Below.alloc ?_ (by first | omega | (simp <;> omega) | (simp at * <;> omega)) _ | with_reducible refine Below.setCell ?_ (by first | omega | (simp <;> omega) | (simp at * <;> omega)) _ | (with_reducible refine Below.trans ?_ (Below.mono (by first | with_reducible assumption | exact hF _) (by first | omega | (simp <;> omega) | (simp at * <;> omega))))))
  · have d16 : decide ((16 : Int) < (m.thr.length : Int)) = false := by simp <;> omega
    go_enter Tryd.func18, Tryd.ntmps18
    go_wp2
    generalize hW0 : World.alloc _ _ = W0
    have hb0 : Below w.heap.size w W0 := by rw [← hW0]; exact (by repeat (first | with_reducible exact Below.refl _ _ | with_reducible assumption | with_reducible refine Below.drew ?_ | with_reducible refine Below.drewN ?_ _ | with_reducible refine Below.alloc ?_ (by first | omega | (simp <;> omega) | (simp at * <;> omega)) _ | with_reducible refine Below.setCell ?_ (by first | omega | (simp <;> omega) | (simp at * <;> omega)) _ | (with_reducible refine Below.trans ?_ (Below.mono (by first | with_reducible assumption | exact hF _) (by first | omega | (simp <;> omega) | (simp at * <;> omega))))))
    have om : Own W0 w.heap.size [.slice ta m.thr.length tc, .slice fa m.funcs.length fc] := by rw [← hW0]; exact (Own.new _ _ _).alloc _
    have ore : Own W0 (w.heap.size + 1) [.int .i64 0, .int .i64 0, .int .i64 0] := by rw [← hW0]; exact Own.new' _ _ _ _ (by simp)
    clear hW0
    go_loopw [3] (fun i wr => ∃ p : Nat, i = .int .i64 ((p : Int) + 1) ∧ (p + 1 ≤ m.thr.length ∨ p = 0) ∧ Below W0.heap.size W0 wr ∧ Hid (∀ i, i < p + 1 → thrBad m.thr i = false)) (fun i _ => m.thr.length - (intOf i).toNat)
    case atStart =>
      refine ⟨0, rfl, .inr rfl, Below.refl _ _, ?_⟩
      intro i h
      obtain rfl : i = 0 := by omega
      simp [thrBad]
    case round =>
      obtain ⟨p, rfl, hp, hbel, hn⟩ := hrel
      have om1 := own2 (om.below hbel)
      have or1 := own3 (ore.below hbel)
      have ht16 : m.thr.length ≤ 16 := by omega
      have hz0 : W0.heap.size ≤ wr.heap.size := hbel.size
      have hzw : w.heap.size ≤ W0.heap.size := hb0.size
      by_cases hlt : p + 1 < m.thr.length
      · obtain ⟨rfl, htb⟩ := hta (by omega)
        have sm : Same B w wr := (Same.of hb0 hB).trans (Same.of hbel (by omega))
        have t0 := (sm tb (tO + p) htb).trans (Hts.out p (by omega)).1
        have t1 := (sm tb (tO + (p + 1)) htb).trans (Hts.out (p + 1) hlt).1
        have hwr : IntKind.i64.wrap ((p : Int) + 1 - 1) = (p : Int) := by rw [IntWalk.i64_in _ (by omega)]; omega
        have hi1 : 0 ≤ (p : Int) + 1 := by omega
        have hi2 : ((p : Int) + 1).toNat = p + 1 := by omega
        have hi3 : (p : Int) + 1 < (m.thr.length : Int) := by omega
        have hi4 : (p : Int) < (m.thr.length : Int) := by omega
        go_wp2
        go_quiet (fail)
        go_wp2
        · have HX : mayP m = ⟨66, 0, (p : Int) + 1⟩ := by
            have HT := firstI_some m.thr.length (thrBad m.thr) (p + 1) hlt (by go_light; simp only [thrBad]; grind) hn.out
            unfold mayP; rw [if_neg (by omega), HT]; rfl
          have HY := Lib.hid HX; clear HX
          refine bodyPost_ret (v := .agg #[.int .i64 66, .int .i64 0, .int .i64 ((p : Int) + 1)]) ?_ rfl ⟨?_, ?_⟩
          · have r := set3 ((ore.below hbel).drewN nq) (.int .i64 66) (.int .i64 0) (.int .i64 ((p : Int) + 1))
            simp [results, Tryd.results18, go_sem, r]
          · rw [HY.out]
          · exact (by repeat (first | with_reducible exact Below.refl _ _ | with_reducible assumption | with_reducible refine Below.drew ?_ | with_reducible refine Below.drewN ?_ _ | with_reducible refine Below.alloc ?_ (by first | omega | (simp <;> omega) | (simp at * <;> omega)) _ | with_reducible refine Below.setCell ?_ (by first | omega | (simp <;> omega) | (simp at * <;> omega)) _ | (with_reducible refine Below.trans ?_ (Below.mono (by first | with_reducible assumption | exact hF _) (by first | omega | (simp <;> omega) | (simp at * <;> omega))))))
        · go_roundw
          case rel =>
            go_light
            refine ⟨p + 1, by go_num, by omega, (by repeat (first | with_reducible exact Below.refl _ _ | with_reducible assumption | with_reducible refine Below.drew ?_ | with_reducible refine Below.drewN ?_ _ | with_reducible refine Below.alloc ?_ (by first | omega | (simp <;> omega) | (simp at * <;> omega)) _ | with_reducible refine Below.setCell ?_ (by first | omega | (simp <;> omega) | (simp at * <;> omega)) _ | (with_reducible refine Below.trans ?_ (Below.mono (by first | with_reducible assumption | exact hF _) (by first | omega | (simp <;> omega) | (simp at * <;> omega)))))), ?_⟩
            intro i hi
            by_cases e : i = p + 1
            · subst e; simp only [thrBad]; grind
            · exact hn.out i (by omega)
          case measure => go_light; simp [intOf]; omega
      · have HT := firstI_none m.thr.length (thrBad m.thr) (fun i hi => hn.out i (by omega))
        by_cases h32 : 32 < m.funcs.length
        · have HX : mayP m = ⟨3, 32, 0⟩ := by unfold mayP; rw [if_neg (by omega), HT, if_pos h32]
          have HY := Lib.hid HX; clear HX HT
          go_wp2
          refine bodyPost_ret (v := .agg #[.int .i64 3, .int .i64 32, .int .i64 0]) ?_ rfl ⟨?_, ?_⟩
          · have r := set3 (ore.below hbel) (.int .i64 3) (.int .i64 32) (.int .i64 0)
            simp [results, Tryd.results18, go_sem, r]
          · rw [HY.out]
          · exact (by repeat (first | with_reducible exact Below.refl _ _ | with_reducible assumption | with_reducible refine Below.drew ?_ | with_reducible refine Below.drewN ?_ _ | with_reducible refine Below.alloc ?_ (by first | omega | (simp <;> omega) | (simp at * <;> omega)) _ | with_reducible refine Below.setCell ?_ (by first | omega | (simp <;> omega) | (simp at * <;> omega)) _ | (with_reducible refine Below.trans ?_ (Below.mono (by first | with_reducible assumption | exact hF _) (by first | omega | (simp <;> omega) | (simp at * <;> omega))))))
        · have HX : mayP m = mayWholes m := by unfold mayP; rw [if_neg (by omega), HT]; simp only []; rw [if_neg h32]
          have HY := Lib.hid HX; clear HX HT
          have d32 : decide ((32 : Int) < (m.funcs.length : Int)) = false := by simp <;> omega
          go_wp2
          obtain ⟨wA, rfl⟩ : ∃ wo : World, wo = wr := ⟨_, rfl⟩
          go_loopw [47] (fun i wx => ∃ f : Nat, i = .int .i64 (f : Int) ∧ f ≤ m.funcs.length ∧ Below wA.heap.size wA wx ∧ Hid (∀ i, i < f → decide ((wholeP m i).1 ≠ 0) = false)) (fun i _ => m.funcs.length - (intOf i).toNat)
          case atStart => exact ⟨0, rfl, Nat.zero_le _, Below.refl _ _, by intro i h; omega⟩
          case round =>
            obtain ⟨f, rfl, hf1, hbel2, hn2⟩ := hrel
            have om2 := own2 ((om.below hbel).below hbel2)
            have or2 := own3 ((ore.below hbel).below hbel2)
            have hz2 : wA.heap.size ≤ wr.heap.size := hbel2.size
            have sm : Same B w wr := ((Same.of hb0 hB).trans (Same.of hbel (by omega))).trans (Same.of hbel2 (by omega))
            clear om1 or1
            by_cases hlt : f < m.funcs.length
            · go_wp2_with (go_at_call 33; refine (whole_any B _ m f _ ?_ (hm0.same sm) hlt).mono ?_)
              · exact (by first | omega | (simp <;> omega) | (simp at * <;> omega))
              rintro e w1 ⟨rfl, hb1⟩
              have om3 := own2 (((om.below hbel).below hbel2).below hb1)
              have or3 := own3 (((ore.below hbel).below hbel2).below hb1)
              clear om2 or2
              go_wp2
              · have HX : mayWholes m = ⟨(wholeP m f).1, f, (wholeP m f).2⟩ := by
                  have HT := firstI_some m.funcs.length (fun f => decide ((wholeP m f).1 ≠ 0)) f hlt (by go_light; grind) hn2.out
                  unfold mayWholes; rw [HT]
                have HZ := Lib.hid HX; clear HX
                refine bodyPost_ret (v := .agg #[.int .i64 (wholeP m f).1, .int .i64 f, .int .i64 (wholeP m f).2]) ?_ rfl ⟨?_, ?_⟩
                · have r := set3 (((ore.below hbel).below hbel2).below hb1) (.int .i64 (wholeP m f).1) (.int .i64 f) (.int .i64 (wholeP m f).2)
                  simp [results, Tryd.results18, go_sem, r]
                · rw [HY.out, HZ.out]
                · exact (by repeat (first | with_reducible exact Below.refl _ _ | with_reducible assumption | with_reducible refine Below.drew ?_ | with_reducible refine Below.drewN ?_ _ | with_reducible refine Below.alloc ?_ (by first | omega | (simp <;> omega) | (simp at * <;> omega)) _ | with_reducible refine Below.setCell ?_ (by first | omega | (simp <;> omega) | (simp at * <;> omega)) _ | (with_reducible refine Below.trans ?_ (Below.mono (by first | with_reducible assumption | exact hF _) (by first | omega | (simp <;> omega) | (simp at * <;> omega))))))
              · go_roundw
                case rel =>
                  go_light
                  refine ⟨f + 1, by go_num, by omega, (by repeat (first | with_reducible exact Below.refl _ _ | with_reducible assumption | with_reducible refine Below.drew ?_ | with_reducible refine Below.drewN ?_ _ | with_reducible refine Below.alloc ?_ (by first | omega | (simp <;> omega) | (simp at * <;> omega)) _ | with_reducible refine Below.setCell ?_ (by first | omega | (simp <;> omega) | (simp at * <;> omega)) _ | (with_reducible refine Below.trans ?_ (Below.mono (by first | with_reducible assumption | exact hF _) (by first | omega | (simp <;> omega) | (simp at * <;> omega)))))), ?_⟩
                  intro i hi
                  by_cases e : i = f
                  · subst e; grind
                  · exact hn2.out i (by omega)
                case measure => go_light; simp [intOf]; omega
            · have HT := firstI_none m.funcs.length (fun f => decide ((wholeP m f).1 ≠ 0)) (fun i hi => hn2.out i (by omega))
              have HX : mayWholes m = mayFuncs m := by unfold mayWholes; rw [HT]
              have HZ := Lib.hid HX; clear HX HT
              have hok : Hid (∀ i, i < m.funcs.length → (wholeP m i).1 = 0) := by intro i hi; have := hn2.out i (by omega); simpa using this
              go_wp2
              obtain ⟨wB, rfl⟩ : ∃ wo : World, wo = wr := ⟨_, rfl⟩
              go_loopw [66] (fun i wx => ∃ f : Nat, i = .int .i64 (f : Int) ∧ f ≤ m.funcs.length ∧ Below wB.heap.size wB wx ∧ Hid (∀ i, i < f → decide ((bodyP m (m.funcs.getD i default)).1 ≠ 0) = false)) (fun i _ => m.funcs.length - (intOf i).toNat)
              case atStart => exact ⟨0, rfl, Nat.zero_le _, Below.refl _ _, by intro i h; omega⟩
              case round =>
                obtain ⟨f, rfl, hf1, hbel3, hn3⟩ := hrel
                have om3 := own2 (((om.below hbel).below hbel2).below hbel3)
                have or3 := own3 (((ore.below hbel).below hbel2).below hbel3)
                have hz3 : wB.heap.size ≤ wr.heap.size := hbel3.size
                have sm3 : Same B w wr := sm.trans (Same.of hbel3 (by omega))
                clear om2 or2
                by_cases hlt2 : f < m.funcs.length
                · obtain ⟨rfl, hfb⟩ := hfa (by omega)
                  obtain ⟨hfcells, hfok⟩ := Hcs.out f hlt2
                  obtain ⟨q0, q1, q2, q3, q4⟩ := hfcells.same sm3 hfb
                  have hwok := wholeP_ok (hok.out f hlt2)
                  obtain ⟨_, _, _, hr1, hr2, _, _, _, hc1, hc2, _⟩ := hwok
                  generalize hxf : m.funcs.getD f default = x at *
                  have Hxf := Lib.hid hxf; clear hxf
                  generalize H f = hh at *
                  obtain ⟨pa, pl, pc, ca, cl, cc⟩ := hh
                  obtain ⟨_, _, ⟨hcl, hcm, cb, co, hca, hins⟩, _, _⟩ := hfok
                  dsimp only at *
                  subst hcl
                  obtain ⟨rfl, hcb⟩ := hca (by omega)
                  have Hins := Lib.hid hins; clear hins
                  unfold maxLen at hcm
                  go_wp2
                  generalize hW3 : World.alloc wr _ = W3
                  have hb3 : Below wr.heap.size wr W3 := by rw [← hW3]; exact (by repeat (first | with_reducible exact Below.refl _ _ | with_reducible assumption | with_reducible refine Below.drew ?_ | with_reducible refine Below.drewN ?_ _ | with_reducible refine Below.alloc ?_ (by first | omega | (simp <;> omega) | (simp at * <;> omega)) _ | with_reducible refine Below.setCell ?_ (by first | omega | (simp <;> omega) | (simp at * <;> omega)) _ | (with_reducible refine Below.trans ?_ (Below.mono (by first | with_reducible assumption | exact hF _) (by first | omega | (simp <;> omega) | (simp at * <;> omega))))))
                  have oF : Own W3 wr.heap.size [.string x.name, .slice pa pl pc, .int .i64 x.regs, .int .i64 x.words, .slice (some ⟨cb, co, none⟩) x.code.length cc] := by rw [← hW3]; exact Own.new _ _ _
                  clear hW3
                  obtain ⟨wC, rfl⟩ : ∃ wo : World, wo = wr := ⟨_, rfl⟩
                  have omC := ((om.below hbel).below hbel2).below hbel3 |>.below hb3
                  have orC := ((ore.below hbel).below hbel2).below hbel3 |>.below hb3
                  have hzC : wC.heap.size ≤ W3.heap.size := hb3.size
                  have smC : Same B w W3 := sm3.trans (Same.of hb3 (by omega))
                  clear om3 or3
                  go_loopw [74] (fun i wx => ∃ j : Nat, i = .int .i64 (j : Int) ∧ j ≤ x.code.length ∧ Below W3.heap.size W3 wx ∧ Hid (∀ i, i < j → decide (bodyI m x i ≠ 0) = false)) (fun i _ => x.code.length - (intOf i).toNat)
                  case atStart => exact ⟨0, rfl, Nat.zero_le _, Below.refl _ _, by intro i h; omega⟩
                  case round =>
                    obtain ⟨j, rfl, hj1, hbel4, hn4⟩ := hrel
                    have om4 := own2 (omC.below hbel4)
                    have or4 := own3 (orC.below hbel4)
                    have oF4 := own5 (oF.below hbel4)
                    have hz4 : W3.heap.size ≤ wr.heap.size := hbel4.size
                    have sm4 : Same B w wr := smC.trans (Same.of hbel4 (by omega))
                    by_cases hlt3 : j < x.code.length
                    · obtain ⟨hi0, hiok⟩ := Hins.out j hlt3
                      obtain ⟨i0, i1, i2, i3, i4⟩ := hi0.same sm4 hcb
                      generalize hyj : x.code.getD j default = y at *
                      have Hyj := Lib.hid hyj; clear hyj
                      go_wp2_with (go_at_call 34; refine (instruction_any B _ m _ _ _ _ _ _ _ _ _ y _ ?_ hB0 (hm0.same (sm4.trans ?_)) (hr.same (sm4.trans ?_) hB0 ?_) hiok hr1 hr2 ?_ ?_).mono ?_)
                      · exact (by first | omega | (simp <;> omega) | (simp at * <;> omega))
                      · exact (Same.refl _ _).alloc (by first | omega | (simp <;> omega) | (simp at * <;> omega)) _
                      · exact (Same.refl _ _).alloc (by first | omega | (simp <;> omega) | (simp at * <;> omega)) _
                      · exact (by first | omega | (simp <;> omega) | (simp at * <;> omega))
                      · unfold maxLen; omega
                      · intro i hi; exact (wholeP_ok (hok.out i hi)).2.2.1
                      rintro e w2 ⟨rfl, hb2⟩
                      have e0 : Below wr.heap.size wr (wr.alloc (.cells #[.int .i64 y.op, .int .i64 y.a, .int .i64 y.b, .int .i64 y.c, .int .i64 y.n] 47)) := (by repeat (first | with_reducible exact Below.refl _ _ | with_reducible assumption | with_reducible refine Below.drew ?_ | with_reducible refine Below.drewN ?_ _ | with_reducible refine Below.alloc ?_ (by first | omega | (simp <;> omega) | (simp at * <;> omega)) _ | with_reducible refine Below.setCell ?_ (by first | omega | (simp <;> omega) | (simp at * <;> omega)) _ | (with_reducible refine Below.trans ?_ (Below.mono (by first | with_reducible assumption | exact hF _) (by first | omega | (simp <;> omega) | (simp at * <;> omega))))))
                      have om5 := own2 (((omC.below hbel4).below e0).below hb2)
                      have or5 := own3 (((orC.below hbel4).below e0).below hb2)
                      have hB2 := hb2.size
                      simp only [World.size_alloc] at hB2
                      clear om4 or4
                      have hI : instrP m x.regs x.code.length y = bodyI m x j := by unfold bodyI; rw [Hyj.out]
                      rw [hI]
                      have HI := Lib.hid hI; clear hI
                      go_wp2
                      · have HX : bodyP m x = (bodyI m x j, (j : Int)) := by
                          have HT := firstI_some x.code.length (fun i => decide (bodyI m x i ≠ 0)) j hlt3 (by go_light; grind) hn4.out
                          unfold bodyP; rw [HT]
                        have HX2 : mayFuncs m = ⟨bodyI m x j, f, j⟩ := by
                          have HT := firstI_some m.funcs.length (fun f => decide ((bodyP m (m.funcs.getD f default)).1 ≠ 0)) f hlt2 (by go_light; simp only [Hxf.out, HX]; grind) hn3.out
                          unfold mayFuncs; rw [HT]; simp only [Hxf.out, HX]
                        have HZ2 := Lib.hid HX2; clear HX HX2
                        refine bodyPost_ret (v := .agg #[.int .i64 (bodyI m x j), .int .i64 f, .int .i64 j]) ?_ rfl ⟨?_, ?_⟩
                        · have r := set3 (((orC.below hbel4).below e0).below hb2) (.int .i64 (bodyI m x j)) (.int .i64 f) (.int .i64 j)
                          simp [results, Tryd.results18, go_sem, r]
                        · rw [HY.out, HZ.out, HZ2.out]
                        · exact (by repeat (first | with_reducible exact Below.refl _ _ | with_reducible assumption | with_reducible refine Below.drew ?_ | with_reducible refine Below.drewN ?_ _ | with_reducible refine Below.alloc ?_ (by first | omega | (simp <;> omega) | (simp at * <;> omega)) _ | with_reducible refine Below.setCell ?_ (by first | omega | (simp <;> omega) | (simp at * <;> omega)) _ | (with_reducible refine Below.trans ?_ (Below.mono (by first | with_reducible assumption | exact hF _) (by first | omega | (simp <;> omega) | (simp at * <;> omega))))))
                      · go_roundw
                        case rel =>
                          go_light
                          refine ⟨j + 1, by go_num, by omega, (by repeat (first | with_reducible exact Below.refl _ _ | with_reducible assumption | with_reducible refine Below.drew ?_ | with_reducible refine Below.drewN ?_ _ | with_reducible refine Below.alloc ?_ (by first | omega | (simp <;> omega) | (simp at * <;> omega)) _ | with_reducible refine Below.setCell ?_ (by first | omega | (simp <;> omega) | (simp at * <;> omega)) _ | (with_reducible refine Below.trans ?_ (Below.mono (by first | with_reducible assumption | exact hF _) (by first | omega | (simp <;> omega) | (simp at * <;> omega)))))), ?_⟩
                          intro i hi
                          by_cases e : i = j
                          · subst e; grind
                          · exact hn4.out i (by omega)
                        case measure => go_light; simp [intOf]; omega
                    · have HT := firstI_none x.code.length (fun i => decide (bodyI m x i ≠ 0)) (fun i hi => hn4.out i (by omega))
                      have HX : bodyP m x = if lastOp x = 0 ∨ lastOp x = 14 ∨ lastOp x = 18 then (0, 0) else (64, (x.code.length : Int) - 1) := by unfold bodyP; rw [HT]
                      have HB := Lib.hid HX; clear HX HT
                      have hl1 : x.code.length - 1 < x.code.length := by omega
                      obtain ⟨hi0, hiok⟩ := Hins.out (x.code.length - 1) hl1
                      obtain ⟨i0, _, _, _, _⟩ := hi0.same sm4 hcb
                      have hlo : (x.code.getD (x.code.length - 1) default).op = lastOp x := rfl
                      rw [hlo] at i0
                      go_wp2
                      all_goals first
                        | (go_roundw
                           case rel =>
                             go_light
                             refine ⟨f + 1, by go_num, by omega, (by repeat (first | with_reducible exact Below.refl _ _ | with_reducible assumption | with_reducible refine Below.drew ?_ | with_reducible refine Below.drewN ?_ _ | with_reducible refine Below.alloc ?_ (by first | omega | (simp <;> omega) | (simp at * <;> omega)) _ | with_reducible refine Below.setCell ?_ (by first | omega | (simp <;> omega) | (simp at * <;> omega)) _ | (with_reducible refine Below.trans ?_ (Below.mono (by first | with_reducible assumption | exact hF _) (by first | omega | (simp <;> omega) | (simp at * <;> omega)))))), ?_⟩
                             intro i hi
                             by_cases e : i = f
                             · subst e; simp only [Hxf.out, HB.out]; rw [if_pos (by grind)]; decide
                             · exact hn3.out i (by omega)
                           case measure => go_light; simp [intOf]; omega)
                        | (have HX : bodyP m x = (64, (x.code.length : Int) - 1) := by rw [HB.out, if_neg (by go_light; grind)]
                           have HX2 : mayFuncs m = ⟨64, f, (x.code.length : Int) - 1⟩ := by
                             have HT := firstI_some m.funcs.length (fun f => decide ((bodyP m (m.funcs.getD f default)).1 ≠ 0)) f hlt2 (by simp only [Hxf.out, HX]; decide) hn3.out
                             unfold mayFuncs; rw [HT]; simp only [Hxf.out, HX]
                           have HZ2 := Lib.hid HX2; clear HX HX2
                           refine bodyPost_ret (v := .agg #[.int .i64 64, .int .i64 f, .int .i64 ((x.code.length : Int) - 1)]) ?_ rfl ⟨?_, ?_⟩
                           · have r := set3 (orC.below hbel4) (.int .i64 64) (.int .i64 f) (.int .i64 ((x.code.length : Int) - 1))
                             simp [results, Tryd.results18, go_sem, r]
                           · rw [HY.out, HZ.out, HZ2.out]
                           · exact (by repeat (first | with_reducible exact Below.refl _ _ | with_reducible assumption | with_reducible refine Below.drew ?_ | with_reducible refine Below.drewN ?_ _ | with_reducible refine Below.alloc ?_ (by first | omega | (simp <;> omega) | (simp at * <;> omega)) _ | with_reducible refine Below.setCell ?_ (by first | omega | (simp <;> omega) | (simp at * <;> omega)) _ | (with_reducible refine Below.trans ?_ (Below.mono (by first | with_reducible assumption | exact hF _) (by first | omega | (simp <;> omega) | (simp at * <;> omega)))))))
                · have HT := firstI_none m.funcs.length (fun f => decide ((bodyP m (m.funcs.getD f default)).1 ≠ 0)) (fun i hi => hn3.out i (by omega))
                  have HX : mayFuncs m = ⟨0, 0, 0⟩ := by unfold mayFuncs; rw [HT]
                  have HZ2 := Lib.hid HX; clear HX HT
                  go_wp2
                  refine bodyPost_ret (v := .agg #[.int .i64 0, .int .i64 0, .int .i64 0]) ?_ rfl ⟨?_, ?_⟩
                  · have r := set3 (((ore.below hbel).below hbel2).below hbel3) (.int .i64 0) (.int .i64 0) (.int .i64 0)
                    simp [results, Tryd.results18, go_sem, r]
                  · rw [HY.out, HZ.out, HZ2.out]
                  · exact (by repeat (first | with_reducible exact Below.refl _ _ | with_reducible assumption | with_reducible refine Below.drew ?_ | with_reducible refine Below.drewN ?_ _ | with_reducible refine Below.alloc ?_ (by first | omega | (simp <;> omega) | (simp at * <;> omega)) _ | with_reducible refine Below.setCell ?_ (by first | omega | (simp <;> omega) | (simp at * <;> omega)) _ | (with_reducible refine Below.trans ?_ (Below.mono (by first | with_reducible assumption | exact hF _) (by first | omega | (simp <;> omega) | (simp at * <;> omega))))))
end Go.Proofs.YtgpdggjpbmgegaaDoor
