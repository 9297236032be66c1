/- R9.wrong, walked: what is wrong with a function as a whole. -/
import Derived.Test.YtgpdggjpbmgegaaDoorRef
namespace Go.Proofs.YtgpdggjpbmgegaaDoor
open Go.RowKit
set_option linter.unusedVariables false
set_option linter.unusedSimpArgs false


set_option maxRecDepth 100000 in
set_option maxHeartbeats 2000000 in
theorem rwrong_any (B : Nat) (v : Value) (m : PMod) (f : Nat) (w : World) (hB : B ≤ w.heap.size) (hm : ModAt B w v m) (hfl : f < m.funcs.length) :
    Calls Tryd.prog 21 #[v, .int .i64 f] w fun e w' => e = .returned (.tuple #[.int .i64 (wholeP m f).1, .int .i64 (wholeP m f).2]) ∧ Below w.heap.size w w' := by
  obtain ⟨ta, tl, tc, fa, fl, fc, rfl, ht, hf⟩ := hm
  obtain ⟨hfl', hlen, fb, fo, hfa, H, hcs⟩ := hf
  subst hfl'
  obtain ⟨rfl, hfb⟩ := hfa (by omega)
  have Hcs := Lib.hid hcs
  obtain ⟨⟨q0, q1, q2, q3, q4⟩, hnm, ⟨hpl, hpm, pb, po, hpa, hps⟩, ⟨hcl, hcm, _⟩, hr, hwd⟩ := hcs f hfl
  clear hcs
  unfold wholeP
  have hself : ((m.funcs.getD f default).name.toList == (m.funcs.getD f default).name.toList) = true := by simp
  have HS := Lib.hid hself; clear hself
  generalize hx : m.funcs.getD f default = x at *
  have Hx := Lib.hid hx; clear hx
  generalize H f = hh at *
  obtain ⟨pa, pl, pc, ca, cl, cc⟩ := hh
  dsimp only at *
  unfold maxLen at hlen hnm hpm hcm
  subst hpl hcl
  have hfb' : fb < w.heap.size := by omega
  have Hp := Lib.hid hps; clear hps
  by_cases hN : isNameB x.name = false
  · have HX : wholeQ x (findZ m.funcs x.name) f = (8, 0) := by simp [wholeQ, hN]
    have HY := Lib.hid HX; clear HX
    go_enter Tryd.func21, Tryd.ntmps21
    go_wp2_with (go_at_call 45; refine (risName_any _ _ hnm).mono ?_; rintro e w1 ⟨rfl, rfl⟩)
    go_ret2
    go_light
    exact ⟨ret_int2 HY.out.symm, (by repeat (first | with_reducible exact Below.refl _ _ | with_reducible assumption | with_reducible refine Below.drew ?_ | with_reducible refine Below.drewN ?_ _ | with_reducible refine Below.alloc ?_ (by first | omega | (simp <;> omega) | (simp at * <;> omega)) _ | with_reducible refine Below.setCell ?_ (by first | omega | (simp <;> omega) | (simp at * <;> omega)) _ | (with_reducible refine Below.trans ?_ (Below.mono (by first | with_reducible assumption | exact hF _) (by first | omega | (simp <;> omega) | (simp at * <;> omega))))))⟩
  · have hN1 : isNameB x.name = true := by simpa using hN
    clear hN
    go_enter Tryd.func21, Tryd.ntmps21
    go_wp2_with (go_at_call 45; refine (risName_any _ _ hnm).mono ?_; rintro e w1 ⟨rfl, rfl⟩)
    generalize hW0 : World.alloc _ _ = W0
    have hb0 : Below w.heap.size w W0 := by rw [← hW0]; exact (by repeat (first | with_reducible exact Below.refl _ _ | with_reducible assumption | with_reducible refine Below.drew ?_ | with_reducible refine Below.drewN ?_ _ | with_reducible refine Below.alloc ?_ (by first | omega | (simp <;> omega) | (simp at * <;> omega)) _ | with_reducible refine Below.setCell ?_ (by first | omega | (simp <;> omega) | (simp at * <;> omega)) _ | (with_reducible refine Below.trans ?_ (Below.mono (by first | with_reducible assumption | exact hF _) (by first | omega | (simp <;> omega) | (simp at * <;> omega))))))
    have O1 := Lib.hid (show Own W0 w.heap.size [.slice ta tl tc, .slice (some ⟨fb, fo, none⟩) m.funcs.length fc] by rw [← hW0]; exact (Own.new _ _ _).alloc _)
    have O2 := Lib.hid (show Own W0 (w.heap.size + 1) [.string x.name, .slice pa x.params.length pc, .int .i64 x.regs, .int .i64 x.words, .slice ca x.code.length cc] by rw [← hW0]; exact Own.new' _ _ _ _ (by simp))
    clear hW0
    have hz0 := O2.out.1
    have Q := Lib.hid (And.intro q0 (And.intro q1 (And.intro q2 (And.intro q3 q4)))); clear q0 q1 q2 q3 q4
    go_loopw [8] (fun i wr => ∃ j : Nat, j ≤ f ∧ i = .int .i64 j ∧ Below W0.heap.size W0 wr ∧ Hid (∀ i, i < j → ((m.funcs.getD i default).name.toList == x.name.toList) = false)) (fun i _ => f - (intOf i).toNat)
    case atStart => exact ⟨0, Nat.zero_le _, rfl, Below.refl _ _, by intro j h; omega⟩
    case round =>
      obtain ⟨j, hj, rfl, hbel, hn⟩ := hrel
      have oa := own2 (O1.out.below hbel)
      have ob := own5 (O2.out.below hbel)
      have hz := hbel.size
      have hbw : Below w.heap.size w wr := hb0.trans (Below.mono hbel (by omega))
      by_cases hlt : j < f
      · have d2 : (j : Int) < (f : Int) := by omega
        have hwk : IntKind.i64.wrap ((j : Int) + 1) = (j : Int) + 1 := IntWalk.i64_in _ (by omega)
        have hwk0 : IntKind.i64.wrap (j : Int) = (j : Int) := IntWalk.i64_in _ (by omega)
        have hjl : j < m.funcs.length := by omega
        obtain ⟨⟨u0, _⟩, _⟩ := Hcs.out j hjl
        have c0 := ((bcell hbw).1 fb _ hfb').trans u0
        have hfw : fb < wr.heap.size := by omega
        generalize hy : (m.funcs.getD j default).name = nj at *
        have Hy := Lib.hid hy; clear hy u0
        go_wp2
        refine wp_still 8 (by kernel_rfl) (by kernel_rfl) ?_; simp only [List.take_succ_cons, List.take_zero, List.drop_succ_cons, List.drop_zero]; repeat (refine WS_step (fun K hK => ?_); go_simp; refine hK _ ?_; clear hK K)
        refine WS_nil ?_; go_wp2
        · have hZ := findZ_some m.funcs x.name j hjl (by rw [Hy.out]; assumption) hn.out
          have HX : wholeQ x (findZ m.funcs x.name) f = (9, 0) := by rw [hZ]; simp [wholeQ, hN1]; omega
          go_ret2
          go_light
          exact ⟨ret_int2 HX.symm, (by repeat (first | with_reducible exact Below.refl _ _ | with_reducible assumption | with_reducible refine Below.drew ?_ | with_reducible refine Below.drewN ?_ _ | with_reducible refine Below.alloc ?_ (by first | omega | (simp <;> omega) | (simp at * <;> omega)) _ | with_reducible refine Below.setCell ?_ (by first | omega | (simp <;> omega) | (simp at * <;> omega)) _ | (with_reducible refine Below.trans ?_ (Below.mono (by first | with_reducible assumption | exact hF _) (by first | omega | (simp <;> omega) | (simp at * <;> omega))))))⟩
        · go_roundw
          case rel =>
            refine ⟨j + 1, by omega, by simp, (by repeat (first | with_reducible exact Below.refl _ _ | with_reducible assumption | with_reducible refine Below.drew ?_ | with_reducible refine Below.drewN ?_ _ | with_reducible refine Below.alloc ?_ (by first | omega | (simp <;> omega) | (simp at * <;> omega)) _ | with_reducible refine Below.setCell ?_ (by first | omega | (simp <;> omega) | (simp at * <;> omega)) _ | (with_reducible refine Below.trans ?_ (Below.mono (by first | with_reducible assumption | exact hF _) (by first | omega | (simp <;> omega) | (simp at * <;> omega)))))), Lib.hid ?_⟩
            intro i hi
            by_cases e : i = j
            · subst e; rw [Hy.out]; assumption
            · exact hn.out i (by omega)
          case measure => go_light; first | omega | (simp only [intOf]; omega)
      · have e : j = f := by omega
        subst e
        have d2 : ¬ (j : Int) < (j : Int) := by omega
        have hZ := findZ_some m.funcs x.name j hfl (by rw [Hx.out]; exact HS.out) hn.out
        have hk : ¬ findZ m.funcs x.name < (j : Int) := by rw [hZ]; omega
        clear hZ
        have HK := Lib.hid hk; clear hk
        obtain ⟨wA, rfl⟩ : ∃ wo : World, wo = wr := ⟨_, rfl⟩
        go_wp2
        · have HX := wholeQ_many x (findZ m.funcs x.name) j hN1 (by have := HK.out; omega) (by omega)
          go_ret2
          go_light
          exact ⟨ret_int2 HX.symm, (by repeat (first | with_reducible exact Below.refl _ _ | with_reducible assumption | with_reducible refine Below.drew ?_ | with_reducible refine Below.drewN ?_ _ | with_reducible refine Below.alloc ?_ (by first | omega | (simp <;> omega) | (simp at * <;> omega)) _ | with_reducible refine Below.setCell ?_ (by first | omega | (simp <;> omega) | (simp at * <;> omega)) _ | (with_reducible refine Below.trans ?_ (Below.mono (by first | with_reducible assumption | exact hF _) (by first | omega | (simp <;> omega) | (simp at * <;> omega))))))⟩
        · have hp8 : ¬ 8 < x.params.length := by omega
          go_loopw [9] (fun i wr => ∃ i' : Nat, i' ≤ x.params.length ∧ i = .int .i64 i' ∧ Below wA.heap.size wA wr ∧ Hid (∀ i, i < i' → emptyB (x.params.getD i default) = false)) (fun i _ => x.params.length - (intOf i).toNat)
          case atStart => exact ⟨0, Nat.zero_le _, rfl, Below.refl _ _, by intro j h; omega⟩
          case round =>
            obtain ⟨i, hi, rfl, hbel2, hn2⟩ := hrel
            have hbel3 : Below W0.heap.size W0 wr := hbel.trans (Below.mono hbel2 (by omega))
            have oa := own2 (O1.out.below hbel3)
            have ob := own5 (O2.out.below hbel3)
            have hzz := hbel3.size
            have hbw2 : Below w.heap.size w wr := hb0.trans (Below.mono hbel3 (by omega))
            by_cases hlt : i < x.params.length
            · have d2 : (i : Int) < (x.params.length : Int) := by omega
              have hwk : IntKind.i64.wrap ((i : Int) + 1) = (i : Int) + 1 := IntWalk.i64_in _ (by omega)
              have hwk0 : IntKind.i64.wrap (i : Int) = (i : Int) := IntWalk.i64_in _ (by omega)
              obtain ⟨rfl, hpb⟩ := hpa (by omega)
              obtain ⟨s0, s1, _, _⟩ := Hp.out i hlt
              have hpbw : pb < w.heap.size := by omega
              have hpbr : pb < wr.heap.size := by omega
              have c0 := ((bcell hbw2).1 pb _ hpbw).trans s0
              have c1 := ((bcell hbw2).1 pb _ hpbw).trans s1
              clear s0 s1
              generalize hy : x.params.getD i default = sp at *
              have Hy := Lib.hid hy; clear hy
              go_wp2
              refine wp_still 12 (by kernel_rfl) (by kernel_rfl) ?_; simp only [List.take_succ_cons, List.take_zero, List.drop_succ_cons, List.drop_zero]; repeat (refine WS_step (fun K hK => ?_); go_simp; refine hK _ ?_; clear hK K)
              refine WS_nil ?_; go_wp2
              · have HX := wholeQ_empty x (findZ m.funcs x.name) j i hN1 (by have := HK.out; omega) hp8 (first_some _ _ _ hlt (by rw [Hy.out]; unfold emptyB; simpa using (by assumption : sp.hi < sp.lo)) hn2.out)
                go_ret2
                go_light
                exact ⟨ret_int2 HX.symm, (by repeat (first | with_reducible exact Below.refl _ _ | with_reducible assumption | with_reducible refine Below.drew ?_ | with_reducible refine Below.drewN ?_ _ | with_reducible refine Below.alloc ?_ (by first | omega | (simp <;> omega) | (simp at * <;> omega)) _ | with_reducible refine Below.setCell ?_ (by first | omega | (simp <;> omega) | (simp at * <;> omega)) _ | (with_reducible refine Below.trans ?_ (Below.mono (by first | with_reducible assumption | exact hF _) (by first | omega | (simp <;> omega) | (simp at * <;> omega))))))⟩
              · go_roundw
                case rel =>
                  refine ⟨i + 1, by omega, by simp, (by repeat (first | with_reducible exact Below.refl _ _ | with_reducible assumption | with_reducible refine Below.drew ?_ | with_reducible refine Below.drewN ?_ _ | with_reducible refine Below.alloc ?_ (by first | omega | (simp <;> omega) | (simp at * <;> omega)) _ | with_reducible refine Below.setCell ?_ (by first | omega | (simp <;> omega) | (simp at * <;> omega)) _ | (with_reducible refine Below.trans ?_ (Below.mono (by first | with_reducible assumption | exact hF _) (by first | omega | (simp <;> omega) | (simp at * <;> omega)))))), Lib.hid ?_⟩
                  intro i' hi'
                  by_cases e : i' = i
                  · subst e; rw [Hy.out]; unfold emptyB; simpa using (by assumption : sp.lo ≤ sp.hi)
                  · exact hn2.out i' (by omega)
                case measure => go_light; first | omega | (simp only [intOf]; omega)
            · have HX := wholeQ_tail x (findZ m.funcs x.name) j hN1 (by have := HK.out; omega) hp8 (first_none _ _ (fun i hi => hn2.out i (by omega)))
              have HY := Lib.hid HX; clear HX
              go_wp2
              all_goals first | (go_ret2; go_light; refine ⟨ret_int2 ?_, (by repeat (first | with_reducible exact Below.refl _ _ | with_reducible assumption | with_reducible refine Below.drew ?_ | with_reducible refine Below.drewN ?_ _ | with_reducible refine Below.alloc ?_ (by first | omega | (simp <;> omega) | (simp at * <;> omega)) _ | with_reducible refine Below.setCell ?_ (by first | omega | (simp <;> omega) | (simp at * <;> omega)) _ | (with_reducible refine Below.trans ?_ (Below.mono (by first | with_reducible assumption | exact hF _) (by first | omega | (simp <;> omega) | (simp at * <;> omega))))))⟩; rw [HY.out]; unfold wholeTail; grind) | skip
              go_ways
end Go.Proofs.YtgpdggjpbmgegaaDoor
