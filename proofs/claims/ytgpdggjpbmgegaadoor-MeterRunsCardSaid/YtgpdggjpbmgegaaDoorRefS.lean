/- R9.spoilt, walked: what is wrong with an instruction. -/
import Derived.Test.YtgpdggjpbmgegaaDoorRefW
namespace Go.Proofs.YtgpdggjpbmgegaaDoor
open Go.RowKit
set_option linter.unusedVariables false
set_option linter.unusedSimpArgs false


theorem kinds : ∀ k : Nat, k < 20 → (k = 13 ↔ (rowAt k).n = 3) ∧ (k = 19 ↔ (rowAt k).n = 4) ∧ (decide ((k : Int) = 14 ∨ (k : Int) = 15 ∨ (k : Int) = 16 ∨ (k : Int) = 17 ∨ (k : Int) = 18) = decide ((rowAt k).n = 2)) := by decide

set_option maxRecDepth 100000 in
set_option maxHeartbeats 2000000 in
theorem rspoilt_any (B : Nat) (v : Value) (m : PMod) (nm : ByteArray) (pa ca : Option Addr) (pl pc cl cc : Nat) (regs wd : Int) (x : PIns) (w : World) (hB : B ≤ w.heap.size) (hB0 : 0 < B) (hm : ModAt B w v m) (hx : InsOk x) (h1 : 1 ≤ regs) (h64 : regs ≤ 64) (hcl : cl ≤ maxLen) (hp8 : ∀ i, i < m.funcs.length → (m.funcs.getD i default).params.length ≤ 8) :
    Calls Tryd.prog 22 #[v, .agg #[.string nm, .slice pa pl pc, .int .i64 regs, .int .i64 wd, .slice ca cl cc], InsVal x] w fun e w' => e = .returned (.int .i64 (instrP m regs cl x)) ∧ Below w.heap.size w w' := by
  obtain ⟨ta, tl, tc, fa, fl, fc, rfl, ht, hf⟩ := hm
  obtain ⟨hfl', hlen, fb, fo, hfa, H, hcs⟩ := hf
  subst hfl'
  have Hcs := Lib.hid hcs; clear hcs
  have Hp8 := Lib.hid hp8; clear hp8
  obtain ⟨op, a, b, c, n⟩ := x
  obtain ⟨o1, o2, o3, o4, o5⟩ := hx
  unfold In64 at o1 o2 o3 o4 o5
  unfold maxLen at hlen hcl
  dsimp only at *
  unfold InsVal instrP
  dsimp only
  by_cases hk : knownB op = true
  · rw [if_neg (by simp [hk])]
    have hk' := hk
    unfold knownB at hk'
    obtain ⟨k, rfl⟩ := Int.eq_ofNat_of_zero_le (show 0 ≤ op by grind)
    have hlt : k < 20 := by grind
    obtain ⟨k13, k19, kt⟩ := kinds k hlt
    clear hk'
    have hRn := rowN k
    have HH := Lib.hid (rhas_any (k : Int) · hk)
    unfold hasP at HH
    rw [Int.toNat_natCast] at *
    generalize rowAt k = R at *
    obtain ⟨Rw, Rwt, Ra, Rb, Rc, Rn, Rwr⟩ := R
    dsimp only at *
    have HT := Lib.hid (show ∀ w1 : World, Calls Tryd.prog 49 #[.int .i64 k] w1 fun e w' => e = .returned (.bool (decide (Rn = 2))) ∧ w' = w1 from fun w1 => by rw [← kt]; exact rtarget_any _ _)
    have K13 := Lib.hid k13; clear k13
    have K19 := Lib.hid k19; clear k19
    clear kt
    obtain ⟨RES, hRES⟩ : ∃ r, r = rowP m regs cl ⟨Rw, Rwt, Ra, Rb, Rc, Rn, Rwr⟩ ⟨k, a, b, c, n⟩ := ⟨_, rfl⟩
    rw [← hRES]
    have HRES := Lib.hid hRES; clear hRES
    go_enter Tryd.func22, Tryd.ntmps22
    go_wp2_with (go_at_call 46; refine (rknown_any _ _).mono ?_; rintro e w1 ⟨rfl, rfl⟩)
    generalize hW0 : World.alloc _ _ = W0
    have hb0 : Below w.heap.size w W0 := by rw [← hW0]; exact (by repeat (first | with_reducible exact Below.refl _ _ | with_reducible assumption | with_reducible refine Below.drew ?_ | with_reducible refine Below.drewN ?_ _ | with_reducible refine Below.alloc ?_ (by first | omega | (simp <;> omega) | (simp at * <;> omega)) _ | with_reducible refine Below.setCell ?_ (by first | omega | (simp <;> omega) | (simp at * <;> omega)) _ | (with_reducible refine Below.trans ?_ (Below.mono (by first | with_reducible assumption | exact hF _) (by first | omega | (simp <;> omega) | (simp at * <;> omega))))))
    have O1 := Lib.hid (show Own W0 w.heap.size [.slice ta tl tc, .slice fa m.funcs.length fc] by rw [← hW0]; exact ((Own.new _ _ _).alloc _).alloc _)
    have O2 := Lib.hid (show Own W0 (w.heap.size + 1) [.string nm, .slice pa pl pc, .int .i64 regs, .int .i64 wd, .slice ca cl cc] by rw [← hW0]; exact (Own.new' _ _ _ _ (by simp)).alloc _)
    have O3 := Lib.hid (show Own W0 (w.heap.size + 1 + 1) [.int .i64 k, .int .i64 a, .int .i64 b, .int .i64 c, .int .i64 n] by rw [← hW0]; exact Own.new' _ _ _ _ (by simp))
    clear hW0
    refine (HH.out W0).mono ?_
    rintro e w2 ⟨rfl, hb2⟩
    have P1 := Lib.hid (O1.out.below hb2)
    have P2 := Lib.hid (O2.out.below hb2)
    have P3 := Lib.hid (O3.out.below hb2)
    have p1 := own2 P1.out
    have p2 := own5 P2.out
    have p3 := own5 P3.out
    have z2 := hb2.size
    have hbw2 : Below w.heap.size w w2 := hb0.trans (Below.mono hb2 hb0.size)
    go_wp2_with fail
    generalize hW1 : World.alloc _ _ = W1
    have R1 := Lib.hid (show Own W1 w.heap.size [.slice ta tl tc, .slice fa m.funcs.length fc] by rw [← hW1]; exact P1.out.alloc _)
    have R2 := Lib.hid (show Own W1 (w.heap.size + 1) [.string nm, .slice pa pl pc, .int .i64 regs, .int .i64 wd, .slice ca cl cc] by rw [← hW1]; exact P2.out.alloc _)
    have R3 := Lib.hid (show Own W1 (w.heap.size + 1 + 1) [.int .i64 k, .int .i64 a, .int .i64 b, .int .i64 c, .int .i64 n] by rw [← hW1]; exact P3.out.alloc _)
    have R4 := (show Own W1 w2.heap.size [.bool Ra, .bool Rb, .bool Rc, .bool (decide (Rn ≠ 0))] by rw [← hW1]; have := Own.new w2 [.bool Ra, .bool Rb, .bool Rc, .bool (decide (Rn ≠ 0))] 99; simpa using this)
    have hbw1 : Below w.heap.size w W1 := by rw [← hW1]; exact (by repeat (first | with_reducible exact Below.refl _ _ | with_reducible assumption | with_reducible refine Below.drew ?_ | with_reducible refine Below.drewN ?_ _ | with_reducible refine Below.alloc ?_ (by first | omega | (simp <;> omega) | (simp at * <;> omega)) _ | with_reducible refine Below.setCell ?_ (by first | omega | (simp <;> omega) | (simp at * <;> omega)) _ | (with_reducible refine Below.trans ?_ (Below.mono (by first | with_reducible assumption | exact hF _) (by first | omega | (simp <;> omega) | (simp at * <;> omega))))))
    clear hW1 p1 p2 p3 P1 P2 P3 O1 O2 O3 hb0 hb2 hbw2 z2
    have r1 := own2 R1.out
    have r2 := own5 R2.out
    have r3 := own5 R3.out
    have r40 := R4.2.1 0 _ rfl
    have r41 := R4.2.1 1 _ rfl
    have r42 := R4.2.1 2 _ rfl
    have r43 := R4.2.1 3 _ rfl
    have r44 := R4.1
    clear R4
    by_cases hA : fieldP Ra a regs ≠ 0
    · have hres : RES = fieldP Ra a regs := by rw [HRES.out]; unfold rowP; rw [if_pos hA]
      have HY := Lib.hid hres; clear hres
      have dA : (fieldP Ra a regs != 0) = true := by simpa using hA
      refine (rregister_any _ _ _ _).mono ?_
      rintro e w1 ⟨rfl, rfl⟩
      go_wp2
      go_ret
      go_light
      exact ⟨ret_int HY.out.symm, (by repeat (first | with_reducible exact Below.refl _ _ | with_reducible assumption | with_reducible refine Below.drew ?_ | with_reducible refine Below.drewN ?_ _ | with_reducible refine Below.alloc ?_ (by first | omega | (simp <;> omega) | (simp at * <;> omega)) _ | with_reducible refine Below.setCell ?_ (by first | omega | (simp <;> omega) | (simp at * <;> omega)) _ | (with_reducible refine Below.trans ?_ (Below.mono (by first | with_reducible assumption | exact hF _) (by first | omega | (simp <;> omega) | (simp at * <;> omega))))))⟩
    · have dA : (fieldP Ra a regs != 0) = false := by simpa using hA
      refine (rregister_any _ _ _ _).mono ?_
      rintro e w1 ⟨rfl, rfl⟩
      go_wp2_with fail
      by_cases hBB : fieldP Rb b regs ≠ 0
      · have hres : RES = fieldP Rb b regs := by rw [HRES.out]; unfold rowP; rw [if_neg hA, if_pos hBB]
        have HY := Lib.hid hres; clear hres
        have dB : (fieldP Rb b regs != 0) = true := by simpa using hBB
        refine (rregister_any _ _ _ _).mono ?_
        rintro e w1 ⟨rfl, rfl⟩
        go_wp2
        go_ret
        go_light
        exact ⟨ret_int HY.out.symm, (by repeat (first | with_reducible exact Below.refl _ _ | with_reducible assumption | with_reducible refine Below.drew ?_ | with_reducible refine Below.drewN ?_ _ | with_reducible refine Below.alloc ?_ (by first | omega | (simp <;> omega) | (simp at * <;> omega)) _ | with_reducible refine Below.setCell ?_ (by first | omega | (simp <;> omega) | (simp at * <;> omega)) _ | (with_reducible refine Below.trans ?_ (Below.mono (by first | with_reducible assumption | exact hF _) (by first | omega | (simp <;> omega) | (simp at * <;> omega))))))⟩
      · have dB : (fieldP Rb b regs != 0) = false := by simpa using hBB
        refine (rregister_any _ _ _ _).mono ?_
        rintro e w1 ⟨rfl, rfl⟩
        go_wp2_with fail
        by_cases hCC : fieldP Rc c regs ≠ 0
        · have hres : RES = fieldP Rc c regs := by rw [HRES.out]; unfold rowP; rw [if_neg hA, if_neg hBB, if_pos hCC]
          have HY := Lib.hid hres; clear hres
          have dC : (fieldP Rc c regs != 0) = true := by simpa using hCC
          refine (rregister_any _ _ _ _).mono ?_
          rintro e w1 ⟨rfl, rfl⟩
          go_wp2
          go_ret
          go_light
          exact ⟨ret_int HY.out.symm, (by repeat (first | with_reducible exact Below.refl _ _ | with_reducible assumption | with_reducible refine Below.drew ?_ | with_reducible refine Below.drewN ?_ _ | with_reducible refine Below.alloc ?_ (by first | omega | (simp <;> omega) | (simp at * <;> omega)) _ | with_reducible refine Below.setCell ?_ (by first | omega | (simp <;> omega) | (simp at * <;> omega)) _ | (with_reducible refine Below.trans ?_ (Below.mono (by first | with_reducible assumption | exact hF _) (by first | omega | (simp <;> omega) | (simp at * <;> omega))))))⟩
        · have hres : RES = kindP (fun _ => m.funcs.length) (paramsOf m) Rn regs cl b n := by rw [HRES.out]; unfold rowP; rw [if_neg hA, if_neg hBB, if_neg hCC]
          have HY := Lib.hid hres; clear hres
          have dC : (fieldP Rc c regs != 0) = false := by simpa using hCC
          have HB9 := Lib.hid (show 0 ≤ b ∧ b ≤ 64 from by
            have hz : fieldP Rb b regs = 0 := by simpa using hBB
            unfold fieldP at hz
            cases Rb <;> grind)
          refine (rregister_any _ _ _ _).mono ?_
          rintro e w1 ⟨rfl, rfl⟩
          clear hA hBB hCC
          generalize fieldP Ra a regs = FA at *
          generalize fieldP Rb b regs = FB at *
          generalize fieldP Rc c regs = FC at *
          have hd1 := (bcell hbw1).1
          rcases (show Rn = 0 ∨ Rn = 1 ∨ Rn = 2 ∨ Rn = 3 ∨ Rn = 4 by omega) with rfl | rfl | rfl | rfl | rfl
          · have r43' : w1.cell? ⟨w2.heap.size, 3, none⟩ = some (.bool false) := by simpa using r43
            have d13 : ((k : Int) == 13) = false := by have := K13.out; simp at this ⊢; omega
            have d19 : ((k : Int) == 19) = false := by have := K19.out; simp at this ⊢; omega
            clear r43
            go_wp2_with (go_at_call 49; refine (HT.out _).mono ?_; rintro e w1 ⟨rfl, rfl⟩)
            all_goals first
              | (go_ret; go_light; refine ⟨ret_int ?_, (by repeat (first | with_reducible exact Below.refl _ _ | with_reducible assumption | with_reducible refine Below.drew ?_ | with_reducible refine Below.drewN ?_ _ | with_reducible refine Below.alloc ?_ (by first | omega | (simp <;> omega) | (simp at * <;> omega)) _ | with_reducible refine Below.setCell ?_ (by first | omega | (simp <;> omega) | (simp at * <;> omega)) _ | (with_reducible refine Below.trans ?_ (Below.mono (by first | with_reducible assumption | exact hF _) (by first | omega | (simp <;> omega) | (simp at * <;> omega))))))⟩; rw [HY.out]; simp [kindP] <;> grind)
              | (go_quiet (fail); go_wp2; go_ret; go_light; refine ⟨ret_int ?_, (by repeat (first | with_reducible exact Below.refl _ _ | with_reducible assumption | with_reducible refine Below.drew ?_ | with_reducible refine Below.drewN ?_ _ | with_reducible refine Below.alloc ?_ (by first | omega | (simp <;> omega) | (simp at * <;> omega)) _ | with_reducible refine Below.setCell ?_ (by first | omega | (simp <;> omega) | (simp at * <;> omega)) _ | (with_reducible refine Below.trans ?_ (Below.mono (by first | with_reducible assumption | exact hF _) (by first | omega | (simp <;> omega) | (simp at * <;> omega))))))⟩; rw [HY.out]; simp [kindP] <;> grind)
          · have r43' : w1.cell? ⟨w2.heap.size, 3, none⟩ = some (.bool true) := by simpa using r43
            have d13 : ((k : Int) == 13) = false := by have := K13.out; simp at this ⊢; omega
            have d19 : ((k : Int) == 19) = false := by have := K19.out; simp at this ⊢; omega
            clear r43
            go_wp2_with (go_at_call 49; refine (HT.out _).mono ?_; rintro e w1 ⟨rfl, rfl⟩)
            all_goals first
              | (go_ret; go_light; refine ⟨ret_int ?_, (by repeat (first | with_reducible exact Below.refl _ _ | with_reducible assumption | with_reducible refine Below.drew ?_ | with_reducible refine Below.drewN ?_ _ | with_reducible refine Below.alloc ?_ (by first | omega | (simp <;> omega) | (simp at * <;> omega)) _ | with_reducible refine Below.setCell ?_ (by first | omega | (simp <;> omega) | (simp at * <;> omega)) _ | (with_reducible refine Below.trans ?_ (Below.mono (by first | with_reducible assumption | exact hF _) (by first | omega | (simp <;> omega) | (simp at * <;> omega))))))⟩; rw [HY.out]; simp [kindP] <;> grind)
              | (go_quiet (fail); go_wp2; go_ret; go_light; refine ⟨ret_int ?_, (by repeat (first | with_reducible exact Below.refl _ _ | with_reducible assumption | with_reducible refine Below.drew ?_ | with_reducible refine Below.drewN ?_ _ | with_reducible refine Below.alloc ?_ (by first | omega | (simp <;> omega) | (simp at * <;> omega)) _ | with_reducible refine Below.setCell ?_ (by first | omega | (simp <;> omega) | (simp at * <;> omega)) _ | (with_reducible refine Below.trans ?_ (Below.mono (by first | with_reducible assumption | exact hF _) (by first | omega | (simp <;> omega) | (simp at * <;> omega))))))⟩; rw [HY.out]; simp [kindP] <;> grind)
          · have r43' : w1.cell? ⟨w2.heap.size, 3, none⟩ = some (.bool true) := by simpa using r43
            have d13 : ((k : Int) == 13) = false := by have := K13.out; simp at this ⊢; omega
            have d19 : ((k : Int) == 19) = false := by have := K19.out; simp at this ⊢; omega
            clear r43
            go_wp2_with (go_at_call 49; refine (HT.out _).mono ?_; rintro e w1 ⟨rfl, rfl⟩)
            all_goals first
              | (go_ret; go_light; refine ⟨ret_int ?_, (by repeat (first | with_reducible exact Below.refl _ _ | with_reducible assumption | with_reducible refine Below.drew ?_ | with_reducible refine Below.drewN ?_ _ | with_reducible refine Below.alloc ?_ (by first | omega | (simp <;> omega) | (simp at * <;> omega)) _ | with_reducible refine Below.setCell ?_ (by first | omega | (simp <;> omega) | (simp at * <;> omega)) _ | (with_reducible refine Below.trans ?_ (Below.mono (by first | with_reducible assumption | exact hF _) (by first | omega | (simp <;> omega) | (simp at * <;> omega))))))⟩; rw [HY.out]; simp [kindP] <;> grind)
              | (go_quiet (fail); go_wp2; go_ret; go_light; refine ⟨ret_int ?_, (by repeat (first | with_reducible exact Below.refl _ _ | with_reducible assumption | with_reducible refine Below.drew ?_ | with_reducible refine Below.drewN ?_ _ | with_reducible refine Below.alloc ?_ (by first | omega | (simp <;> omega) | (simp at * <;> omega)) _ | with_reducible refine Below.setCell ?_ (by first | omega | (simp <;> omega) | (simp at * <;> omega)) _ | (with_reducible refine Below.trans ?_ (Below.mono (by first | with_reducible assumption | exact hF _) (by first | omega | (simp <;> omega) | (simp at * <;> omega))))))⟩; rw [HY.out]; simp [kindP] <;> grind)
          · have r43' : w1.cell? ⟨w2.heap.size, 3, none⟩ = some (.bool true) := by simpa using r43
            have d13 : ((k : Int) == 13) = true := by have := K13.out; simp at this ⊢; omega
            have d19 : ((k : Int) == 19) = false := by have := K19.out; simp at this ⊢; omega
            clear r43
            go_wp2_with (go_at_call 49; refine (HT.out _).mono ?_; rintro e w1 ⟨rfl, rfl⟩)
            all_goals first
              | (go_ret; go_light; refine ⟨ret_int ?_, (by repeat (first | with_reducible exact Below.refl _ _ | with_reducible assumption | with_reducible refine Below.drew ?_ | with_reducible refine Below.drewN ?_ _ | with_reducible refine Below.alloc ?_ (by first | omega | (simp <;> omega) | (simp at * <;> omega)) _ | with_reducible refine Below.setCell ?_ (by first | omega | (simp <;> omega) | (simp at * <;> omega)) _ | (with_reducible refine Below.trans ?_ (Below.mono (by first | with_reducible assumption | exact hF _) (by first | omega | (simp <;> omega) | (simp at * <;> omega))))))⟩; rw [HY.out]; simp [kindP] <;> grind)
              | (go_quiet (fail); go_wp2; go_ret; go_light; refine ⟨ret_int ?_, (by repeat (first | with_reducible exact Below.refl _ _ | with_reducible assumption | with_reducible refine Below.drew ?_ | with_reducible refine Below.drewN ?_ _ | with_reducible refine Below.alloc ?_ (by first | omega | (simp <;> omega) | (simp at * <;> omega)) _ | with_reducible refine Below.setCell ?_ (by first | omega | (simp <;> omega) | (simp at * <;> omega)) _ | (with_reducible refine Below.trans ?_ (Below.mono (by first | with_reducible assumption | exact hF _) (by first | omega | (simp <;> omega) | (simp at * <;> omega))))))⟩; rw [HY.out]; simp [kindP] <;> grind)
          · have r43' : w1.cell? ⟨w2.heap.size, 3, none⟩ = some (.bool true) := by simpa using r43
            have d13 : ((k : Int) == 13) = false := by have := K13.out; simp at this ⊢; omega
            have d19 : ((k : Int) == 19) = true := by have := K19.out; simp at this ⊢; omega
            clear r43
            by_cases hn0 : n < 0
            · have d1 : decide (n < 0) = true := by simpa using hn0
              go_wp2_with (go_at_call 49; refine (HT.out _).mono ?_; rintro e w1 ⟨rfl, rfl⟩)
              go_quiet (fail)
              go_wp2
              all_goals (go_ret; go_light; refine ⟨ret_int ?_, (by repeat (first | with_reducible exact Below.refl _ _ | with_reducible assumption | with_reducible refine Below.drew ?_ | with_reducible refine Below.drewN ?_ _ | with_reducible refine Below.alloc ?_ (by first | omega | (simp <;> omega) | (simp at * <;> omega)) _ | with_reducible refine Below.setCell ?_ (by first | omega | (simp <;> omega) | (simp at * <;> omega)) _ | (with_reducible refine Below.trans ?_ (Below.mono (by first | with_reducible assumption | exact hF _) (by first | omega | (simp <;> omega) | (simp at * <;> omega))))))⟩; rw [HY.out]; simp [kindP] <;> grind)
            · obtain ⟨N, rfl⟩ := Int.eq_ofNat_of_zero_le (show 0 ≤ n by omega)
              have d1 : decide ((N : Int) < 0) = false := by simp <;> omega
              by_cases hN : N < m.funcs.length
              · obtain ⟨rfl, hfb⟩ := hfa (by omega)
                obtain ⟨⟨_, q, _⟩, _, ⟨hpl, hpm, _⟩, _⟩ := Hcs.out N hN
                generalize H N = hh at *
                obtain ⟨pa', pl', pc', _, _, _⟩ := hh
                dsimp only at q hpl hpm
                have hP : paramsOf m N = pl' := by unfold paramsOf; rw [Int.toNat_natCast, hpl]
                have h8 := Hp8.out N hN
                rw [hpl] at h8
                have hb9 := HB9.out
                have HP := Lib.hid hP; clear hP hpl
                unfold maxLen at hpm
                have hfb2 : fb < w.heap.size ∧ fb < w1.heap.size := by omega
                have d2 : decide ((m.funcs.length : Int) ≤ N) = false := by simp <;> omega
                have hwr : IntKind.i64.wrap (b + (pl' : Int)) = b + (pl' : Int) := IntWalk.i64_in _ (by omega)
                go_wp2_with (go_at_call 49; refine (HT.out _).mono ?_; rintro e w1 ⟨rfl, rfl⟩)
                go_quiet (fail)
                clear hwr
                go_wp2
                all_goals (go_ret; go_light; refine ⟨ret_int ?_, (by repeat (first | with_reducible exact Below.refl _ _ | with_reducible assumption | with_reducible refine Below.drew ?_ | with_reducible refine Below.drewN ?_ _ | with_reducible refine Below.alloc ?_ (by first | omega | (simp <;> omega) | (simp at * <;> omega)) _ | with_reducible refine Below.setCell ?_ (by first | omega | (simp <;> omega) | (simp at * <;> omega)) _ | (with_reducible refine Below.trans ?_ (Below.mono (by first | with_reducible assumption | exact hF _) (by first | omega | (simp <;> omega) | (simp at * <;> omega))))))⟩; rw [HY.out, kindP_call _ _ _ _ _ _ (by omega) (by omega), HP.out]; first | rw [if_pos (by omega)] | rw [if_neg (by omega)])
              · have d2 : decide ((m.funcs.length : Int) ≤ N) = true := by simp <;> omega
                go_wp2_with (go_at_call 49; refine (HT.out _).mono ?_; rintro e w1 ⟨rfl, rfl⟩)
                go_quiet (fail)
                go_wp2
                all_goals (go_ret; go_light; refine ⟨ret_int ?_, (by repeat (first | with_reducible exact Below.refl _ _ | with_reducible assumption | with_reducible refine Below.drew ?_ | with_reducible refine Below.drewN ?_ _ | with_reducible refine Below.alloc ?_ (by first | omega | (simp <;> omega) | (simp at * <;> omega)) _ | with_reducible refine Below.setCell ?_ (by first | omega | (simp <;> omega) | (simp at * <;> omega)) _ | (with_reducible refine Below.trans ?_ (Below.mono (by first | with_reducible assumption | exact hF _) (by first | omega | (simp <;> omega) | (simp at * <;> omega))))))⟩; rw [HY.out]; simp [kindP] <;> grind)
  · have hk0 : knownB op = false := by simpa using hk
    rw [if_pos hk0]
    clear hk
    go_enter Tryd.func22, Tryd.ntmps22
    go_wp2_with (go_at_call 46; refine (rknown_any _ _).mono ?_; rintro e w1 ⟨rfl, rfl⟩)
    go_ret
    go_light
    exact ⟨rfl, (by repeat (first | with_reducible exact Below.refl _ _ | with_reducible assumption | with_reducible refine Below.drew ?_ | with_reducible refine Below.drewN ?_ _ | with_reducible refine Below.alloc ?_ (by first | omega | (simp <;> omega) | (simp at * <;> omega)) _ | with_reducible refine Below.setCell ?_ (by first | omega | (simp <;> omega) | (simp at * <;> omega)) _ | (with_reducible refine Below.trans ?_ (Below.mono (by first | with_reducible assumption | exact hF _) (by first | omega | (simp <;> omega) | (simp at * <;> omega))))))⟩
end Go.Proofs.YtgpdggjpbmgegaaDoor
