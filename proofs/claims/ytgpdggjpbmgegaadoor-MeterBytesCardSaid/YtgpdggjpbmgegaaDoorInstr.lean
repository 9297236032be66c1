import Derived.Test.YtgpdggjpbmgegaaDoorCodeB
import Derived.IntWalk
namespace Go.Proofs.YtgpdggjpbmgegaaDoor
open Go.RowKit
set_option linter.unusedVariables false
set_option linter.unusedSimpArgs false


set_option maxRecDepth 100000 in
set_option maxHeartbeats 2000000 in
theorem instruction_any (B : Nat) (v : Value) (m : PMod) (nm : ByteArray) (pa ca : Option Addr) (pl pc cl cc : Nat) (regs wd : Int) (x : PIns) (w : World) (hB : B ≤ w.heap.size) (hB0 : 0 < B) (hm : ModAt B w v m) (hr : RowsAt w) (hx : InsOk x) (h1 : 1 ≤ regs) (h64 : regs ≤ 64) (hcl : cl ≤ maxLen) (hp8 : ∀ i, i < m.funcs.length → (m.funcs.getD i default).params.length ≤ 8) :
    Calls Tryd.prog 34 #[v, .agg #[.string nm, .slice pa pl pc, .int .i64 regs, .int .i64 wd, .slice ca cl cc], InsVal x] w fun e w' => e = .returned (.int .i64 (instrP m regs cl x)) ∧ Below w.heap.size w w' := by
  obtain ⟨ta, tl, tc, fa, fl, fc, rfl, ht, hf⟩ := hm
  obtain ⟨hfl', hlen, fb, fo, hfa, H, hcs⟩ := hf
  subst hfl'
  have Hcs := Lib.hid hcs; clear hcs
  have Hp8 := Lib.hid hp8; clear hp8
  obtain ⟨op, a, b, c, n⟩ := x
  obtain ⟨o1, o2, o3, o4, o5⟩ := hx
  unfold In64 at o1 o2 o3 o4 o5
  unfold maxLen at hlen hcl
  dsimp only at *
  unfold InsVal instrP
  dsimp only
  by_cases hk : knownB op = true
  · rw [if_neg (by simp [hk])]
    have hk' := hk
    unfold knownB at hk'
    obtain ⟨k, rfl⟩ := Int.eq_ofNat_of_zero_le (show 0 ≤ op by grind)
    have hlt : k < 20 := by grind
    have h0s := hr.1
    obtain ⟨q0, q1, q2, q3, q4, q5, q6⟩ := hr.2 k hlt
    clear hk' hr
    have hRn := rowN k
    rw [Int.toNat_natCast]
    generalize rowAt k = R at *
    obtain ⟨Rw, Rwt, Ra, Rb, Rc, Rn, Rwr⟩ := R
    dsimp only at *
    go_enter Tryd.func34, Tryd.ntmps34
    go_wp2_with (go_at_call 58; refine (known_any _ _).mono ?_; rintro e w1 ⟨rfl, rfl⟩)
    generalize hW0 : World.alloc _ _ = W0
    have hb0 : Below w.heap.size w W0 := by rw [← hW0]; exact (by repeat (first | with_reducible exact Below.refl _ _ | with_reducible assumption | with_reducible refine Below.drew ?_ | with_reducible refine Below.drewN ?_ _ | with_reducible refine Below.alloc ?_ (by first | omega | (simp <;> omega) | (simp at * <;> omega)) _ | with_reducible refine Below.setCell ?_ (by first | omega | (simp <;> omega) | (simp at * <;> omega)) _ | (with_reducible refine Below.trans ?_ (Below.mono (by first | with_reducible assumption | exact hF _) (by first | omega | (simp <;> omega) | (simp at * <;> omega))))))
    have z0 : w.heap.size + 1 + 1 + 1 + 1 = W0.heap.size := by rw [← hW0]; simp
    have c0 : W0.cell? ⟨w.heap.size, 1, none⟩ = some (.slice fa m.funcs.length fc) := by rw [← hW0]; simp [go_sem]
    have c1 : W0.cell? ⟨w.heap.size + 1, 2, none⟩ = some (.int .i64 regs) := by rw [← hW0]; simp [go_sem]
    have c2 : W0.cell? ⟨w.heap.size + 1, 4, none⟩ = some (.slice ca cl cc) := by rw [← hW0]; simp [go_sem]
    have c3 : W0.cell? ⟨w.heap.size + 1 + 1, 2, none⟩ = some (.int .i64 b) := by rw [← hW0]; simp [go_sem]
    have c4 : W0.cell? ⟨w.heap.size + 1 + 1, 4, none⟩ = some (.int .i64 n) := by rw [← hW0]; simp [go_sem]
    have c5 : W0.cell? ⟨w.heap.size + 1 + 1 + 1, 5, none⟩ = some (.int .i64 Rn) := by rw [← hW0]; simp [go_sem]
    have z1 : w.heap.size + 1 + 1 + 1 + 1 ≤ W0.heap.size := by omega
    clear hW0 z0
    go_loopw [34] (fun i wr => ∃ j : Nat, j ≤ 3 ∧ i = .int .i64 j ∧ Below W0.heap.size W0 wr ∧ Hid (∀ i, i < j → fieldAt ⟨Rw, Rwt, Ra, Rb, Rc, Rn, Rwr⟩ ⟨k, a, b, c, n⟩ regs i = 0)) (fun i _ => 3 - (intOf i).toNat)
    case atStart => exact ⟨0, Nat.zero_le _, rfl, Below.refl _ _, by intro j h; omega⟩
    case round =>
      obtain ⟨j, hj, rfl, hbel, hn⟩ := hrel
      have hd1 := (bcell hbel).1
      have hz2 : W0.heap.size ≤ wr.heap.size := hbel.size
      have e1 : w.heap.size + 1 < W0.heap.size := by omega
      have e2 : w.heap.size + 1 + 1 < W0.heap.size := by omega
      have e3 : w.heap.size + 1 + 1 + 1 < W0.heap.size := by omega
      have e0 : w.heap.size < W0.heap.size := by omega
      have e4 : w.heap.size + 1 < wr.heap.size := by omega
      have i0 : ∀ (A : Bool) (w : World), (Instr.index 112 (.agg #[.bool A, .int .i64 a, .bool Rb, .int .i64 b, .bool Rc, .int .i64 c]) (.int .i64 0)).run Tryd.prog w = .ok (.agg #[.bool A, .int .i64 a]) w := fun _ _ => by kernel_rfl
      have i1 : ∀ (A : Bool) (w : World), (Instr.index 112 (.agg #[.bool Ra, .int .i64 a, .bool A, .int .i64 b, .bool Rc, .int .i64 c]) (.int .i64 1)).run Tryd.prog w = .ok (.agg #[.bool A, .int .i64 b]) w := fun _ _ => by kernel_rfl
      have i2 : ∀ (A : Bool) (w : World), (Instr.index 112 (.agg #[.bool Ra, .int .i64 a, .bool Rb, .int .i64 b, .bool A, .int .i64 c]) (.int .i64 2)).run Tryd.prog w = .ok (.agg #[.bool A, .int .i64 c]) w := fun _ _ => by kernel_rfl
      by_cases hlt : j < 3
      · rcases (show j = 0 ∨ j = 1 ∨ j = 2 by omega) with rfl | rfl | rfl
        · cases Ra
          all_goals
            go_wp2
            all_goals first
              | (have HX := rowP_field m regs cl _ _ 0 (by omega) hn.out (by go_light; simp [fieldAt, fieldP] <;> grind)
                 go_ret
                 go_light
                 exact ⟨ret_int (by rw [HX]; simp [fieldAt, fieldP] <;> grind), (by repeat (first | with_reducible exact Below.refl _ _ | with_reducible assumption | with_reducible refine Below.drew ?_ | with_reducible refine Below.drewN ?_ _ | with_reducible refine Below.alloc ?_ (by first | omega | (simp <;> omega) | (simp at * <;> omega)) _ | with_reducible refine Below.setCell ?_ (by first | omega | (simp <;> omega) | (simp at * <;> omega)) _ | (with_reducible refine Below.trans ?_ (Below.mono (by first | with_reducible assumption | exact hF _) (by first | omega | (simp <;> omega) | (simp at * <;> omega))))))⟩)
              | (go_roundw
                 case rel =>
                   go_light
                   refine ⟨0 + 1, by omega, rfl, (by repeat (first | with_reducible exact Below.refl _ _ | with_reducible assumption | with_reducible refine Below.drew ?_ | with_reducible refine Below.drewN ?_ _ | with_reducible refine Below.alloc ?_ (by first | omega | (simp <;> omega) | (simp at * <;> omega)) _ | with_reducible refine Below.setCell ?_ (by first | omega | (simp <;> omega) | (simp at * <;> omega)) _ | (with_reducible refine Below.trans ?_ (Below.mono (by first | with_reducible assumption | exact hF _) (by first | omega | (simp <;> omega) | (simp at * <;> omega)))))), ?_⟩
                   intro i hi
                   by_cases e : i = 0
                   · subst e; simp [fieldAt, fieldP] <;> grind
                   · exact hn.out i (by omega)
                 case measure => simp [intOf])
        · cases Rb
          all_goals
            go_wp2
            all_goals first
              | (have HX := rowP_field m regs cl _ _ 1 (by omega) hn.out (by go_light; simp [fieldAt, fieldP] <;> grind)
                 go_ret
                 go_light
                 exact ⟨ret_int (by rw [HX]; simp [fieldAt, fieldP] <;> grind), (by repeat (first | with_reducible exact Below.refl _ _ | with_reducible assumption | with_reducible refine Below.drew ?_ | with_reducible refine Below.drewN ?_ _ | with_reducible refine Below.alloc ?_ (by first | omega | (simp <;> omega) | (simp at * <;> omega)) _ | with_reducible refine Below.setCell ?_ (by first | omega | (simp <;> omega) | (simp at * <;> omega)) _ | (with_reducible refine Below.trans ?_ (Below.mono (by first | with_reducible assumption | exact hF _) (by first | omega | (simp <;> omega) | (simp at * <;> omega))))))⟩)
              | (go_roundw
                 case rel =>
                   go_light
                   refine ⟨1 + 1, by omega, rfl, (by repeat (first | with_reducible exact Below.refl _ _ | with_reducible assumption | with_reducible refine Below.drew ?_ | with_reducible refine Below.drewN ?_ _ | with_reducible refine Below.alloc ?_ (by first | omega | (simp <;> omega) | (simp at * <;> omega)) _ | with_reducible refine Below.setCell ?_ (by first | omega | (simp <;> omega) | (simp at * <;> omega)) _ | (with_reducible refine Below.trans ?_ (Below.mono (by first | with_reducible assumption | exact hF _) (by first | omega | (simp <;> omega) | (simp at * <;> omega)))))), ?_⟩
                   intro i hi
                   by_cases e : i = 1
                   · subst e; simp [fieldAt, fieldP] <;> grind
                   · exact hn.out i (by omega)
                 case measure => simp [intOf])
        · cases Rc
          all_goals
            go_wp2
            all_goals first
              | (have HX := rowP_field m regs cl _ _ 2 (by omega) hn.out (by go_light; simp [fieldAt, fieldP] <;> grind)
                 go_ret
                 go_light
                 exact ⟨ret_int (by rw [HX]; simp [fieldAt, fieldP] <;> grind), (by repeat (first | with_reducible exact Below.refl _ _ | with_reducible assumption | with_reducible refine Below.drew ?_ | with_reducible refine Below.drewN ?_ _ | with_reducible refine Below.alloc ?_ (by first | omega | (simp <;> omega) | (simp at * <;> omega)) _ | with_reducible refine Below.setCell ?_ (by first | omega | (simp <;> omega) | (simp at * <;> omega)) _ | (with_reducible refine Below.trans ?_ (Below.mono (by first | with_reducible assumption | exact hF _) (by first | omega | (simp <;> omega) | (simp at * <;> omega))))))⟩)
              | (go_roundw
                 case rel =>
                   go_light
                   refine ⟨2 + 1, by omega, rfl, (by repeat (first | with_reducible exact Below.refl _ _ | with_reducible assumption | with_reducible refine Below.drew ?_ | with_reducible refine Below.drewN ?_ _ | with_reducible refine Below.alloc ?_ (by first | omega | (simp <;> omega) | (simp at * <;> omega)) _ | with_reducible refine Below.setCell ?_ (by first | omega | (simp <;> omega) | (simp at * <;> omega)) _ | (with_reducible refine Below.trans ?_ (Below.mono (by first | with_reducible assumption | exact hF _) (by first | omega | (simp <;> omega) | (simp at * <;> omega)))))), ?_⟩
                   intro i hi
                   by_cases e : i = 2
                   · subst e; simp [fieldAt, fieldP] <;> grind
                   · exact hn.out i (by omega)
                 case measure => simp [intOf])
      · obtain rfl : j = 3 := by omega
        have HX := rowP_kind m regs cl _ _ hn.out
        have HY := Lib.hid HX; clear HX
        have hd0 := (bcell hb0).1
        rcases (show Rn = 0 ∨ Rn = 1 ∨ Rn = 2 ∨ Rn = 3 ∨ Rn = 4 by omega) with rfl | rfl | rfl | rfl | rfl
        · go_wp2
          all_goals (go_ret; go_light; refine ⟨ret_int ?_, (by repeat (first | with_reducible exact Below.refl _ _ | with_reducible assumption | with_reducible refine Below.drew ?_ | with_reducible refine Below.drewN ?_ _ | with_reducible refine Below.alloc ?_ (by first | omega | (simp <;> omega) | (simp at * <;> omega)) _ | with_reducible refine Below.setCell ?_ (by first | omega | (simp <;> omega) | (simp at * <;> omega)) _ | (with_reducible refine Below.trans ?_ (Below.mono (by first | with_reducible assumption | exact hF _) (by first | omega | (simp <;> omega) | (simp at * <;> omega))))))⟩; rw [HY.out]; simp [kindP] <;> grind)
        · go_wp2
          all_goals (go_ret; go_light; refine ⟨ret_int ?_, (by repeat (first | with_reducible exact Below.refl _ _ | with_reducible assumption | with_reducible refine Below.drew ?_ | with_reducible refine Below.drewN ?_ _ | with_reducible refine Below.alloc ?_ (by first | omega | (simp <;> omega) | (simp at * <;> omega)) _ | with_reducible refine Below.setCell ?_ (by first | omega | (simp <;> omega) | (simp at * <;> omega)) _ | (with_reducible refine Below.trans ?_ (Below.mono (by first | with_reducible assumption | exact hF _) (by first | omega | (simp <;> omega) | (simp at * <;> omega))))))⟩; rw [HY.out]; simp [kindP])
        · go_wp2
          all_goals (go_ret; go_light; refine ⟨ret_int ?_, (by repeat (first | with_reducible exact Below.refl _ _ | with_reducible assumption | with_reducible refine Below.drew ?_ | with_reducible refine Below.drewN ?_ _ | with_reducible refine Below.alloc ?_ (by first | omega | (simp <;> omega) | (simp at * <;> omega)) _ | with_reducible refine Below.setCell ?_ (by first | omega | (simp <;> omega) | (simp at * <;> omega)) _ | (with_reducible refine Below.trans ?_ (Below.mono (by first | with_reducible assumption | exact hF _) (by first | omega | (simp <;> omega) | (simp at * <;> omega))))))⟩; rw [HY.out]; simp [kindP] <;> grind)
        · go_wp2
          all_goals (go_ret; go_light; refine ⟨ret_int ?_, (by repeat (first | with_reducible exact Below.refl _ _ | with_reducible assumption | with_reducible refine Below.drew ?_ | with_reducible refine Below.drewN ?_ _ | with_reducible refine Below.alloc ?_ (by first | omega | (simp <;> omega) | (simp at * <;> omega)) _ | with_reducible refine Below.setCell ?_ (by first | omega | (simp <;> omega) | (simp at * <;> omega)) _ | (with_reducible refine Below.trans ?_ (Below.mono (by first | with_reducible assumption | exact hF _) (by first | omega | (simp <;> omega) | (simp at * <;> omega))))))⟩; rw [HY.out]; simp [kindP] <;> grind)
        · by_cases hn0 : n < 0
          · go_wp2
            go_quiet (fail)
            go_wp2
            all_goals (go_ret; go_light; refine ⟨ret_int ?_, (by repeat (first | with_reducible exact Below.refl _ _ | with_reducible assumption | with_reducible refine Below.drew ?_ | with_reducible refine Below.drewN ?_ _ | with_reducible refine Below.alloc ?_ (by first | omega | (simp <;> omega) | (simp at * <;> omega)) _ | with_reducible refine Below.setCell ?_ (by first | omega | (simp <;> omega) | (simp at * <;> omega)) _ | (with_reducible refine Below.trans ?_ (Below.mono (by first | with_reducible assumption | exact hF _) (by first | omega | (simp <;> omega) | (simp at * <;> omega))))))⟩; rw [HY.out]; simp [kindP] <;> grind)
          · obtain ⟨N, rfl⟩ := Int.eq_ofNat_of_zero_le (show 0 ≤ n by omega)
            by_cases hN : N < m.funcs.length
            · obtain ⟨rfl, hfb⟩ := hfa (by omega)
              obtain ⟨⟨_, q, _⟩, _, ⟨hpl, hpm, _⟩, _⟩ := Hcs.out N hN
              generalize H N = hh at *
              obtain ⟨pa', pl', pc', _, _, _⟩ := hh
              dsimp only at q hpl hpm
              have hP : paramsOf m N = pl' := by unfold paramsOf; rw [Int.toNat_natCast, hpl]
              have h8 := Hp8.out N hN
              rw [hpl] at h8
              have hb9 : 0 ≤ b ∧ b ≤ 64 := by
                have := hn.out 1 (by omega)
                simp [fieldAt, fieldP] at this
                cases Rb <;> grind
              have HP := Lib.hid hP; clear hP hpl
              unfold maxLen at hpm
              have hfb2 : fb < w.heap.size ∧ fb < W0.heap.size := by omega
              have d1 : decide ((N : Int) < 0) = false := by simp <;> omega
              have d2 : decide ((m.funcs.length : Int) ≤ N) = false := by simp <;> omega
              have hwr : IntKind.i64.wrap (b + (pl' : Int)) = b + (pl' : Int) := IntWalk.i64_in _ (by omega)
              go_wp2
              go_quiet (fail)
              clear hwr
              go_wp2
              all_goals (go_ret; go_light; refine ⟨ret_int ?_, (by repeat (first | with_reducible exact Below.refl _ _ | with_reducible assumption | with_reducible refine Below.drew ?_ | with_reducible refine Below.drewN ?_ _ | with_reducible refine Below.alloc ?_ (by first | omega | (simp <;> omega) | (simp at * <;> omega)) _ | with_reducible refine Below.setCell ?_ (by first | omega | (simp <;> omega) | (simp at * <;> omega)) _ | (with_reducible refine Below.trans ?_ (Below.mono (by first | with_reducible assumption | exact hF _) (by first | omega | (simp <;> omega) | (simp at * <;> omega))))))⟩; rw [HY.out, kindP_call _ _ _ _ _ _ (by omega) (by omega), HP.out]; first | rw [if_pos (by omega)] | rw [if_neg (by omega)])
            · have d1 : decide ((N : Int) < 0) = false := by simp <;> omega
              have d2 : decide ((m.funcs.length : Int) ≤ N) = true := by simp <;> omega
              go_wp2
              go_quiet (fail)
              go_wp2
              all_goals (go_ret; go_light; refine ⟨ret_int ?_, (by repeat (first | with_reducible exact Below.refl _ _ | with_reducible assumption | with_reducible refine Below.drew ?_ | with_reducible refine Below.drewN ?_ _ | with_reducible refine Below.alloc ?_ (by first | omega | (simp <;> omega) | (simp at * <;> omega)) _ | with_reducible refine Below.setCell ?_ (by first | omega | (simp <;> omega) | (simp at * <;> omega)) _ | (with_reducible refine Below.trans ?_ (Below.mono (by first | with_reducible assumption | exact hF _) (by first | omega | (simp <;> omega) | (simp at * <;> omega))))))⟩; rw [HY.out]; simp [kindP] <;> grind)
  · have hk0 : knownB op = false := by simpa using hk
    clear hk
    go_enter Tryd.func34, Tryd.ntmps34
    go_wp2_with (go_at_call 58; refine (known_any _ _).mono ?_; rintro e w1 ⟨rfl, rfl⟩)
    go_ret
    go_light
    exact ⟨ret_int (by simp [hk0]), (by repeat (first | with_reducible exact Below.refl _ _ | with_reducible assumption | with_reducible refine Below.drew ?_ | with_reducible refine Below.drewN ?_ _ | with_reducible refine Below.alloc ?_ (by first | omega | (simp <;> omega) | (simp at * <;> omega)) _ | with_reducible refine Below.setCell ?_ (by first | omega | (simp <;> omega) | (simp at * <;> omega)) _ | (with_reducible refine Below.trans ?_ (Below.mono (by first | with_reducible assumption | exact hF _) (by first | omega | (simp <;> omega) | (simp at * <;> omega))))))⟩
end Go.Proofs.YtgpdggjpbmgegaaDoor
