/- The reference machine (R20): a call, walked. -/
import Derived.Test.YtgpdggjpbmgegaaDoorMrI
namespace Go.Proofs.YtgpdggjpbmgegaaDoor
open Go.RowKit
set_option linter.unusedVariables false
set_option linter.unusedSimpArgs false


theorem EnterPost.old {xb k n R W : Nat} {into : Int} {x : MC} {ps : List Value} {xs : List Int} {w w1 w' : World} {e : Ending} (h : EnterPost xb k into x n ps xs R W w1 e w') (hb : Below w.heap.size w w1) : EnterPost xb k into x n ps xs R W w e w' := by
  obtain ⟨rb, wb, sb, cap, h1, h2, h3, h4, h5, h6, h7, h8, h9, h10, h11, h12⟩ := h
  have hz := hb.size
  exact ⟨rb, wb, sb, cap, h1, (Chg.of hb).trans2 h2 (fun y _ e => e), h3, h4, h5.imp id (fun h => by omega), by omega, by omega, h8, h9, h10, h11, h12⟩

theorem EnterPost.ret {xb k n R W : Nat} {into : Int} {x : MC} {ps : List Value} {xs : List Int} {w w' : World} {e : Ending} (h : EnterPost xb k into x n ps xs R W w e w') : e = .returned (.tuple #[]) ∧ True := by
  obtain ⟨rb, wb, sb, cap, h1, _⟩ := h
  exact ⟨h1, trivial⟩
theorem NumsAt.up2 {B B' : Nat} {w : World} {a : Option Addr} {n : Nat} {zs : List Int} (h : NumsAt B w a n zs) (hB : B ≤ B') : NumsAt B' w a n zs := h.up (Same.refl _ _) hB
def CallsPost (xb k : Nat) (into : Int) (x : MC) (n : Nat) (ps : List Value) (f : PFunc) (xs : List Int) (R W : Nat) (w : World) (e : Ending) (w' : World) : Prop :=
  (fitsB f.params xs = false → e = .returned (.tuple #[]) ∧ Chg (· = xb) w w' ∧ Own w' xb { x with e := 52, v := 0, en := true }.cells) ∧
  (fitsB f.params xs = true → 0 < x.most ∧ x.most ≤ n → e = .returned (.tuple #[]) ∧ Chg (· = xb) w w' ∧ Own w' xb { x with e := 91, v := 0, en := true }.cells) ∧
  (fitsB f.params xs = true → ¬ (0 < x.most ∧ x.most ≤ n) → EnterPost xb k into x n ps xs R W w e w')

section
variable {xb k n R W : Nat} {into : Int} {x : MC} {ps : List Value} {f : PFunc} {xs : List Int} {w w' : World}
theorem callsPost_a (hF : fitsB f.params xs = false) (h1 : Chg (· = xb) w w') (h2 : Own w' xb { x with e := 52, v := 0, en := true }.cells) : CallsPost xb k into x n ps f xs R W w (.returned (.tuple #[])) w' := by
  refine ⟨fun _ => ⟨rfl, h1, h2⟩, fun h => ?_, fun h => ?_⟩ <;> (rw [hF] at h; cases h)
theorem callsPost_b (hF : fitsB f.params xs = true) (hd : 0 < x.most ∧ x.most ≤ n) (h1 : Chg (· = xb) w w') (h2 : Own w' xb { x with e := 91, v := 0, en := true }.cells) : CallsPost xb k into x n ps f xs R W w (.returned (.tuple #[])) w' := by
  refine ⟨fun h => ?_, fun _ _ => ⟨rfl, h1, h2⟩, fun _ h => absurd hd h⟩
  rw [hF] at h; cases h
theorem callsPost_c (hF : fitsB f.params xs = true) (hd : ¬ (0 < x.most ∧ x.most ≤ n)) (h1 : EnterPost xb k into x n ps xs R W w (.returned (.tuple #[])) w') : CallsPost xb k into x n ps f xs R W w (.returned (.tuple #[])) w' := by
  refine ⟨fun h => ?_, fun _ h => absurd h hd, fun _ _ => h1⟩
  rw [hF] at h; cases h
end
theorem drop_take_succ (l : List Int) (b j : Nat) (h : b + j < l.length) : (l.drop b).take (j + 1) = (l.drop b).take j ++ [l.getD (b + j) 0] := by
  have hlt : j < (l.drop b).length := by simp; omega
  rw [List.take_add_one, List.getElem?_eq_getElem hlt]
  simp [List.getD_eq_getElem?_getD, List.getElem?_eq_getElem h]

theorem ownsNums {w : World} {g n cap : Nat} {xs : List Int} (h : w.ownsRow 0 2 1 (.slice (some ⟨g, 0, none⟩) n cap) n (Nums xs)) (h64 : ∀ i, i < n → In64 (xs.getD i 0)) (hn : n ≤ maxLen) (hl : xs.length = n) : NumsAt w.heap.size w (some ⟨g, 0, none⟩) n xs := by
  refine ⟨hl, hn, g, 0, fun _ => ⟨rfl, (h.lt g rfl).2⟩, fun i hi => ⟨?_, h64 i hi⟩⟩
  rw [Nat.zero_add]
  exact own_cells h (Nums_some (getD_some (by omega)))

set_option maxRecDepth 100000 in
set_option maxHeartbeats 4000000 in
theorem mcalls_any (B fsb fso k : Nat) (hh : HF) (f : PFunc) (xb : Nat) (x : MC) (w : World) (hB : B ≤ w.heap.size) (hg : FuncCells w fsb (fso + k * 5) hh f) (hp : SpansAt B w hh.pa hh.pl f.params) (hgb : fsb < w.heap.size) (hfa : x.fa = some ⟨fsb, fso, none⟩) (hk : k < x.fl)
    (rb : Nat) (regs : List Int) (hr : Own w rb (Nums regs)) (hr64 : ∀ i, i < regs.length → In64 (regs.getD i 0)) (hm : regs.length ≤ 64) (a c : Int) (b P : Nat) (hP : f.params.length = P) (hbp : b + P ≤ regs.length)
    (R W : Nat) (hR : f.regs = R) (hW : f.words = W) (hR2 : R ≤ 64) (hW2 : W ≤ 4096) (hal : P ≤ R) (hx : Own w xb x.cells) (hkm : x.fl ≤ maxLen)
    (n : Nat) (cap0 yb : Nat) (ps : List Value) (hfr : x.fr = .slice (some ⟨yb, 0, none⟩) n cap0) (hrow : w.ownsRow 0 105 5 x.fr n ps) (hfv : x.fr.ownBlock ≠ some xb) (hn : n ≤ 1048576) (hne : fsb ≠ xb) (hfvl : ∀ j, x.fr.ownBlock = some j → j ≠ fsb) (hu : 0 ≤ x.use ∧ x.use ≤ 1099511627776) :
    Calls Tryd.prog 78 #[.pointer (some ⟨xb, 0, none⟩), .slice (some ⟨rb, 0, none⟩) regs.length regs.length, .agg #[.int .i64 19, .int .i64 a, .int .i64 b, .int .i64 c, .int .i64 k]] w (CallsPost xb k a x n ps f ((regs.drop b).take P) R W w) := by
  obtain ⟨i0, hi, iz0, iz1, iz2⟩ := info_parts Tryd.info64
  have HG := Lib.hid hg
  obtain ⟨g0, g1, g2, g3, g4⟩ := hg
  have HENT := Lib.hid (fun (w1 : World) (hb : Below w.heap.size w w1) (aa : Option Addr) (al ac : Nat) (xs : List Int) (ha : NumsAt w1.heap.size w1 aa al xs) (hal2 : al ≤ R) => (menters_any fsb fso k x.fl x.fc hh f xb x w1 (HG.out.same (Same.of hb (Nat.le_refl _)) hgb) (by have := hb.size; omega) hfa hk aa al ac xs ha a R W hR hW hR2 hW2 hal2 (hx.below hb) hkm n ps (ownsRow_chgV (S := fun _ => False) (Chg.of hb) hrow (fun _ _ h => h)) hfv hn hne hfvl hu).mono (fun e w' h => show e = .returned (.tuple #[]) ∧ EnterPost xb k a x n ps xs R W w (.returned (.tuple #[])) w' from ⟨(EnterPost.old h hb).ret.1, by have h2 := EnterPost.old h hb; rw [h2.ret.1] at h2; exact h2⟩))
  have HEND := Lib.hid (fun (w1 : World) (hb : Below w.heap.size w w1) (er : Int) => (mends_any xb x er 0 w1 (hx.below hb)).mono (fun e w' h => show e = .returned (.tuple #[]) ∧ Chg (· = xb) w w' ∧ Own w' xb { x with e := er, v := 0, en := true }.cells from ⟨h.1, (Chg.of hb).trans2 h.2.1 (fun y _ e => e), h.2.2⟩))
  have HFIT := Lib.hid (fun (w1 : World) (hb : Below w.heap.size w w1) (aa : Option Addr) (al ac : Nat) (xs : List Int) (ha : NumsAt w1.heap.size w1 aa al xs) => mfits_any B f.name hh.pa hh.ca hh.pl hh.pc hh.cl hh.cc f.regs f.words f.params aa al ac xs w1 (by have := hb.size; omega) (hp.same (Same.of hb hB)) ha)
  have hpl := hp.1
  rw [hP] at hpl
  rw [hR] at g2 HFIT
  rw [hW] at g3 HFIT
  rw [← hpl] at g1 HFIT
  clear hR hW hP hp hpl
  have o := own11 hx
  rw [hfa, hfr] at o
  obtain ⟨o0, o1, o2, o3, o4, o5, _⟩ := o
  have hrlx := (hrow.lt yb (by rw [hfr]; rfl)).2
  have HX := Lib.hid hx; clear hx
  have HROW := Lib.hid hrow; clear hrow
  have hrl := hr.1
  have HRG := Lib.hid hr; clear hr
  have HR64 := Lib.hid hr64; clear hr64
  unfold maxLen at hkm
  have hPm : P ≤ 64 := by omega
  go_enter Tryd.func78, Tryd.ntmps78
  go_wp2
  go_region
  go_wp2
  generalize hW0 : World.drew _ = W0
  have hb0 : Below w.heap.size w W0 := by rw [← hW0]; exact (by repeat (first | with_reducible exact Below.refl _ _ | with_reducible assumption | with_reducible refine Below.drew ?_ | with_reducible refine Below.drewN ?_ _ | with_reducible refine Below.alloc ?_ (by first | omega | (simp <;> omega) | (simp at * <;> omega)) _ | with_reducible refine Below.setCell ?_ (by first | omega | (simp <;> omega) | (simp at * <;> omega)) _ | (with_reducible refine Below.trans ?_ (Below.mono (by first | with_reducible assumption | exact hF _) (by first | omega | (simp <;> omega) | (simp at * <;> omega))))))
  have OI0 := (show Own W0 w.heap.size [.int .i64 19, .int .i64 a, .int .i64 b, .int .i64 c, .int .i64 k] by rw [← hW0]; exact ((((Own.new _ _ _).alloc _).alloc _)).drew)
  have OF0 := (show Own W0 (w.heap.size + 1) [.string f.name, .slice hh.pa P hh.pc, .int .i64 R, .int .i64 W, .slice hh.ca hh.cl hh.cc] by rw [← hW0]; exact ((Own.new' _ _ _ _ (by simp)).alloc _).drew)
  have OA0 := Lib.hid (show W0.ownsRow 0 2 1 (.slice (some ⟨w.heap.size + 1 + 1, 0, none⟩) 0 0) 0 (Nums ((regs.drop b).take 0)) by rw [← hW0]; exact (ownsRow_none (by simp)).drew)
  clear hW0 g0 g1 g2 g3 g4 o1 o2 o3 o4 o5 hne hfvl hu hfa
  go_loopw [7, 8] (fun v i wr => ∃ (j g cap : Nat), j ≤ P ∧ i = .int .i64 j ∧ v = .slice (some ⟨g, 0, none⟩) j cap ∧ Below w.heap.size w wr ∧ w.heap.size + 1 < g ∧ Own wr w.heap.size [.int .i64 19, .int .i64 a, .int .i64 b, .int .i64 c, .int .i64 k] ∧ Own wr (w.heap.size + 1) [.string f.name, .slice hh.pa P hh.pc, .int .i64 R, .int .i64 W, .slice hh.ca hh.cl hh.cc] ∧ Hid (wr.ownsRow 0 2 1 (.slice (some ⟨g, 0, none⟩) j cap) j (Nums ((regs.drop b).take j)))) (fun v i _ => P - (intOf i).toNat)
  case atStart => exact ⟨0, _, 0, Nat.zero_le _, rfl, rfl, hb0, by omega, OI0, OF0, OA0⟩
  case round =>
    clear OI0 OF0 OA0 hb0
    obtain ⟨j, g, cap, hj, rfl, rfl, hbw, hgg, oi, of, hA⟩ := hrel
    have p5 := own5 oi
    have q5 := own5 of
    have hgl : g < wr.heap.size := (hA.out.lt g rfl).2
    have hzw := hbw.size
    have OI := Lib.hid oi; clear oi
    have OF := Lib.hid of; clear of
    by_cases hlt : j < P
    · have d2 : (j : Int) < (P : Int) := by omega
      have d3 : (b : Int) + (j : Int) < (regs.length : Int) := by omega
      have d4 : 0 ≤ (b : Int) + (j : Int) := by omega
      have d5 : ((b : Int) + (j : Int)).toNat = b + j := by omega
      have hwk : IntKind.i64.wrap ((j : Int) + 1) = (j : Int) + 1 := IntWalk.i64_in _ (by omega)
      have hwk0 : IntKind.i64.wrap (j : Int) = (j : Int) := IntWalk.i64_in _ (by omega)
      have hwk1 : IntKind.i64.wrap ((b : Int) + (j : Int)) = (b : Int) + (j : Int) := IntWalk.i64_in _ (by omega)
      have rj := (HRG.out.below hbw).num (getD_some (show b + j < regs.length by omega))
      have HE := Lib.hid (drop_take_succ regs b j (by omega))
      generalize regs.getD (b + j) 0 = rv at *
      go_wp2_with (at_builtin; refine wpList_append2 _ rfl (.tmp 26) (.tmp 34) 23 rfl 2 i0 (.int .i64 0) 1 8 Tryd.underlying23 hi iz0 iz1 iz2 rfl (by decide) (.slice (some ⟨g, 0, none⟩) j cap) j (Nums ((regs.drop b).take j)) rfl ?d2 ⟨wr.heap.size, 0, none⟩ 1 1 [.int .i64 rv] ?d3 ?d4 ?d5 ?d6 ?d7 ?d8 ?d9)
      case d2 => exact hA.out.alloc _
      case d3 => rfl
      case d4 => rfl
      case d5 =>
        intro j' u hu
        have hq := (Own.new wr [.int .i64 rv] 2).2.1 j' u hu
        rw [show (⟨wr.heap.size, 0, none⟩ : Addr).add j' = ⟨wr.heap.size, j', none⟩ from by unfold Addr.add; split <;> simp_all]; exact hq
      case d6 => intro u hu; simp only [List.mem_singleton] at hu; subst hu; rfl
      case d7 => unfold maxLen; omega
      case d8 => omega
      case d9 =>
        intro v2 w6 hown6 hgr hnn
        obtain ⟨b2, cap2, rfl⟩ : ∃ sb cap, v2 = .slice (some ⟨sb, 0, none⟩) (j + 1) cap := by
          rcases hown6.2 with ⟨_, h0⟩ | ⟨g', cap', cur, hv, _⟩
          · omega
          · exact ⟨g', cap', hv⟩
        have k6 : Chg (fun x => x = g) wr w6 := (((Chg.refl (fun x => x = g) wr).alloc _).trans ((chg_grown hgr).mono (fun x _ e => by simpa [Value.ownBlock, eq_comm] using e)))
        have hbg : w.heap.size + 1 < b2 := by
          rcases hnn with e | ⟨e, _⟩
          · simp [Value.ownBlock] at e; omega
          · simp [Value.ownBlock] at e; omega
        have oi6 := k6.own OI.out (by omega)
        have of6 := k6.own OF.out (by omega)
        have hb6 : Below w.heap.size w w6 := hbw.trans (k6.below w.heap.size (by omega) (fun x hx e => by omega))
        have HO6 := Lib.hid hown6; clear hown6 hgr hnn k6
        go_wp2
        go_roundw
        case rel => exact ⟨j + 1, b2, cap2, by omega, by simp, rfl, hb6, hbg, oi6, of6, Lib.hid (by rw [HE.out]; simpa [Nums] using HO6.out)⟩
        case measure => go_light; first | omega | (simp only [intOf]; omega)
    · have hjp : j = P := by omega
      subst hjp
      have d2 : ¬ (j : Int) < (j : Int) := by omega
      have hNA := Lib.hid (ownsNums hA.out (fun i hi => by
        rw [List.getD_eq_getElem?_getD, List.getElem?_take, if_pos hi, List.getElem?_drop, ← List.getD_eq_getElem?_getD]
        exact HR64.out _ (by omega)) (by unfold maxLen; omega) (by simp; omega))
      clear p5
      cases hF' : fitsB f.params ((regs.drop b).take j) with
      | false =>
        have hF := Lib.hid hF'; clear hF'
        go_wp2_with (first | (go_at_call 51; refine (HFIT.out _ hbw _ _ _ _ hNA.out).mono ?_; rintro e w2 ⟨rfl, hb2⟩; rw [hF.out]; have hbw2 : Below w.heap.size w w2 := hbw.trans (Below.mono hb2 (by omega)); have p52 := own5 (OI.out.below hb2); have hN2 := Lib.hid ((hNA.out.same (Same.of hb2 (Nat.le_refl _))).up2 hb2.size); have o2 := own11 (HX.out.below hbw2); rw [hfr] at o2; clear hNA) | (go_at_call 54; refine (HEND.out _ hbw2 52).mono ?_; rintro e w3 ⟨rfl, hc1, ho1⟩))
        go_end0
        go_light
        exact callsPost_a hF.out hc1 ho1
      | true =>
        have hF := Lib.hid hF'; clear hF'
        by_cases h1 : 0 < x.most
        · have d7 : decide (0 < x.most) = true := by simpa using h1
          by_cases h2 : x.most ≤ (n : Int)
          · have d8 : decide (x.most ≤ (n : Int)) = true := by simpa using h2
            go_wp2_with (go_at_call 51; refine (HFIT.out _ hbw _ _ _ _ hNA.out).mono ?_; rintro e w2 ⟨rfl, hb2⟩; rw [hF.out]; have hbw2 : Below w.heap.size w w2 := hbw.trans (Below.mono hb2 (by omega)); have p52 := own5 (OI.out.below hb2); have hN2 := Lib.hid ((hNA.out.same (Same.of hb2 (Nat.le_refl _))).up2 hb2.size); have o2 := own11 (HX.out.below hbw2); rw [hfr] at o2; clear hNA)
            go_quiet (fail)
            go_wp2_with (go_at_call 54; refine (HEND.out _ (by first | exact hbw2 | exact (by repeat (first | with_reducible exact Below.refl _ _ | with_reducible assumption | with_reducible refine Below.drew ?_ | with_reducible refine Below.drewN ?_ _ | with_reducible refine Below.alloc ?_ (by first | omega | (simp <;> omega) | (simp at * <;> omega)) _ | with_reducible refine Below.setCell ?_ (by first | omega | (simp <;> omega) | (simp at * <;> omega)) _ | (with_reducible refine Below.trans ?_ (Below.mono (by first | with_reducible assumption | exact hF _) (by first | omega | (simp <;> omega) | (simp at * <;> omega))))))) 91).mono ?_; rintro e w3 ⟨rfl, hc1, ho1⟩)
            go_end0
            go_light
            exact callsPost_b hF.out ⟨by simpa using d7, by simpa using d8⟩ hc1 ho1
          · have d8 : decide (x.most ≤ (n : Int)) = false := by simpa using h2
            go_wp2_with (go_at_call 51; refine (HFIT.out _ hbw _ _ _ _ hNA.out).mono ?_; rintro e w2 ⟨rfl, hb2⟩; rw [hF.out]; have hbw2 : Below w.heap.size w w2 := hbw.trans (Below.mono hb2 (by omega)); have p52 := own5 (OI.out.below hb2); have hN2 := Lib.hid ((hNA.out.same (Same.of hb2 (Nat.le_refl _))).up2 hb2.size); have o2 := own11 (HX.out.below hbw2); rw [hfr] at o2; clear hNA)
            go_quiet (fail)
            go_wp2_with (go_at_call 52; refine (HENT.out _ (by first | exact hbw2 | exact (by repeat (first | with_reducible exact Below.refl _ _ | with_reducible assumption | with_reducible refine Below.drew ?_ | with_reducible refine Below.drewN ?_ _ | with_reducible refine Below.alloc ?_ (by first | omega | (simp <;> omega) | (simp at * <;> omega)) _ | with_reducible refine Below.setCell ?_ (by first | omega | (simp <;> omega) | (simp at * <;> omega)) _ | (with_reducible refine Below.trans ?_ (Below.mono (by first | with_reducible assumption | exact hF _) (by first | omega | (simp <;> omega) | (simp at * <;> omega))))))) _ _ _ _ (by first | exact hN2.out | exact hN2.out.same (by repeat (first | with_reducible exact Same.refl _ _ | with_reducible assumption | with_reducible refine Same.drew ?_ | with_reducible refine Same.drewN ?_ _ | with_reducible refine Same.alloc ?_ (by first | omega | (simp <;> omega) | (simp at * <;> omega)) _ | with_reducible refine Same.setCell ?_ (by first | omega | (simp <;> omega) | (simp at * <;> omega)) _ | (with_reducible refine Same.trans ?_ (Same.of (by assumption) (by first | omega | (simp <;> omega) | (simp at * <;> omega))))))) hal).mono ?_; rintro e w3 ⟨rfl, hpost⟩)
            go_end0
            go_light
            exact callsPost_c hF.out (fun h => by simp at d8; omega) hpost
        · have d7 : decide (0 < x.most) = false := by simpa using h1
          go_wp2_with (go_at_call 51; refine (HFIT.out _ hbw _ _ _ _ hNA.out).mono ?_; rintro e w2 ⟨rfl, hb2⟩; rw [hF.out]; have hbw2 : Below w.heap.size w w2 := hbw.trans (Below.mono hb2 (by omega)); have p52 := own5 (OI.out.below hb2); have hN2 := Lib.hid ((hNA.out.same (Same.of hb2 (Nat.le_refl _))).up2 hb2.size); have o2 := own11 (HX.out.below hbw2); rw [hfr] at o2; clear hNA)
          go_quiet (fail)
          go_wp2_with (go_at_call 52; refine (HENT.out _ (by first | exact hbw2 | exact (by repeat (first | with_reducible exact Below.refl _ _ | with_reducible assumption | with_reducible refine Below.drew ?_ | with_reducible refine Below.drewN ?_ _ | with_reducible refine Below.alloc ?_ (by first | omega | (simp <;> omega) | (simp at * <;> omega)) _ | with_reducible refine Below.setCell ?_ (by first | omega | (simp <;> omega) | (simp at * <;> omega)) _ | (with_reducible refine Below.trans ?_ (Below.mono (by first | with_reducible assumption | exact hF _) (by first | omega | (simp <;> omega) | (simp at * <;> omega))))))) _ _ _ _ (by first | exact hN2.out | exact hN2.out.same (by repeat (first | with_reducible exact Same.refl _ _ | with_reducible assumption | with_reducible refine Same.drew ?_ | with_reducible refine Same.drewN ?_ _ | with_reducible refine Same.alloc ?_ (by first | omega | (simp <;> omega) | (simp at * <;> omega)) _ | with_reducible refine Same.setCell ?_ (by first | omega | (simp <;> omega) | (simp at * <;> omega)) _ | (with_reducible refine Same.trans ?_ (Same.of (by assumption) (by first | omega | (simp <;> omega) | (simp at * <;> omega))))))) hal).mono ?_; rintro e w3 ⟨rfl, hpost⟩)
          go_end0
          go_light
          exact callsPost_c hF.out (fun h => by simp at d7; omega) hpost
end Go.Proofs.YtgpdggjpbmgegaaDoor
