/- Package pack: reading of an instruction. -/
import Derived.Test.YtgpdggjpbmgegaaDoorPkD
namespace Go.Proofs.YtgpdggjpbmgegaaDoor
open Go.RowKit
set_option linter.unusedVariables false
set_option linter.unusedSimpArgs false


theorem ins_end (Q : Ending → World → Prop) (T : Array Value) (W : World) (k : Nat) (x : PIns) (ho : Own W k [.int .i64 x.op, .int .i64 x.a, .int .i64 x.b, .int .i64 x.c, .int .i64 x.n]) (hT : T[2]? = some (.pointer (some ⟨k, 0, none⟩))) (ex : Exit) (hx : ex = .ret ∨ ex = .normal)
    (hq : Q (.returned (InsVal x)) W) : bodyPost Tryd.prog Tryd.f56 Q ex { tmps := T, defers := [] } W := by
  obtain ⟨_, r0, r1, r2, r3, r4, _⟩ := own5 ho
  have hr : (results Tryd.f56 T).run Tryd.prog W = .ok (InsVal x) W := by
    simp [InsVal, results, Tryd.results56, go_sem, hT, r0, r1, r2, r3, r4]
  rcases hx with rfl | rfl
  · exact bodyPost_ret hr rfl hq
  · exact ⟨rfl, _, hr, hq⟩

set_option maxRecDepth 100000 in
set_option maxHeartbeats 2000000 in
theorem rins_any (w : World) (rk bb cap : Nat) (bs : List Int) (at_ : Nat) (x : PIns) (h : RdAt w rk bb cap bs at_) (hn : at_ + 12 ≤ bs.length) (h0 : bs.getD at_ 0 = x.op) (h1 : bs.getD (at_ + 1) 0 = x.a) (h2 : bs.getD (at_ + 2) 0 = x.b) (h3 : bs.getD (at_ + 3) 0 = x.c)
    (hb : ∀ i, i < 8 → bs.getD (at_ + 4 + i) 0 = byteZ x.n i) (hn64 : In64 x.n) (hr : (0 ≤ x.op ∧ x.op < 256) ∧ (0 ≤ x.a ∧ x.a < 256) ∧ (0 ≤ x.b ∧ x.b < 256) ∧ 0 ≤ x.c ∧ x.c < 256) :
    Calls Tryd.prog 56 #[.pointer (some ⟨rk, 0, none⟩)] w fun e w' => e = .returned (InsVal x) ∧ Chg (· = rk) w w' ∧ RdAt w' rk bb cap bs (at_ + 12) := by
  have HT := Lib.hid (fun (w1 : World) (hb : Below w.heap.size w w1) => take_any w1 rk bb cap bs at_ 4 (h.keep hb) (by omega) (by omega) 4 rfl)
  have HNN := Lib.hid (fun (w1 : World) (h1 : RdAt w1 rk bb cap bs (at_ + 4)) => rnumber_any w1 rk bb cap bs (at_ + 4) 8 x.n 8 rfl h1 (by omega) (by omega) (by omega) hb (.inl ⟨rfl, hn64⟩))
  have hrk := h.own.1
  have hbbl := h.bl
  have hbne : bb ≠ w.heap.size := by omega
  have h00 := Lib.hid h0; have h11 := Lib.hid h1; have h22 := Lib.hid h2; have h33 := Lib.hid h3
  clear h0 h1 h2 h3 hb hn64
  obtain ⟨op, a, b, c, n⟩ := x
  dsimp only at *
  have y0 : IntKind.i64.wrap op = op := IntWalk.i64_in _ (by omega)
  have y1 : IntKind.i64.wrap a = a := IntWalk.i64_in _ (by omega)
  have y2 : IntKind.i64.wrap b = b := IntWalk.i64_in _ (by omega)
  have y3 : IntKind.i64.wrap c = c := IntWalk.i64_in _ (by omega)
  have z0 : wrap64 op = op := by rw [← i64_wrap64]; exact y0
  have z1 : wrap64 a = a := by rw [← i64_wrap64]; exact y1
  have z2 : wrap64 b = b := by rw [← i64_wrap64]; exact y2
  have z3 : wrap64 c = c := by rw [← i64_wrap64]; exact y3
  have HB := Lib.hid (fun (w1 : World) (k : Nat) (h1 : RdAt w1 rk bb cap bs k) => (show w1.cell? ⟨bb, at_, none⟩ = some (.int .u8 op) ∧ w1.cell? ⟨bb, at_ + 1, none⟩ = some (.int .u8 a) ∧ w1.cell? ⟨bb, at_ + 2, none⟩ = some (.int .u8 b) ∧ w1.cell? ⟨bb, at_ + 3, none⟩ = some (.int .u8 c) from
    ⟨by rw [h1.byte _ (by omega), h00.out], by rw [h1.byte _ (by omega), h11.out], by rw [h1.byte _ (by omega), h22.out], by rw [h1.byte _ (by omega), h33.out]⟩))
  have H := Lib.hid h; clear h h00 h11 h22 h33
  go_enter Tryd.func56, Tryd.ntmps56
  go_wp2_with (go_at_call 28; refine (HT.out _ (by repeat (first | with_reducible exact Below.refl _ _ | with_reducible assumption | with_reducible refine Below.drew ?_ | with_reducible refine Below.drewN ?_ _ | with_reducible refine Below.alloc ?_ (by first | omega | (simp <;> omega) | (simp at * <;> omega)) _ | with_reducible refine Below.setCell ?_ (by first | omega | (simp <;> omega) | (simp at * <;> omega)) _ | (with_reducible refine Below.trans ?_ (Below.mono (by first | with_reducible assumption | exact hF _) (by first | omega | (simp <;> omega) | (simp at * <;> omega))))))).mono ?_; rintro e w1 ⟨rfl, hc1, hr1⟩)
  have hres1 : Own w1 w.heap.size [.int .i64 0, .int .i64 0, .int .i64 0, .int .i64 0, .int .i64 0] := hc1.own (Own.new _ _ _) (by omega)
  obtain ⟨b0, b1, b2, b3⟩ := HB.out w1 _ hr1
  have q5 := own5 hres1
  have HR1 := Lib.hid hr1
  have HRES := Lib.hid hres1
  clear hr1 hres1
  have hrd := HR1.out.keep (Below.refl w1.heap.size w1).drew
  have HRD := HRES.out.drew
  go_region_held3 (fun w' => w'.cell? ⟨bb, at_, none⟩ = some (.int .u8 op) ∧ w'.cell? ⟨bb, at_ + 1, none⟩ = some (.int .u8 a) ∧ w'.cell? ⟨bb, at_ + 2, none⟩ = some (.int .u8 b) ∧ w'.cell? ⟨bb, at_ + 3, none⟩ = some (.int .u8 c)) (first | (with_reducible exact HB.out w2 _ hr2) | go_keep | (obtain ⟨g0, g1, g2, g3⟩ := HB.out w2 _ hr2; refine ⟨?_, ?_, ?_, ?_⟩ <;> (repeat rw [World.cell?_setCell_other _ _ _ _ (by intro x; injection x; omega)]) <;> assumption))
    (first | (go_at_call 31; refine (HNN.out w1.drew hrd).mono ?_; rintro e w2 ⟨rfl, hc2, hr2⟩; have q52 := own5 (hc2.own HRD (by omega)); have s52 := set5 (hc2.own HRD (by omega))))
  have hc2' : Chg (· = rk) w w2 := (((Chg.refl _ _).alloc _).trans hc1).trans ((Chg.refl _ _).drew.trans hc2)
  have hown2 := hc2.own HRD (fun e => by omega)
  try go_wp2
  refine ins_end _ _ _ w.heap.size ⟨op, a, b, c, n⟩ (own5_set hown2 _ _ _ _ _) rfl _ (by simp) ⟨rfl, ?_, ?_⟩
  · exact ((((hc2'.setCell (p := ⟨w.heap.size, 0, none⟩) (.inr (by simp)) _).setCell (p := ⟨w.heap.size, 1, none⟩) (.inr (by simp)) _).setCell (p := ⟨w.heap.size, 2, none⟩) (.inr (by simp)) _).setCell (p := ⟨w.heap.size, 3, none⟩) (.inr (by simp)) _).setCell (p := ⟨w.heap.size, 4, none⟩) (.inr (by simp)) _
  · exact hr2.chg (S := fun x => x = w.heap.size) (((((((Chg.refl (fun x => x = w.heap.size) w2).setCell (p := ⟨w.heap.size, 0, none⟩) (.inl rfl) _).setCell (p := ⟨w.heap.size, 1, none⟩) (.inl rfl) _).setCell (p := ⟨w.heap.size, 2, none⟩) (.inl rfl) _).setCell (p := ⟨w.heap.size, 3, none⟩) (.inl rfl) _).setCell (p := ⟨w.heap.size, 4, none⟩) (.inl rfl) _)) (by omega) (by omega)
end Go.Proofs.YtgpdggjpbmgegaaDoor
