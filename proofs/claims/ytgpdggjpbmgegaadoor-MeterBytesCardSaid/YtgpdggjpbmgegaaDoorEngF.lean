import Derived.Test.YtgpdggjpbmgegaaDoorEng
namespace Go.Proofs.YtgpdggjpbmgegaaDoor
open Go.RowKit
set_option linter.unusedVariables false
set_option linter.unusedSimpArgs false


theorem EngAt.topPtr {B : Nat} {w : World} {g : ModImg} {m : PMod} {i : Img} {ex : List Value} {lim steps : Int} {s : PSt} (h : EngAt B w g m i ex lim steps s) : w.cell? ⟨i.sb, s.rest.length, none⟩ = some (ptrV i.ht.fb) := by
  rw [h.row.cellAt s.rest.length (by omega)]
  have := h.frames.len
  rw [List.getElem?_map, List.getElem?_append_right (by omega), this]; simp

theorem FramesAt.get {w : World} {g : ModImg} : ∀ {hs : List HFr} {fs : List PFr}, FramesAt w g hs fs → ∀ k, (hk : k < fs.length) → ∃ h, hs[k]? = some h ∧ FrAt w g.fsb g.fso h fs[k]
  | h :: hs, f :: fs, k, 0, _ => ⟨h, rfl, k.1⟩
  | h :: hs, f :: fs, k, j + 1, hj => by
    obtain ⟨x, hx, hf⟩ := FramesAt.get k.2 j (by simpa using hj)
    exact ⟨x, by simpa using hx, by simpa using hf⟩
  | [], _ :: _, h, _, _ => h.elim

set_option maxHeartbeats 400000 in
theorem over_any (eb : Nat) (E V S F W lim use : Int) (mp fv dv : Value) (ov : Bool) (ex : List Value) (w : World) (h : Own w eb (engC E V S F W lim mp fv use ov dv ++ ex)) :
    Calls Tryd.prog 41 #[ptrV eb] w fun e w' => e = .returned (.bool ov) ∧ w = w' := by
  have f9 := h.2.1 9 _ rfl
  unfold ptrV
  go_enter Tryd.func41, Tryd.ntmps41
  go_wp2
  go_ret
  exact ⟨rfl, rfl⟩

set_option maxRecDepth 100000 in
set_option maxHeartbeats 1000000 in
theorem next_any {B : Nat} {g : ModImg} {m : PMod} {i : Img} {ex : List Value} {lim steps : Int} {s : PSt} (w : World) (h : EngAt B w g m i ex lim steps s) (hfn : s.top.fn < m.funcs.length) (h0 : 0 ≤ s.top.at_) (h1 : s.top.at_ < (fnAt m s.top.fn).code.length) (hrl : s.rest.length ≤ 64) :
    Calls Tryd.prog 42 #[ptrV i.eb] w fun e w' => e = .returned (InsVal (insAt m s.top)) ∧ Below w.heap.size w w' ∧ InsOk (insAt m s.top) := by
  have f7 := h.eng.2.1 7 _ rfl
  have hp := h.topPtr
  have t5 := own5 h.top.1
  obtain ⟨_, _, _, _, _, hF⟩ := h.mod
  obtain ⟨⟨c0, c1, c2, c3, c4⟩, _, _, ⟨hcl, hcm, cb, co, hca, hcs⟩, _⟩ := hF _ hfn
  obtain ⟨a, ha⟩ := Int.eq_ofNat_of_zero_le h0
  have hlt : a < (fnAt m s.top.fn).code.length := by omega
  obtain ⟨⟨i0, i1, i2, i3, i4⟩, hok⟩ := hcs a (by omega)
  obtain ⟨hca1, hcb⟩ := hca (by omega)
  have hx : insAt m s.top = (fnAt m s.top.fn).code.getD a default := by unfold insAt; rw [ha]; rfl
  rw [hx]
  refine (?_ : Calls _ _ _ _ _)
  rw [hca1] at c4
  rw [ha] at t5
  have hlow := h.low
  have hF1 := h.mod.1
  have hsb := (h.own i.sb (by simp [Img.blocks])).2.1
  have heb := h.eng.1
  have htb := h.top.1.1
  generalize (fnAt m s.top.fn).code.getD a default = x at *
  unfold ptrV at *
  unfold maxLen at hcm
  rw [← hcl] at c4 hcm
  have hcl2 := Lib.hid hcl; clear hcl
  have hx2 := Lib.hid hx; clear hx
  have ha2 := Lib.hid ha; clear ha
  clear hca hcs hF hca1
  generalize s.rest.length = n at *
  have hwr : IntKind.i64.wrap ((n : Int) + 1 - 1) = (n : Int) := by rw [IntWalk.i64_in _ (by omega)]; omega
  have hwr2 : IntKind.i64.wrap (n : Int) = (n : Int) := IntWalk.i64_in _ (by omega)
  have hn1 : (n : Int) < (n : Int) + 1 := by omega
  have hz5 : cb < w.heap.size ∧ g.fsb < w.heap.size ∧ i.ht.fb < w.heap.size ∧ i.sb < w.heap.size ∧ i.eb < w.heap.size := by omega
  go_enter Tryd.func42, Tryd.ntmps42
  go_wp2
  refine wp_still 12 (by kernel_rfl) (by kernel_rfl) ?_; simp only [List.take_succ_cons, List.take_zero, List.drop_succ_cons, List.drop_zero]; repeat (refine WS_step (fun K hK => ?_); go_simp; refine hK _ ?_; clear hK K)
  refine WS_nil ?_; go_wp2
  refine wp_still 13 (by kernel_rfl) (by kernel_rfl) ?_; simp only [List.take_succ_cons, List.take_zero, List.drop_succ_cons, List.drop_zero]; repeat (refine WS_step (fun K hK => ?_); go_simp; refine hK _ ?_; clear hK K)
  refine WS_nil ?_; go_wp2
  refine bodyPost_ret (v := .agg #[.int .i64 x.op, .int .i64 x.a, .int .i64 x.b, .int .i64 x.c, .int .i64 x.n]) ?_ rfl ⟨rfl, ?_, hok⟩
  · simp [results, Tryd.results42, go_sem]
  · exact (by repeat (first | with_reducible exact Below.refl _ _ | with_reducible assumption | with_reducible refine Below.drew ?_ | with_reducible refine Below.drewN ?_ _ | with_reducible refine Below.alloc ?_ (by first | omega | (simp <;> omega) | (simp at * <;> omega)) _ | with_reducible refine Below.setCell ?_ (by first | omega | (simp <;> omega) | (simp at * <;> omega)) _ | (with_reducible refine Below.trans ?_ (Below.mono (by first | with_reducible assumption | exact hF _) (by first | omega | (simp <;> omega) | (simp at * <;> omega))))))
end Go.Proofs.YtgpdggjpbmgegaaDoor
