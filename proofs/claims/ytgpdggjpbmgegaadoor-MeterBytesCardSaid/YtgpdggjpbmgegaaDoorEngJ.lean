/- Do: the weight is added, the instruction's number passed, and the operation of the table called. -/
import Derived.Test.YtgpdggjpbmgegaaDoorEngI
import Derived.Test.YtgpdggjpbmgegaaDoorMay
namespace Go.Proofs.YtgpdggjpbmgegaaDoor
open Go.RowKit
set_option linter.unusedVariables false
set_option linter.unusedSimpArgs false


/-- the engine's own block alone has changed -/
theorem EngAt.eng_chg {B : Nat} {w w' : World} {g : ModImg} {m : PMod} {i : Img} {ex ex' : List Value} {lim steps steps' : Int} {s : PSt} (h : EngAt B w g m i ex lim steps s) (c : Chg (· = i.eb) w w')
    (he : Own w' i.eb (engC 0 0 steps' s.mf s.mw lim (ptrV g.mb) (.slice (some ⟨i.sb, 0, none⟩) (s.rest.length + 1) i.cap) s.use false (.slice (some ⟨i.db, 0, none⟩) 20 20) ++ ex')) : EngAt B w' g m i ex' lim steps' s := by
  have hnd : (i.eb :: i.db :: i.sb :: ((i.hr ++ [i.ht]).flatMap HFr.blocks)).Nodup := h.nodup
  have h1 := (List.nodup_cons.1 hnd).1
  have hnL : ∀ x ∈ (i.hr ++ [i.ht]).flatMap HFr.blocks, ¬ x = i.eb := fun x hx e => h1 (by subst e; simp only [List.mem_cons]; exact .inr (.inr hx))
  have oeb := h.own i.eb (by simp [Img.blocks])
  refine ⟨Nat.le_trans h.low c.size, h.mod.chg c h.low (fun k hk e => by omega) (fun e => oeb.2.2 e.symm), he, c.own h.does (fun e => h1 (List.mem_cons.2 (.inl (Eq.symm e)))), ownsRow_chg c h.row (fun e => h1 (List.mem_cons.2 (.inr (List.mem_cons.2 (.inl (Eq.symm e)))))),
    h.frames.chg c (fun f hf x hx => hnL x (List.mem_flatMap.2 ⟨f, by simp [hf], hx⟩)), h.top.chg c (fun x hx => hnL x (List.mem_flatMap.2 ⟨i.ht, by simp, hx⟩)), h.nodup, fun k hk => ?_, h.kept.chg c (fun x e => by rw [e]; simp [Img.blocks]) (fun x hx => .inl hx)⟩
  have := h.own k hk
  exact ⟨this.1, Nat.lt_of_lt_of_le this.2.1 c.size, this.2.2⟩

set_option maxRecDepth 100000 in
set_option maxHeartbeats 2000000 in
theorem do_walk {B : Nat} {g : ModImg} {m : PMod} {i : Img} {ex : List Value} {lim steps : Int} {s : PSt} (w : World) (h : EngAt B w g m i ex lim steps s) (hr : RowsAt w) (hB : 0 < B) (x : PIns) (hx0 : 0 ≤ x.op) (hx1 : x.op < 20)
    (hat : 0 ≤ s.top.at_ ∧ s.top.at_ ≤ 1000000) (hst : 0 ≤ steps ∧ steps ≤ 4611686018427387904) (hdep : s.rest.length ≤ 1000000) (F : Nat) (hF : doesL[x.op.toNat]? = some (fnV F)) (hcf : ∀ (args : Array Value) (w : World), (callFunc F args).run Tryd.prog w = .ok (.enter F args) w) (R : Ending → World → Prop)
    (hR : ∀ w1, Below B w w1 → EngAt B w1 g m i ex lim (steps + weightZ x.op) s.pass → Calls Tryd.prog F #[ptrV i.eb, ptrV i.ht.fb, InsVal x] w1 fun e w2 => R e w2 ∧ (e = .returned (.tuple #[]) ∨ ∃ t, e = .panicked t)) :
    Calls Tryd.prog 44 #[ptrV i.eb, InsVal x] w R := by
  have hw1 := weight_bd hx0 hx1
  obtain ⟨o, ho⟩ := Int.eq_ofNat_of_zero_le hx0
  rw [ho, Int.toNat_natCast] at hF
  have ho20 : o < 20 := by omega
  have hE := h.eng
  have e2 := hE.2.1 2 _ rfl
  have e7 := hE.2.1 7 _ rfl
  have e10 := hE.2.1 10 _ rfl
  have ef := hE.2.2
  have hp := h.topPtr
  have t5 := own5 h.top.1
  have dd := h.does.2.1 o _ hF
  unfold fnV at dd
  have hlow := h.low
  have heb := h.eng.1
  have hdb := h.does.1
  have htb := h.top.1.1
  have hsb := (h.own i.sb (by simp [Img.blocks])).2.1
  have oeb := h.own i.eb (by simp [Img.blocks])
  have otb := h.own i.ht.fb (by simp [Img.blocks, HFr.blocks])
  have hnd : (i.eb :: i.db :: i.sb :: ((i.hr ++ [i.ht]).flatMap HFr.blocks)).Nodup := h.nodup
  have h1 := (List.nodup_cons.1 hnd).1
  have h2 := (List.nodup_cons.1 (List.nodup_cons.1 hnd).2).1
  have h3 := (List.nodup_cons.1 (List.nodup_cons.1 (List.nodup_cons.1 hnd).2).2).1
  have mt : i.ht.fb ∈ (i.hr ++ [i.ht]).flatMap HFr.blocks := List.mem_flatMap.2 ⟨i.ht, by simp, by simp [HFr.blocks]⟩
  have ne1 : ¬ i.eb = i.ht.fb := fun e => h1 (by rw [e]; simp only [List.mem_cons]; exact .inr (.inr mt))
  have ne2 : ¬ i.eb = i.db := fun e => h1 (List.mem_cons.2 (.inl e))
  have ne3 : ¬ i.eb = i.sb := fun e => h1 (List.mem_cons.2 (.inr (List.mem_cons.2 (.inl e))))
  have ne4 : ¬ i.ht.fb = i.db := fun e => h2 (by rw [← e]; simp only [List.mem_cons]; exact .inr mt)
  have ne5 : ¬ i.ht.fb = i.sb := fun e => h3 (by rw [← e]; exact mt)
  clear hnd h1 h2 h3 mt hE
  have hwS : IntKind.i64.wrap (steps + weightZ x.op) = steps + weightZ x.op := IntWalk.i64_in _ (by omega)
  have hwA : IntKind.i64.wrap (s.top.at_ + 1) = s.top.at_ + 1 := IntWalk.i64_in _ (by omega)
  have hwn : IntKind.i64.wrap ((s.rest.length : Int) + 1 - 1) = (s.rest.length : Int) := by rw [IntWalk.i64_in _ (by omega)]; omega
  have hwn2 : IntKind.i64.wrap (s.rest.length : Int) = (s.rest.length : Int) := IntWalk.i64_in _ (by omega)
  have hn1 : (s.rest.length : Int) < (s.rest.length : Int) + 1 := by omega
  have hwo : IntKind.i64.wrap (o : Int) = o := IntWalk.i64_in _ (by omega)
  have ho1 : (o : Int) < 20 := by omega
  have HR := Lib.hid hR; clear hR
  have H0 := Lib.hid h; clear h
  have HW := Lib.hid hr; clear hr
  obtain ⟨op, xa, xb, xc, xn⟩ := x
  dsimp only at *
  subst ho
  unfold ptrV InsVal at *
  dsimp only
  go_enter Tryd.func44, Tryd.ntmps44
  go_wp2
  refine wp_still 8 (by kernel_rfl) (by kernel_rfl) ?_; simp only [List.take_succ_cons, List.take_zero, List.drop_succ_cons, List.drop_zero]; repeat (refine WS_step (fun K hK => ?_); go_simp; refine hK _ ?_; clear hK K)
  refine WS_step (fun K hK => ?_); go_simp; refine ⟨_, ((weight_any _ _ (HW.out.same (by repeat (first | with_reducible exact Same.refl _ _ | with_reducible assumption | with_reducible refine Same.drew ?_ | with_reducible refine Same.drewN ?_ _ | with_reducible refine Same.alloc ?_ (by first | omega | (simp <;> omega) | (simp at * <;> omega)) _ | with_reducible refine Same.setCell ?_ (by first | omega | (simp <;> omega) | (simp at * <;> omega)) _ | (with_reducible refine Same.trans ?_ (Same.of (by assumption) (by first | omega | (simp <;> omega) | (simp at * <;> omega)))))) (by omega : 0 < w.heap.size) (by first | omega | (simp <;> omega) | (simp at * <;> omega)))).mono fun e w' h => ⟨h.1, h.2⟩), hK _ ?_⟩; clear hK K; repeat (refine WS_step (fun K hK => ?_); go_simp; refine hK _ ?_; clear hK K)
  refine WS_nil ?_
  go_wp2
  refine wp_still 10 (by kernel_rfl) (by kernel_rfl) ?_; simp only [List.take_succ_cons, List.take_zero, List.drop_succ_cons, List.drop_zero]; repeat (refine WS_step (fun K hK => ?_); go_simp; refine hK _ ?_; clear hK K)
  refine WS_nil ?_; go_wp2
  refine wp_still 11 (by kernel_rfl) (by kernel_rfl) ?_; simp only [List.take_succ_cons, List.take_zero, List.drop_succ_cons, List.drop_zero]; repeat (refine WS_step (fun K hK => ?_); go_simp; refine hK _ ?_; clear hK K)
  refine WS_nil ?_
  go_wp2_with fail
  refine (HR.out _ (by repeat (first | with_reducible exact Below.refl _ _ | with_reducible assumption | with_reducible refine Below.drew ?_ | with_reducible refine Below.drewN ?_ _ | with_reducible refine Below.alloc ?_ (by first | omega | (simp <;> omega) | (simp at * <;> omega)) _ | with_reducible refine Below.setCell ?_ (by first | omega | (simp <;> omega) | (simp at * <;> omega)) _ | (with_reducible refine Below.trans ?_ (Below.mono (by first | with_reducible assumption | exact hF _) (by first | omega | (simp <;> omega) | (simp at * <;> omega)))))) ?_).mono ?_
  · have hE := H0.out.eng
    have c1 : Chg (· = i.eb) w (w.setCell ⟨i.eb, 2, none⟩ (.int .i64 (steps + weightZ (o : Int)))) := (by repeat (first | with_reducible exact Chg.refl _ _ | with_reducible assumption | with_reducible refine Chg.drew ?_ | with_reducible refine Chg.drewN ?_ _ | with_reducible refine Chg.alloc ?_ _ | with_reducible refine Chg.setCell ?_ (by first | with_reducible exact .inl rfl | exact .inl (.inl rfl) | exact .inl (.inr rfl) | exact .inr (by simp)) _ | (with_reducible refine Chg.trans ?_ (Chg.of (by first | with_reducible assumption | exact hF _)))))
    have h1 := H0.out.eng_chg (ex' := ex) (steps' := steps + weightZ (o : Int)) c1 (hE.set 2 _ (by simp [engC]))
    have hap := h1.apart
    have c2 : Chg (· = i.ht.fb) (w.setCell ⟨i.eb, 2, none⟩ (.int .i64 (steps + weightZ (o : Int)))) ((w.setCell ⟨i.eb, 2, none⟩ (.int .i64 (steps + weightZ (o : Int)))).setCell ⟨i.ht.fb, 1, none⟩ (.int .i64 (s.top.at_ + 1))) := (by repeat (first | with_reducible exact Chg.refl _ _ | with_reducible assumption | with_reducible refine Chg.drew ?_ | with_reducible refine Chg.drewN ?_ _ | with_reducible refine Chg.alloc ?_ _ | with_reducible refine Chg.setCell ?_ (by first | with_reducible exact .inl rfl | exact .inl (.inl rfl) | exact .inl (.inr rfl) | exact .inr (by simp)) _ | (with_reducible refine Chg.trans ?_ (Chg.of (by first | with_reducible assumption | exact hF _)))))
    have h2 := h1.top_chg (t := s.top.goto (s.top.at_ + 1)) c2 (fun k e => by rw [e]; simp [HFr.blocks]) ⟨h1.top.1.set 1 _ (by simp [frL]), c2.own h1.top.2.1 (fun e => hap.1 e.symm), c2.own h1.top.2.2 (fun e => hap.2.2 e.symm)⟩
    exact h2.below (by repeat (first | with_reducible exact Below.refl _ _ | with_reducible assumption | with_reducible refine Below.drew ?_ | with_reducible refine Below.drewN ?_ _ | with_reducible refine Below.alloc ?_ (by first | omega | (simp <;> omega) | (simp at * <;> omega)) _ | with_reducible refine Below.setCell ?_ (by first | omega | (simp <;> omega) | (simp at * <;> omega)) _ | (with_reducible refine Below.trans ?_ (Below.mono (by first | with_reducible assumption | exact hF _) (by first | omega | (simp <;> omega) | (simp at * <;> omega))))))
  · rintro e w2 ⟨hRe, he⟩
    rcases he with rfl | ⟨t, rfl⟩
    · go_wp2
      go_end0
      exact hRe
    · exact ⟨rfl, hRe⟩

/-- Do, whatever the operation -/
theorem do_any {B : Nat} {g : ModImg} {m : PMod} {i : Img} {ex : List Value} {lim steps : Int} {s : PSt} (w : World) (hm : Fine m) (h : EngAt B w g m i ex lim steps s) (hr : RowsAt w) (hB : 0 < B) (hok : StOk m s) (hx64 : InsOk (insAt m s.top))
    (hst : 0 ≤ steps ∧ steps ≤ 4611686018427387904) (hlim : lim = 0 ∨ lim = 64) (hdep : s.rest.length ≤ 1000000) :
    Calls Tryd.prog 44 #[ptrV i.eb, InsVal (insAt m s.top)] w fun e w' => StepPost B w g m i ex lim (steps + weightZ (insAt m s.top).op) s.pass (insAt m s.top) e w' := by
  have hx := insAt_fine hm hok.top
  have hub := hok.bd hm
  have hfr := hok.top
  have hc2 := (hm.fn _ hfr.fn).c2
  have a0 := hfr.at0; have a1 := hfr.at1
  generalize insAt m s.top = x at *
  obtain ⟨o, ho⟩ := Int.eq_ofNat_of_zero_le hx.op0
  have ho20 : o < 20 := by have := hx.op1; omega
  obtain ⟨F, hF, hcf⟩ : ∃ F, doesL[x.op.toNat]? = some (fnV F) ∧ ∀ (args : Array Value) (w : World), (callFunc F args).run Tryd.prog w = .ok (.enter F args) w := by
    rw [ho, Int.toNat_natCast]
    rcases (show o = 0 ∨ o = 1 ∨ o = 2 ∨ o = 3 ∨ o = 4 ∨ o = 5 ∨ o = 6 ∨ o = 7 ∨ o = 8 ∨ o = 9 ∨ o = 10 ∨ o = 11 ∨ o = 12 ∨ o = 13 ∨ o = 14 ∨ o = 15 ∨ o = 16 ∨ o = 17 ∨ o = 18 ∨ o = 19 by omega) with rfl | rfl | rfl | rfl | rfl | rfl | rfl | rfl | rfl | rfl | rfl | rfl | rfl | rfl | rfl | rfl | rfl | rfl | rfl | rfl
    all_goals exact ⟨_, rfl, fun args w => by simp [go_sem]⟩
  refine do_walk w h hr hB x hx.op0 hx.op1 ⟨a0, by omega⟩ hst hdep F hF hcf _ (fun w1 hb h1 => ?_)
  refine (op_any w1 hm h1 x hx hx64 hfr.fn hfr.rl hfr.wl hfr.r64 ?_ hlim hdep ?_ F hF).mono ?_
  · intro r c hs
    have hl := hok.links
    have hs' : s.rest = r ++ [c] := hs
    rw [hs'] at hl
    simp only [List.map_append, List.map_cons, List.map_nil] at hl
    have hp := hl.pair
    have hc := hok.rest c (by rw [hs']; simp)
    have := (hm.fn _ hc.fn).r2
    have := hc.rl
    exact ⟨hp.1, hp.2, by omega⟩
  · have e : s.pass.use = s.use := rfl
    rw [e]; omega
  · rintro e w2 ⟨hb2, hp⟩
    refine ⟨⟨hb.trans hb2, hp⟩, ?_⟩
    revert hp
    cases doP m lim s.pass x with
    | next s' => exact fun hp => .inl hp.1
    | done v u a b => exact fun hp => .inl hp.1
    | trap t => exact fun hp => .inr ⟨_, hp.1⟩
end Go.Proofs.YtgpdggjpbmgegaaDoor
