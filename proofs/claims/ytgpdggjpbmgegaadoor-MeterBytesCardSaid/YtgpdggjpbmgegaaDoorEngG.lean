import Derived.Test.YtgpdggjpbmgegaaDoorEngF
namespace Go.Proofs.YtgpdggjpbmgegaaDoor
open Go.RowKit
set_option linter.unusedVariables false
set_option linter.unusedSimpArgs false


theorem FramesAt.split {w : World} {g : ModImg} {hc : HFr} {c : PFr} : ∀ {hr : List HFr} {r : List PFr}, FramesAt w g (hr ++ [hc]) (r ++ [c]) → hr.length = r.length → FramesAt w g hr r ∧ FrAt w g.fsb g.fso hc c
  | [], [], h, _ => ⟨trivial, h.1⟩
  | _ :: _, _ :: _, h, hl => let k := FramesAt.split h.2 (by simpa using hl); ⟨⟨h.1, k.1⟩, k.2⟩
  | [], _ :: _, _, hl => by simp at hl
  | _ :: _, [], _, hl => by simp at hl
theorem FramesAt.join {w : World} {g : ModImg} {hc : HFr} {c : PFr} : ∀ {hr : List HFr} {r : List PFr}, FramesAt w g hr r → FrAt w g.fsb g.fso hc c → FramesAt w g (hr ++ [hc]) (r ++ [c])
  | [], [], _, k => ⟨k, trivial⟩
  | _ :: _, _ :: _, h, k => ⟨h.1, FramesAt.join h.2 k⟩
  | [], _ :: _, h, _ => h.elim
  | _ :: _, [], h, _ => h.elim
theorem EngAt.apart {B : Nat} {w : World} {g : ModImg} {m : PMod} {i : Img} {ex : List Value} {lim steps : Int} {s : PSt} (h : EngAt B w g m i ex lim steps s) : i.ht.fb ≠ i.ht.rb ∧ i.ht.rb ≠ i.ht.wb ∧ i.ht.fb ≠ i.ht.wb := by
  have hnd := h.nodup
  unfold Img.blocks at hnd
  simp only [List.flatMap_append, List.flatMap_cons, List.flatMap_nil, List.append_nil] at hnd
  have h2 := (List.nodup_append.1 (List.nodup_cons.1 (List.nodup_cons.1 (List.nodup_cons.1 hnd).2).2).2).2.1
  simp [HFr.blocks] at h2
  exact ⟨h2.1.1, h2.2, h2.1.2⟩
/-- the innermost frame has gone -/
theorem EngAt.pop {B : Nat} {w w' : World} {g : ModImg} {m : PMod} {i : Img} {ex : List Value} {lim steps : Int} {s : PSt} (h : EngAt B w g m i ex lim steps s) {hr : List HFr} {hc : HFr} {r : List PFr} {c : PFr} (hi : i.hr = hr ++ [hc]) (hs : s.rest = r ++ [c])
    (k : Chg (· = i.eb) w w') {use : Int} (he : Own w' i.eb (engC 0 0 steps s.mf s.mw lim (ptrV g.mb) (.slice (some ⟨i.sb, 0, none⟩) (r.length + 1) i.cap) use false (.slice (some ⟨i.db, 0, none⟩) 20 20) ++ ex)) :
    EngAt B w' g m { i with hr := hr, ht := hc } ex lim steps { rest := r, top := c, use := use, mf := s.mf, mw := s.mw } := by
  have hnd := h.nodup
  have hsub : ∀ x, x ∈ (Img.blocks { i with hr := hr, ht := hc }) → x ∈ i.blocks := by
    intro x hx
    unfold Img.blocks at hx ⊢
    rw [hi]
    simp only [List.flatMap_append, List.mem_cons, List.mem_append] at hx ⊢
    rcases hx with hx | hx | hx | hx | hx
    · exact .inl hx
    · exact .inr (.inl hx)
    · exact .inr (.inr (.inl hx))
    · exact .inr (.inr (.inr (.inl (.inl hx))))
    · exact .inr (.inr (.inr (.inl (.inr hx))))
  have hnd2 : (Img.blocks { i with hr := hr, ht := hc }).Nodup := by
    unfold Img.blocks at hnd ⊢
    rw [hi] at hnd
    rw [List.flatMap_append] at hnd
    exact hnd.sublist (((List.sublist_append_left _ _).cons_cons _).cons_cons _ |>.cons_cons _)
  have hebn : ∀ x ∈ (Img.blocks { i with hr := hr, ht := hc }), x ≠ i.eb ∨ x = i.eb := fun x _ => (Classical.em (x = i.eb)).symm
  have heb2 : i.eb ∉ i.db :: i.sb :: ((hr ++ [hc]).flatMap HFr.blocks) := (List.nodup_cons.1 hnd2).1
  have hfr : FramesAt w g (hr ++ [hc]) (r ++ [c]) := by rw [← hi, ← hs]; exact h.frames
  have hlen := hfr.len
  simp only [List.length_append, List.length_cons, List.length_nil] at hlen
  have hfr2 := hfr.chg k (fun x hx y hy e => heb2 (by subst e; simp only [List.mem_cons]; exact .inr (.inr (List.mem_flatMap.2 ⟨x, hx, hy⟩))))
  have hsplit := FramesAt.split hfr2 (by omega)
  refine ⟨Nat.le_trans h.low k.size, h.mod.chg k h.low (fun x hx e => ?_) (fun e => ?_), he, k.own h.does (fun e => heb2 (List.mem_cons.2 (.inl (Eq.symm e)))), ?_, hsplit.1, hsplit.2, hnd2, fun x hx => ?_, h.kept.chg k (fun x e => by rw [e]; simp [Img.blocks]) (fun x hx => .inl (hsub x hx))⟩
  · have := (h.own i.eb (by simp [Img.blocks])).1; omega
  · exact (h.own i.eb (by simp [Img.blocks])).2.2 e.symm
  · have hrow := ownsRow_chg k h.row (fun e => heb2 (List.mem_cons.2 (.inr (List.mem_cons.2 (.inl (Eq.symm e))))))
    rw [hs, hi] at hrow
    simp only [List.length_append, List.length_cons, List.length_nil, List.map_append, List.map_cons, List.map_nil] at hrow ⊢
    exact ownsRow_pop (by simp; omega) hrow
  · have := h.own x (hsub x hx); exact ⟨this.1, Nat.lt_of_lt_of_le this.2.1 k.size, this.2.2⟩

set_option maxRecDepth 100000 in
set_option maxHeartbeats 2000000 in
theorem ret_last {B : Nat} {g : ModImg} {m : PMod} {i : Img} {ex : List Value} {lim steps : Int} {s : PSt} (w : World) (h : EngAt B w g m i ex lim steps s) (hfn : s.top.fn < m.funcs.length) (hr0 : s.rest = [])
    (op n va : Int) (a b c : Nat) (ha : s.top.regs[a]? = some va) (hm : s.top.regs.length ≤ 64) (hu : -1099511627776 ≤ s.use ∧ s.use ≤ 1099511627776) (hs1 : 0 ≤ (fnAt m s.top.fn).regs ∧ (fnAt m s.top.fn).regs ≤ 64) (hs2 : 0 ≤ (fnAt m s.top.fn).words ∧ (fnAt m s.top.fn).words ≤ 4096) :
    Calls Tryd.prog 61 #[ptrV i.eb, ptrV i.ht.fb, InsVal ⟨op, a, b, c, n⟩] w fun e w' => e = .returned (.tuple #[]) ∧ Chg (· = i.eb) w w' ∧
      Own w' i.eb (engC 0 va steps s.mf s.mw lim (ptrV g.mb) (.slice (some ⟨i.sb, 0, none⟩) 0 i.cap) (s.use - sizeOfFn m s.top.fn) true (.slice (some ⟨i.db, 0, none⟩) 20 20) ++ ex) := by
  have hE := h.eng
  rw [hr0] at hE
  have f7 := hE.2.1 7 _ rfl
  have f8 := hE.2.1 8 _ rfl
  have f1 := hE.2.1 1 _ rfl
  have f9 := hE.2.1 9 _ rfl
  have ff := hE.2.2
  have t5 := own5 h.top.1
  have r0 := h.top.2.1.num ha
  have la := some_lt ha
  have hrl := h.top.2.1.1
  obtain ⟨_, _, _, _, _, hF⟩ := h.mod
  obtain ⟨⟨c0, c1, c2, c3, c4⟩, _⟩ := hF _ hfn
  have hlow := h.low
  have hF1 := h.mod.1
  have hsb := (h.own i.sb (by simp [Img.blocks])).2.1
  have heb := h.eng.1
  have htb := h.top.1.1
  have hnd := h.nodup
  have hne : ¬ i.eb = i.ht.fb := by
    intro e; unfold Img.blocks at hnd; rw [e] at hnd; simp [HFr.blocks] at hnd
  have hcap : 1 ≤ i.cap ∧ i.cap ≤ maxLen := by
    have hrow := h.row
    rw [hr0] at hrow
    rcases hrow.2 with ⟨e0, _⟩ | ⟨g', cap', cur, hv, _, _, hnc, hcm, _⟩
    · cases e0
    · cases hv; exact ⟨by simpa using hnc, hcm⟩
  unfold ptrV sizeOfFn at *
  unfold maxLen at hcap
  have hgeb : ¬ g.fsb = i.eb := by have := (h.own i.eb (by simp [Img.blocks])).1; omega
  generalize (fnAt m s.top.fn).regs = R at *
  generalize (fnAt m s.top.fn).words = W at *
  generalize s.top.regs = regs at *
  generalize s.use = use at *
  have hw1 : IntKind.i64.wrap (R + W) = R + W := IntWalk.i64_in _ (by omega)
  have hw2 : IntKind.i64.wrap (use - (R + W)) = use - (R + W) := IntWalk.i64_in _ (by omega)
  have hz5 : g.fsb < w.heap.size ∧ i.ht.fb < w.heap.size ∧ i.sb < w.heap.size ∧ i.eb < w.heap.size := by omega
  clear hF
  unfold InsVal
  dsimp only
  have HE := Lib.hid hE; clear hE
  have H0 := Lib.hid h; clear h
  have Hr := Lib.hid hr0; clear hr0 hnd
  go_enter Tryd.func61, Tryd.ntmps61
  go_wp2
  refine wp_still 8 (by kernel_rfl) (by kernel_rfl) ?_; simp only [List.take_succ_cons, List.take_zero, List.drop_succ_cons, List.drop_zero]; repeat (refine WS_step (fun K hK => ?_); go_simp; refine hK _ ?_; clear hK K)
  refine WS_nil ?_; go_wp2
  refine wp_still 22 (by kernel_rfl) (by kernel_rfl) ?_; simp only [List.take_succ_cons, List.take_zero, List.drop_succ_cons, List.drop_zero]; repeat (refine WS_step (fun K hK => ?_); go_simp; refine hK _ ?_; clear hK K)
  refine WS_nil ?_; go_wp2
  generalize hW1 : World.drew _ = W1
  have k1 : Chg (· = i.eb) w W1 := by rw [← hW1]; exact (by repeat (first | with_reducible exact Chg.refl _ _ | with_reducible assumption | with_reducible refine Chg.drew ?_ | with_reducible refine Chg.drewN ?_ _ | with_reducible refine Chg.alloc ?_ _ | with_reducible refine Chg.setCell ?_ (by first | with_reducible exact .inl rfl | exact .inl (.inl rfl) | exact .inl (.inr rfl) | exact .inr (by simp)) _ | (with_reducible refine Chg.trans ?_ (Chg.of (by first | with_reducible assumption | exact hF _)))))
  have HE1 : Own W1 i.eb (engC 0 0 steps s.mf s.mw lim (.pointer (some ⟨g.mb, 0, none⟩)) (.slice (some ⟨i.sb, 0, none⟩) 1 i.cap) (use - (R + W)) false (.slice (some ⟨i.db, 0, none⟩) 20 20) ++ ex) := by
    rw [← hW1]; exact ((HE.out.set 8 _ (by simp [engC])).alloc _).drew.drew
  clear hW1 f7 f8 f1 f9 ff HE
  have f7 := HE1.2.1 7 _ rfl
  have f1 := HE1.2.1 1 _ rfl
  have f9 := HE1.2.1 9 _ rfl
  have ff := HE1.2.2
  have heb1 := HE1.1
  have HEh := Lib.hid HE1; clear HE1
  have hw3 : IntKind.i64.wrap 0 = 0 := IntWalk.i64_in _ (by omega)
  go_wp2
  refine wp_still 14 (by kernel_rfl) (by kernel_rfl) ?_; simp only [List.take_succ_cons, List.take_zero, List.drop_succ_cons, List.drop_zero]; repeat (refine WS_step (fun K hK => ?_); go_simp; refine hK _ ?_; clear hK K)
  refine WS_nil ?_; go_wp2
  refine bodyPost_ret (results_none rfl _ _ _) rfl ?_
  go_light
  refine ⟨rfl, k1.trans (by repeat (first | with_reducible exact Chg.refl _ _ | with_reducible assumption | with_reducible refine Chg.drew ?_ | with_reducible refine Chg.drewN ?_ _ | with_reducible refine Chg.alloc ?_ _ | with_reducible refine Chg.setCell ?_ (by first | with_reducible exact .inl rfl | exact .inl (.inl rfl) | exact .inl (.inr rfl) | exact .inr (by simp)) _ | (with_reducible refine Chg.trans ?_ (Chg.of (by first | with_reducible assumption | exact hF _))))), ?_⟩
  exact (((HEh.out.set 7 _ (by simp [engC])).set 1 _ (by simp [engC])).set 9 _ (by simp [engC])).drew

set_option maxRecDepth 100000 in
set_option maxHeartbeats 2000000 in
theorem ret_more {B : Nat} {g : ModImg} {m : PMod} {i : Img} {ex : List Value} {lim steps : Int} {s : PSt} (w : World) (h : EngAt B w g m i ex lim steps s) (hfn : s.top.fn < m.funcs.length) {hrr : List HFr} {hc : HFr} {r : List PFr} {cf : PFr} (hi : i.hr = hrr ++ [hc]) (hs : s.rest = r ++ [cf])
    (op n va : Int) (a b c k : Nat) (ha : s.top.regs[a]? = some va) (hinto : s.top.into = k) (hk : k < cf.regs.length) (hm : s.top.regs.length ≤ 64) (hm2 : cf.regs.length ≤ 64) (hrl : r.length ≤ 1099511627776) (hu : -1099511627776 ≤ s.use ∧ s.use ≤ 1099511627776) (hs1 : 0 ≤ (fnAt m s.top.fn).regs ∧ (fnAt m s.top.fn).regs ≤ 64) (hs2 : 0 ≤ (fnAt m s.top.fn).words ∧ (fnAt m s.top.fn).words ≤ 4096) :
    Calls Tryd.prog 61 #[ptrV i.eb, ptrV i.ht.fb, InsVal ⟨op, a, b, c, n⟩] w fun e w' => e = .returned (.tuple #[]) ∧ Chg (fun x => x = i.eb ∨ x = hc.rb) w w' ∧
      EngAt B w' g m { i with hr := hrr, ht := hc } ex lim steps { rest := r, top := { cf with regs := cf.regs.set k va }, use := s.use - sizeOfFn m s.top.fn, mf := s.mf, mw := s.mw } := by
  have hE := h.eng
  rw [hs] at hE
  simp only [List.length_append, List.length_cons, List.length_nil] at hE
  have f7 := hE.2.1 7 _ rfl
  have f8 := hE.2.1 8 _ rfl
  have ff := hE.2.2
  have t5 := own5 h.top.1
  rw [hinto] at t5
  have r0 := h.top.2.1.num ha
  have la := some_lt ha
  have hrl2 := h.top.2.1.1
  obtain ⟨_, _, _, _, _, hF⟩ := h.mod
  obtain ⟨⟨c0, c1, c2, c3, c4⟩, _⟩ := hF _ hfn
  have hlow := h.low
  have hF1 := h.mod.1
  have hsb := (h.own i.sb (by simp [Img.blocks])).2.1
  have heb := h.eng.1
  have htb := h.top.1.1
  have hnd := h.nodup
  have hne : ¬ i.eb = i.ht.fb := by
    intro e; unfold Img.blocks at hnd; rw [e] at hnd; simp [HFr.blocks] at hnd
  have hcap : r.length + 2 ≤ i.cap ∧ i.cap ≤ maxLen := by
    have hrow := h.row
    rw [hs] at hrow
    rcases hrow.2 with ⟨e0, _⟩ | ⟨g', cap', cur, hv, _, _, hnc, hcm, _⟩
    · cases e0
    · cases hv; exact ⟨by simpa using hnc, hcm⟩
  unfold ptrV sizeOfFn at *
  unfold maxLen at hcap
  have hgeb : ¬ g.fsb = i.eb := by have := (h.own i.eb (by simp [Img.blocks])).1; omega
  generalize (fnAt m s.top.fn).regs = R at *
  generalize (fnAt m s.top.fn).words = W at *
  have hw1 : IntKind.i64.wrap (R + W) = R + W := IntWalk.i64_in _ (by omega)
  have hw2 : IntKind.i64.wrap (s.use - (R + W)) = s.use - (R + W) := IntWalk.i64_in _ (by omega)
  have hz5 : g.fsb < w.heap.size ∧ i.ht.fb < w.heap.size ∧ i.sb < w.heap.size ∧ i.eb < w.heap.size := by omega
  clear hF
  unfold InsVal
  dsimp only
  have HE := Lib.hid hE; clear hE
  have H0 := Lib.hid h; clear h
  have Hs := Lib.hid hs; clear hs hnd
  have Hi := Lib.hid hi; clear hi
  have Hinto := Lib.hid hinto; clear hinto
  go_enter Tryd.func61, Tryd.ntmps61
  go_wp2
  refine wp_still 8 (by kernel_rfl) (by kernel_rfl) ?_; simp only [List.take_succ_cons, List.take_zero, List.drop_succ_cons, List.drop_zero]; repeat (refine WS_step (fun K hK => ?_); go_simp; refine hK _ ?_; clear hK K)
  refine WS_nil ?_; go_wp2
  refine wp_still 22 (by kernel_rfl) (by kernel_rfl) ?_; simp only [List.take_succ_cons, List.take_zero, List.drop_succ_cons, List.drop_zero]; repeat (refine WS_step (fun K hK => ?_); go_simp; refine hK _ ?_; clear hK K)
  refine WS_nil ?_; go_wp2
  generalize hW1 : World.drew _ = W1
  have k1 : Chg (· = i.eb) w W1 := by rw [← hW1]; exact (by repeat (first | with_reducible exact Chg.refl _ _ | with_reducible assumption | with_reducible refine Chg.drew ?_ | with_reducible refine Chg.drewN ?_ _ | with_reducible refine Chg.alloc ?_ _ | with_reducible refine Chg.setCell ?_ (by first | with_reducible exact .inl rfl | exact .inl (.inl rfl) | exact .inl (.inr rfl) | exact .inr (by simp)) _ | (with_reducible refine Chg.trans ?_ (Chg.of (by first | with_reducible assumption | exact hF _)))))
  have HE1 : Own W1 i.eb (engC 0 0 steps s.mf s.mw lim (.pointer (some ⟨g.mb, 0, none⟩)) (.slice (some ⟨i.sb, 0, none⟩) (r.length + 1 + 1) i.cap) (s.use - (R + W)) false (.slice (some ⟨i.db, 0, none⟩) 20 20) ++ ex) := by
    rw [← hW1]; exact ((HE.out.set 8 _ (by simp [engC])).alloc _).drew.drew
  clear hW1 f7 f8 ff HE
  have f7 := HE1.2.1 7 _ rfl
  have ff := HE1.2.2
  have heb1 := HE1.1
  have HEh := Lib.hid HE1; clear HE1
  have hw3 : IntKind.i64.wrap ((r.length : Int) + 1 + 1 - 1) = (r.length : Int) + 1 := by rw [IntWalk.i64_in _ (by omega)]; omega
  have hb1 : 0 ≤ (r.length : Int) + 1 := by omega
  have hb2 : (r.length : Int) + 1 ≤ (i.cap : Int) := by omega
  have hb3 : ((r.length : Int) + 1).toNat = r.length + 1 := by omega
  have hw4 : IntKind.i64.wrap ((r.length : Int) + 1) = (r.length : Int) + 1 := IntWalk.i64_in _ (by omega)
  go_wp2
  refine wp_still 14 (by kernel_rfl) (by kernel_rfl) ?_; simp only [List.take_succ_cons, List.take_zero, List.drop_succ_cons, List.drop_zero]; repeat (refine WS_step (fun K hK => ?_); go_simp; refine hK _ ?_; clear hK K)
  refine WS_nil ?_; go_wp2
  generalize hW2 : World.drew _ = W2
  have k2 : Chg (· = i.eb) w W2 := k1.trans (by rw [← hW2]; exact (by repeat (first | with_reducible exact Chg.refl _ _ | with_reducible assumption | with_reducible refine Chg.drew ?_ | with_reducible refine Chg.drewN ?_ _ | with_reducible refine Chg.alloc ?_ _ | with_reducible refine Chg.setCell ?_ (by first | with_reducible exact .inl rfl | exact .inl (.inl rfl) | exact .inl (.inr rfl) | exact .inr (by simp)) _ | (with_reducible refine Chg.trans ?_ (Chg.of (by first | with_reducible assumption | exact hF _))))))
  have HE2 : Own W2 i.eb (engC 0 0 steps s.mf s.mw lim (.pointer (some ⟨g.mb, 0, none⟩)) (.slice (some ⟨i.sb, 0, none⟩) (r.length + 1) i.cap) (s.use - (R + W)) false (.slice (some ⟨i.db, 0, none⟩) 20 20) ++ ex) := by
    rw [← hW2]; exact (HEh.out.set 7 _ (by simp [engC])).drew
  have hP := EngAt.pop H0.out Hi.out Hs.out k2 HE2
  clear hW2 f7 ff k1
  have hneh : ∀ x ∈ i.ht.blocks, ¬ x = i.eb := by
    intro x hx e
    have hnd := H0.out.nodup
    unfold Img.blocks at hnd
    have := (List.nodup_cons.1 hnd).1
    rw [← e] at this
    exact this (by simp only [List.mem_cons, List.mem_flatMap]; exact .inr (.inr ⟨i.ht, by simp, hx⟩))
  have ht2 := own5 (H0.out.top.chg k2 hneh).1
  rw [Hinto.out] at ht2
  have f7 := HE2.2.1 7 _ rfl
  have hp := hP.topPtr
  have hc5 := own5 hP.top.1
  have hv := List.getElem?_eq_getElem hk
  have rr0 := hP.top.2.1.num hv
  have rr1 := hP.top.2.1.2.2 k
  have hrbl := hP.top.2.1.1
  have hcl := hP.top.1.1
  have hsl := (hP.own i.sb (by simp [Img.blocks])).2.1
  have hebl := HE2.1
  unfold ptrV at hp
  dsimp only at hp hc5 rr0 rr1 hrbl hcl
  have HP := Lib.hid hP; clear hP
  have HE3 := Lib.hid HE2; clear HE2
  have hhw : i.ht.fb < W2.heap.size := ht2.1
  have hw5 : IntKind.i64.wrap (r.length : Int) = (r.length : Int) := IntWalk.i64_in _ (by omega)
  have hb4 : (r.length : Int) < (r.length : Int) + 1 := by omega
  go_wp2
  refine wp_still 21 (by kernel_rfl) (by kernel_rfl) ?_; simp only [List.take_succ_cons, List.take_zero, List.drop_succ_cons, List.drop_zero]; repeat (refine WS_step (fun K hK => ?_); go_simp; refine hK _ ?_; clear hK K)
  refine WS_nil ?_; go_wp2
  go_end0
  go_light
  have c3 : Chg (· = hc.rb) W2 (W2.setCell ⟨hc.rb, k, none⟩ (.int .i64 va)).drew := (by repeat (first | with_reducible exact Chg.refl _ _ | with_reducible assumption | with_reducible refine Chg.drew ?_ | with_reducible refine Chg.drewN ?_ _ | with_reducible refine Chg.alloc ?_ _ | with_reducible refine Chg.setCell ?_ (by first | with_reducible exact .inl rfl | exact .inl (.inl rfl) | exact .inl (.inr rfl) | exact .inr (by simp)) _ | (with_reducible refine Chg.trans ?_ (Chg.of (by first | with_reducible assumption | exact hF _)))))
  have hap := HP.out.apart
  refine ⟨rfl, (k2.mono (fun _ _ e => .inl e)).trans (c3.mono (fun _ _ e => .inr e)), HP.out.top_chg c3 (fun x hx => by rw [hx]; simp [HFr.blocks]) ⟨?_, ?_, ?_⟩⟩
  · have := c3.own HP.out.top.1 hap.1
    simpa [frL] using this
  · exact (HP.out.top.2.1.setNum k va hk).drew
  · exact c3.own HP.out.top.2.2 (fun e => hap.2.1 e.symm)
end Go.Proofs.YtgpdggjpbmgegaaDoor
