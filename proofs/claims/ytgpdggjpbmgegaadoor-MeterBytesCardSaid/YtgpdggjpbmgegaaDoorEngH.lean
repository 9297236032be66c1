/- The operation 'call': the two traps, and the frame that is entered. -/
import Derived.Test.YtgpdggjpbmgegaaDoorT
import Derived.Test.YtgpdggjpbmgegaaDoorWf
namespace Go.Proofs.YtgpdggjpbmgegaaDoor
open Go.RowKit
set_option linter.unusedVariables false
set_option linter.unusedSimpArgs false


theorem Own.cell {w : World} {k : Nat} {l : List Int} (h : Own w k (Nums l)) {i : Nat} (hi : i < l.length) : w.cell? ⟨k, i, none⟩ = some (.int .i64 (l.getD i 0)) := by
  have := h.num (i := i) (v := l.getD i 0) (by simp [List.getD_eq_getElem?_getD, List.getElem?_eq_getElem hi])
  exact this
theorem NumsAt.part {w : World} {rb : Nat} {l : List Int} (h : Own w rb (Nums l)) (h64 : ∀ v ∈ l, In64 v) (b n : Nat) (hbn : b + n ≤ l.length) (hm : l.length ≤ 64) :
    NumsAt w.heap.size w (some ⟨rb, b, none⟩) n ((l.drop b).take n) := by
  refine ⟨by simp; omega, by unfold maxLen; omega, rb, b, fun _ => ⟨rfl, h.1⟩, fun i hi => ?_⟩
  have e : ((l.drop b).take n).getD i 0 = l.getD (b + i) 0 := by
    simp [List.getD_eq_getElem?_getD, List.getElem?_take_of_lt hi, List.getElem?_drop]
  rw [e]
  exact ⟨h.cell (by omega), getD64 h64 _⟩

theorem NumsAt.up {B B' : Nat} {w w' : World} {a : Option Addr} {n : Nat} {zs : List Int} (h : NumsAt B w a n zs) (s : Same B w w') (hB : B ≤ B') : NumsAt B' w' a n zs := by
  obtain ⟨h1, h2, b, o, h3, h4⟩ := h
  exact ⟨h1, h2, b, o, fun h0 => ⟨(h3 h0).1, Nat.lt_of_lt_of_le (h3 h0).2 hB⟩, fun i hi => ⟨by rw [s _ _ (h3 (by omega)).2]; exact (h4 i hi).1, (h4 i hi).2⟩⟩

theorem nodup_enter {L : List Nat} {eb db sb sb' fb rb wb N : Nat} (h : (eb :: db :: sb :: L).Nodup) (hl : ∀ x ∈ eb :: db :: sb :: L, x < N) (hs : sb' = sb ∨ N ≤ sb') (n1 : N ≤ fb) (n2 : N ≤ rb) (n3 : N ≤ wb) (n4 : fb ≠ rb) (n5 : fb ≠ wb) (n6 : rb ≠ wb) (n7 : sb' ≠ fb) (n8 : sb' ≠ rb) (n9 : sb' ≠ wb) :
    (eb :: db :: sb' :: (L ++ [fb, rb, wb])).Nodup := by
  have h1 := hl eb (by simp)
  have h2 := hl db (by simp)
  have h3 := hl sb (by simp)
  have h4 : ∀ x ∈ L, x < N := fun x hx => hl x (by simp [hx])
  simp only [List.nodup_cons, List.mem_cons, not_or] at h
  obtain ⟨⟨a1, a2, a3⟩, ⟨a4, a5⟩, a6, a7⟩ := h
  have nf : fb ∉ L := fun hx => by have := h4 _ hx; omega
  have nr : rb ∉ L := fun hx => by have := h4 _ hx; omega
  have nw : wb ∉ L := fun hx => by have := h4 _ hx; omega
  have ns : sb' ∉ L := fun hx => by
    rcases hs with e | e
    · subst e; exact a6 hx
    · have := h4 _ hx; omega
  simp only [List.nodup_cons, List.mem_cons, List.mem_append, List.nodup_append, not_or, List.not_mem_nil, not_false_eq_true, List.nodup_nil, and_true, or_false]
  refine ⟨⟨a1, ?_, a3, ?_, ?_, ?_⟩, ⟨?_, a5, ?_, ?_, ?_⟩, ⟨ns, n7, n8, n9⟩, a7, ⟨⟨n4, n5⟩, n6⟩, ?_⟩
  all_goals first
    | omega
    | (intro x hx y hy e
       subst e
       rcases hy with rfl | rfl | rfl
       · exact nf hx
       · exact nr hx
       · exact nw hx)

set_option maxHeartbeats 1000000 in
/-- the engine's enter, of a run that is under way -/
theorem enter_eng {B : Nat} {g : ModImg} {m : PMod} {i : Img} {ex : List Value} {lim steps : Int} {s : PSt} (w : World) (h : EngAt B w g m i ex lim steps s) (n : Nat) (hn : n < m.funcs.length) (hfn : FnFine m (fnAt m n)) (into : Int) (aa : Option Addr) (al ac : Nat) (xs : List Int)
    (ha : NumsAt w.heap.size w aa al xs) (hal : (xs.length : Int) ≤ (fnAt m n).regs) (hdep : s.rest.length ≤ 1000000) (hu : -1000000000000 ≤ s.use ∧ s.use ≤ 1000000000000) :
    Calls Tryd.prog 38 #[ptrV i.eb, .pointer (some ⟨g.fsb, g.fso + n * 5, none⟩), .int .i64 into, .slice aa al ac] w fun e w' =>
      e = .returned (.tuple #[]) ∧ Below B w w' ∧ ∃ i', i'.eb = i.eb ∧ EngAt B w' g m i' ex lim steps (enterP m (s.rest ++ [s.top]) s.use s.mf s.mw n into xs) := by
  have hlow := h.low
  have hown := h.own
  have oeb := hown i.eb (by simp [Img.blocks])
  have osb := hown i.sb (by simp [Img.blocks])
  have odb := hown i.db (by simp [Img.blocks])
  have hnd := h.nodup
  obtain ⟨gB, gm, m0, m1, ml, hF⟩ := h.mod
  obtain ⟨hFC, hFO⟩ := hF n hn
  have hr1 := hfn.r1; have hr2 := hfn.r2; have hw0 := hfn.w0; have hw1 := hfn.w1
  have hxl : xs.length = al := ha.1
  obtain ⟨R, hR⟩ := Int.eq_ofNat_of_zero_le (show 0 ≤ (fnAt m n).regs by omega)
  obtain ⟨W, hW⟩ := Int.eq_ofNat_of_zero_le hw0
  have nes : i.sb ≠ i.eb := by intro e; unfold Img.blocks at hnd; rw [e] at hnd; simp at hnd
  have ned : i.db ≠ i.eb := by intro e; unfold Img.blocks at hnd; rw [e] at hnd; simp at hnd
  have nsd : i.sb ≠ i.db := by intro e; unfold Img.blocks at hnd; rw [e] at hnd; simp at hnd
  refine (enter_any (B := B) g.fsb (g.fso + n * 5) (g.H n) (fnAt m n) i.eb w hFC (by omega) aa al ac xs ha into R W hR hW (by omega) (by omega) (by omega) 0 0 steps s.mf s.mw lim s.use (ptrV g.mb) _ _ false ex (s.rest.length + 1) _ h.eng h.row
    (by simp [Value.ownBlock]; omega) (by omega) (by omega) (by simp [Value.ownBlock]; omega) (by omega)).mono ?_
  rintro e w' ⟨fb, rb, wb, sb, cap, rfl, hC, hE', hrow', hsb, n1, n2, n3, n4, n5, n6, n7, n8, n9, of, or, ow⟩
  have hS : ∀ k, (k = i.eb ∨ (Value.slice (some ⟨i.sb, 0, none⟩) (s.rest.length + 1) i.cap).ownBlock = some k) → k = i.eb ∨ k = i.sb := by
    intro k hk
    rcases hk with hk | hk
    · exact .inl hk
    · exact .inr (by simpa [Value.ownBlock, eq_comm] using hk)
  have hC2 : Chg (fun k => k = i.eb ∨ k = i.sb) w w' := hC.mono (fun k _ hk => hS k hk)
  have hsb2 : sb = i.sb ∨ w.heap.size ≤ sb := by
    rcases hsb with hk | hk
    · exact .inl (by simpa [Value.ownBlock, eq_comm] using hk)
    · exact .inr hk
  have hlt : ∀ x ∈ i.blocks, x < w.heap.size := fun x hx => (hown x hx).2.1
  have hndL : (i.eb :: i.db :: i.sb :: ((i.hr ++ [i.ht]).flatMap HFr.blocks)).Nodup := hnd
  have hnL : ∀ x ∈ (i.hr ++ [i.ht]).flatMap HFr.blocks, ¬ (x = i.eb ∨ x = i.sb) := by
    intro x hx e
    have h1 := (List.nodup_cons.1 hndL).1
    have h2 := (List.nodup_cons.1 (List.nodup_cons.1 (List.nodup_cons.1 hndL).2).2).1
    rcases e with e | e
    · subst e; exact h1 (by simp only [List.mem_cons]; exact .inr (.inr hx))
    · subst e; exact h2 hx
  have hfr : FramesAt w' g i.hr s.rest := h.frames.chg hC2 (fun f hf x hx => hnL x (List.mem_flatMap.2 ⟨f, by simp [hf], hx⟩))
  have htp : FrAt w' g.fsb g.fso i.ht s.top := h.top.chg hC2 (fun x hx => hnL x (List.mem_flatMap.2 ⟨i.ht, by simp, hx⟩))
  have hsz : sizeOfFn m n = (R : Int) + W := by unfold sizeOfFn; rw [hR, hW]
  have hlen : (s.rest ++ [s.top]).length = s.rest.length + 1 := by simp
  have hzr : zeros (fnAt m n).regs = List.replicate R 0 := by unfold zeros; rw [hR, Int.toNat_natCast]
  have hzw : zeros (fnAt m n).words = List.replicate W 0 := by unfold zeros; rw [hW, Int.toNat_natCast]
  have hfl : (xs ++ (List.replicate R (0 : Int)).drop xs.length).length = R := by simp; omega
  refine ⟨rfl, hC2.below B hlow (fun k hk e => by omega), { i with sb := sb, cap := cap, hr := i.hr ++ [i.ht], ht := ⟨fb, rb, wb⟩ }, rfl, ?_⟩
  refine ⟨Nat.le_trans hlow hC.size, h.mod.chg hC2 hlow (fun k hk e => by omega) (fun e => by omega), ?_, hC2.own h.does (fun e => e.elim ned (fun e => nsd e.symm)), ?_, hfr.join htp, ?_, ?_, ?_, h.kept.chg hC2 (fun k e => by rcases e with e | e <;> rw [e] <;> simp [Img.blocks]) (fun x hx => ?_)⟩
  · simp only [enterP, hlen, hsz]
    exact hE'
  · simp only [enterP, hlen, List.map_append, List.map_cons, List.map_nil] at hrow' ⊢
    exact hrow'
  · refine ⟨?_, ?_, ?_⟩
    · have e : frL g.fsb g.fso ⟨fb, rb, wb⟩ (enterP m (s.rest ++ [s.top]) s.use s.mf s.mw n into xs).top = [.pointer (some ⟨g.fsb, g.fso + n * 5, none⟩), .int .i64 0, .int .i64 into, .slice (some ⟨rb, 0, none⟩) R R, .slice (some ⟨wb, 0, none⟩) W W] := by
        simp only [frL, enterP, frameOf, hzr, hzw, hfl, List.length_replicate]
      rw [e]; exact of
    · simp only [enterP, frameOf, hzr]; exact or
    · simp only [enterP, frameOf, hzw]; exact ow
  · have := nodup_enter hndL (fun x hx => hlt x hx) hsb2 n1 n2 n3 n4 n5 n6 n7 n8 n9
    simpa only [Img.blocks, List.flatMap_append, List.flatMap_cons, List.flatMap_nil, List.append_nil, HFr.blocks] using this
  · intro k hk
    have hk2 : k = i.eb ∨ k = i.db ∨ k = sb ∨ k ∈ (i.hr ++ [i.ht]).flatMap HFr.blocks ∨ k = fb ∨ k = rb ∨ k = wb := by
      unfold Img.blocks at hk
      simp only [List.flatMap_append, List.mem_cons, List.mem_append, List.flatMap_cons, List.flatMap_nil, List.append_nil, HFr.blocks, List.not_mem_nil, or_false] at hk ⊢
      grind
    have hsz' := hC.size
    have l1 := of.1; have l2 := or.1; have l3 := ow.1
    have hsl : sb < w'.heap.size := by
      rcases hrow'.2 with ⟨e0, _⟩ | ⟨g', cap', cur, hv, _, hh, _⟩
      · cases e0
      · cases hv; exact (Array.getElem?_eq_some_iff.1 hh).1
    rcases hk2 with e | e | e | e | e | e | e
    · subst e; exact ⟨oeb.1, by omega, oeb.2.2⟩
    · subst e; exact ⟨odb.1, by omega, odb.2.2⟩
    · rcases hsb2 with e2 | e2
      · rw [e, e2]; exact ⟨osb.1, by omega, osb.2.2⟩
      · exact ⟨by omega, by omega, by omega⟩
    · have := hown k (by unfold Img.blocks; simp only [List.mem_cons]; exact .inr (.inr (.inr e)))
      exact ⟨this.1, by omega, this.2.2⟩
    all_goals exact ⟨by omega, by omega, by omega⟩
  · unfold Img.blocks at hx ⊢
    simp only [List.flatMap_append, List.mem_cons, List.mem_append, List.flatMap_cons, List.flatMap_nil, List.append_nil, HFr.blocks, List.not_mem_nil, or_false] at hx ⊢
    grind

set_option maxRecDepth 100000 in
set_option maxHeartbeats 2000000 in
theorem call_any {B : Nat} {g : ModImg} {m : PMod} {i : Img} {ex : List Value} {lim steps : Int} {s : PSt} (w : World) (h : EngAt B w g m i ex lim steps s)
    (op : Int) (a b c n np : Nat) (hn : n < m.funcs.length) (hnp : (fnAt m n).params.length = np) (hb : b < s.top.regs.length) (hbn : b + np ≤ s.top.regs.length) (hm : s.top.regs.length ≤ 64) (h64 : ∀ v ∈ s.top.regs, In64 v) (hlim : lim = 0 ∨ lim = 64) (hdep : s.rest.length ≤ 1000000)
    (hu : -1000000000000 ≤ s.use ∧ s.use ≤ 1000000000000) (hfn : FnFine m (fnAt m n)) (hfew : m.funcs.length ≤ 32) :
    Calls Tryd.prog 73 #[ptrV i.eb, ptrV i.ht.fb, InsVal ⟨op, a, b, c, n⟩] w fun e w' =>
      if fitsB (fnAt m n).params ((s.top.regs.drop b).take np) = false then e = .panicked (trapV 52) ∧ Below w.heap.size w w' else
      if 0 < lim ∧ lim ≤ (s.rest.length : Int) + 1 then e = .panicked (trapV 91) ∧ Below w.heap.size w w' else
      e = .returned (.tuple #[]) ∧ Below B w w' ∧ ∃ i', i'.eb = i.eb ∧ EngAt B w' g m i' ex lim steps (enterP m (s.rest ++ [s.top]) s.use s.mf s.mw n a ((s.top.regs.drop b).take np)) := by
  have hE := h.eng
  have f5 := hE.2.1 5 _ rfl
  have f6 := hE.2.1 6 _ rfl
  have f7 := hE.2.1 7 _ rfl
  have t5 := own5 h.top.1
  have hparts := NumsAt.part h.top.2.1 h64 b np hbn hm
  have hF0 := h.mod
  obtain ⟨gB, gm, m0, m1, ml, hF⟩ := hF0
  obtain ⟨hFC, hFO⟩ := hF n hn
  have hFC0 := hFC
  obtain ⟨c0, c1, c2, c3, c4⟩ := hFC0
  have hpl : np = (g.H n).pl := by have := hFO.2.1.1; omega
  rw [← hpl] at c1
  have Hpl := Lib.hid hpl; clear hpl
  have hlow := h.low
  have heb := h.eng.1
  have htb := h.top.1.1
  have hrb := h.top.2.1.1
  have hz5 : g.fsb < w.heap.size ∧ i.ht.fb < w.heap.size ∧ i.eb < w.heap.size ∧ i.ht.rb < w.heap.size := by omega
  have h16 : np ≤ 64 := by omega
  have hwn : IntKind.i64.wrap (n : Int) = n := IntWalk.i64_in _ (by omega)
  have hwb : IntKind.i64.wrap (b : Int) = b := IntWalk.i64_in _ (by omega)
  have hwbn : IntKind.i64.wrap ((b : Int) + (np : Int)) = (b : Int) + np := IntWalk.i64_in _ (by omega)
  have hb1 : (n : Int) < (m.funcs.length : Int) := by omega
  have hb2 : 0 ≤ (b : Int) + (np : Int) := by omega
  have hb3 : (b : Int) ≤ (b : Int) + np := by omega
  have hb4 : (b : Int) + np ≤ (s.top.regs.length : Int) := by omega
  have hb5 : ((b : Int) + np).toNat = b + np := by omega
  unfold ptrV at *
  unfold InsVal
  dsimp only
  have HE := Lib.hid hE; clear hE
  have H0 := Lib.hid h; clear h
  have HF := Lib.hid hF; clear hF
  have HP := Lib.hid hparts; clear hparts
  have HC := Lib.hid hFC; clear hFC
  have HO := Lib.hid hFO; clear hFO
  have H64 := Lib.hid h64; clear h64
  have hcall := fun w1 => fits_any B g.fsb (g.fso + n * 5) (g.H n) (fnAt m n) (some ⟨i.ht.rb, b, none⟩) np (s.top.regs.length - b) ((s.top.regs.drop b).take np) w1
  have Hcall := Lib.hid hcall; clear hcall
  by_cases hfit : fitsB (fnAt m n).params ((s.top.regs.drop b).take np) = false
  · simp only [if_pos hfit]
    go_enter Tryd.func73, Tryd.ntmps73
    go_wp2
    refine wp_still 9 (by kernel_rfl) (by kernel_rfl) ?_; simp only [List.take_succ_cons, List.take_zero, List.drop_succ_cons, List.drop_zero]; repeat (refine WS_step (fun K hK => ?_); go_simp; refine hK _ ?_; clear hK K)
    refine WS_nil ?_; go_wp2
    refine wp_still 14 (by kernel_rfl) (by kernel_rfl) ?_; simp only [List.take_succ_cons, List.take_zero, List.drop_succ_cons, List.drop_zero]; repeat (refine WS_step (fun K hK => ?_); go_simp; refine hK _ ?_; clear hK K)
    refine WS_nil ?_
    go_wp2_with (go_at_call 36; refine (Hcall.out _ ?_ ?_ ?_ ?_ ?_).mono ?_)
    · exact (by first | omega | (simp <;> omega) | (simp at * <;> omega))
    · exact (HC.out.same (B := w.heap.size) (by repeat (first | with_reducible exact Same.refl _ _ | with_reducible assumption | with_reducible refine Same.drew ?_ | with_reducible refine Same.drewN ?_ _ | with_reducible refine Same.alloc ?_ (by first | omega | (simp <;> omega) | (simp at * <;> omega)) _ | with_reducible refine Same.setCell ?_ (by first | omega | (simp <;> omega) | (simp at * <;> omega)) _ | (with_reducible refine Same.trans ?_ (Same.of (by assumption) (by first | omega | (simp <;> omega) | (simp at * <;> omega)))))) hz5.1)
    · exact (by first | omega | (simp <;> omega) | (simp at * <;> omega))
    · exact (HO.out.2.1.same (by repeat (first | with_reducible exact Same.refl _ _ | with_reducible assumption | with_reducible refine Same.drew ?_ | with_reducible refine Same.drewN ?_ _ | with_reducible refine Same.alloc ?_ (by first | omega | (simp <;> omega) | (simp at * <;> omega)) _ | with_reducible refine Same.setCell ?_ (by first | omega | (simp <;> omega) | (simp at * <;> omega)) _ | (with_reducible refine Same.trans ?_ (Same.of (by assumption) (by first | omega | (simp <;> omega) | (simp at * <;> omega)))))))
    · exact HP.out.up (by repeat (first | with_reducible exact Same.refl _ _ | with_reducible assumption | with_reducible refine Same.drew ?_ | with_reducible refine Same.drewN ?_ _ | with_reducible refine Same.alloc ?_ (by first | omega | (simp <;> omega) | (simp at * <;> omega)) _ | with_reducible refine Same.setCell ?_ (by first | omega | (simp <;> omega) | (simp at * <;> omega)) _ | (with_reducible refine Same.trans ?_ (Same.of (by assumption) (by first | omega | (simp <;> omega) | (simp at * <;> omega)))))) (by first | omega | (simp <;> omega) | (simp at * <;> omega))
    rintro e w1 ⟨rfl, hb1⟩
    go_wp2
    exact ⟨rfl, rfl, (by repeat (first | with_reducible exact Below.refl _ _ | with_reducible assumption | with_reducible refine Below.drew ?_ | with_reducible refine Below.drewN ?_ _ | with_reducible refine Below.alloc ?_ (by first | omega | (simp <;> omega) | (simp at * <;> omega)) _ | with_reducible refine Below.setCell ?_ (by first | omega | (simp <;> omega) | (simp at * <;> omega)) _ | (with_reducible refine Below.trans ?_ (Below.mono (by first | with_reducible assumption | exact hF _) (by first | omega | (simp <;> omega) | (simp at * <;> omega))))))⟩
  · have hfit1 : fitsB (fnAt m n).params ((s.top.regs.drop b).take np) = true := by simpa using hfit
    by_cases hfull : 0 < lim ∧ lim ≤ (s.rest.length : Int) + 1
    · simp only [if_neg hfit, if_pos hfull]
      rcases hlim with rfl | rfl
      · exact absurd hfull.1 (by decide)
      have d0 : decide ((64 : Int) ≤ (s.rest.length : Int) + 1) = true := by simpa using hfull.2
      clear hfull
      go_enter Tryd.func73, Tryd.ntmps73
      go_wp2
      refine wp_still 9 (by kernel_rfl) (by kernel_rfl) ?_; simp only [List.take_succ_cons, List.take_zero, List.drop_succ_cons, List.drop_zero]; repeat (refine WS_step (fun K hK => ?_); go_simp; refine hK _ ?_; clear hK K)
      refine WS_nil ?_; go_wp2
      refine wp_still 14 (by kernel_rfl) (by kernel_rfl) ?_; simp only [List.take_succ_cons, List.take_zero, List.drop_succ_cons, List.drop_zero]; repeat (refine WS_step (fun K hK => ?_); go_simp; refine hK _ ?_; clear hK K)
      refine WS_nil ?_
      go_wp2_with (go_at_call 36; refine (Hcall.out _ ?_ ?_ ?_ ?_ ?_).mono ?_)
      · exact (by first | omega | (simp <;> omega) | (simp at * <;> omega))
      · exact (HC.out.same (B := w.heap.size) (by repeat (first | with_reducible exact Same.refl _ _ | with_reducible assumption | with_reducible refine Same.drew ?_ | with_reducible refine Same.drewN ?_ _ | with_reducible refine Same.alloc ?_ (by first | omega | (simp <;> omega) | (simp at * <;> omega)) _ | with_reducible refine Same.setCell ?_ (by first | omega | (simp <;> omega) | (simp at * <;> omega)) _ | (with_reducible refine Same.trans ?_ (Same.of (by assumption) (by first | omega | (simp <;> omega) | (simp at * <;> omega)))))) hz5.1)
      · exact (by first | omega | (simp <;> omega) | (simp at * <;> omega))
      · exact (HO.out.2.1.same (by repeat (first | with_reducible exact Same.refl _ _ | with_reducible assumption | with_reducible refine Same.drew ?_ | with_reducible refine Same.drewN ?_ _ | with_reducible refine Same.alloc ?_ (by first | omega | (simp <;> omega) | (simp at * <;> omega)) _ | with_reducible refine Same.setCell ?_ (by first | omega | (simp <;> omega) | (simp at * <;> omega)) _ | (with_reducible refine Same.trans ?_ (Same.of (by assumption) (by first | omega | (simp <;> omega) | (simp at * <;> omega)))))))
      · exact HP.out.up (by repeat (first | with_reducible exact Same.refl _ _ | with_reducible assumption | with_reducible refine Same.drew ?_ | with_reducible refine Same.drewN ?_ _ | with_reducible refine Same.alloc ?_ (by first | omega | (simp <;> omega) | (simp at * <;> omega)) _ | with_reducible refine Same.setCell ?_ (by first | omega | (simp <;> omega) | (simp at * <;> omega)) _ | (with_reducible refine Same.trans ?_ (Same.of (by assumption) (by first | omega | (simp <;> omega) | (simp at * <;> omega)))))) (by first | omega | (simp <;> omega) | (simp at * <;> omega))
      rintro e w1 ⟨rfl, hb1⟩
      have HE1 := ((HE.out.alloc _).drew.drew).below hb1
      have f5 := HE1.2.1 5 _ rfl
      have f7 := HE1.2.1 7 _ rfl
      clear HE1
      go_wp2
      refine wp_still 15 (by kernel_rfl) (by kernel_rfl) ?_; simp only [List.take_succ_cons, List.take_zero, List.drop_succ_cons, List.drop_zero]; repeat (refine WS_step (fun K hK => ?_); go_simp; refine hK _ ?_; clear hK K)
      refine WS_nil ?_; go_wp2
      exact ⟨rfl, rfl, (by repeat (first | with_reducible exact Below.refl _ _ | with_reducible assumption | with_reducible refine Below.drew ?_ | with_reducible refine Below.drewN ?_ _ | with_reducible refine Below.alloc ?_ (by first | omega | (simp <;> omega) | (simp at * <;> omega)) _ | with_reducible refine Below.setCell ?_ (by first | omega | (simp <;> omega) | (simp at * <;> omega)) _ | (with_reducible refine Below.trans ?_ (Below.mono (by first | with_reducible assumption | exact hF _) (by first | omega | (simp <;> omega) | (simp at * <;> omega))))))⟩
    · simp only [if_neg hfit, if_neg hfull]
      rcases hlim with rfl | rfl
      · go_enter Tryd.func73, Tryd.ntmps73
        go_wp2
        refine wp_still 9 (by kernel_rfl) (by kernel_rfl) ?_; simp only [List.take_succ_cons, List.take_zero, List.drop_succ_cons, List.drop_zero]; repeat (refine WS_step (fun K hK => ?_); go_simp; refine hK _ ?_; clear hK K)
        refine WS_nil ?_; go_wp2
        refine wp_still 14 (by kernel_rfl) (by kernel_rfl) ?_; simp only [List.take_succ_cons, List.take_zero, List.drop_succ_cons, List.drop_zero]; repeat (refine WS_step (fun K hK => ?_); go_simp; refine hK _ ?_; clear hK K)
        refine WS_nil ?_
        go_wp2_with (go_at_call 36; refine (Hcall.out _ ?_ ?_ ?_ ?_ ?_).mono ?_)
        · exact (by first | omega | (simp <;> omega) | (simp at * <;> omega))
        · exact (HC.out.same (B := w.heap.size) (by repeat (first | with_reducible exact Same.refl _ _ | with_reducible assumption | with_reducible refine Same.drew ?_ | with_reducible refine Same.drewN ?_ _ | with_reducible refine Same.alloc ?_ (by first | omega | (simp <;> omega) | (simp at * <;> omega)) _ | with_reducible refine Same.setCell ?_ (by first | omega | (simp <;> omega) | (simp at * <;> omega)) _ | (with_reducible refine Same.trans ?_ (Same.of (by assumption) (by first | omega | (simp <;> omega) | (simp at * <;> omega)))))) hz5.1)
        · exact (by first | omega | (simp <;> omega) | (simp at * <;> omega))
        · exact (HO.out.2.1.same (by repeat (first | with_reducible exact Same.refl _ _ | with_reducible assumption | with_reducible refine Same.drew ?_ | with_reducible refine Same.drewN ?_ _ | with_reducible refine Same.alloc ?_ (by first | omega | (simp <;> omega) | (simp at * <;> omega)) _ | with_reducible refine Same.setCell ?_ (by first | omega | (simp <;> omega) | (simp at * <;> omega)) _ | (with_reducible refine Same.trans ?_ (Same.of (by assumption) (by first | omega | (simp <;> omega) | (simp at * <;> omega)))))))
        · exact HP.out.up (by repeat (first | with_reducible exact Same.refl _ _ | with_reducible assumption | with_reducible refine Same.drew ?_ | with_reducible refine Same.drewN ?_ _ | with_reducible refine Same.alloc ?_ (by first | omega | (simp <;> omega) | (simp at * <;> omega)) _ | with_reducible refine Same.setCell ?_ (by first | omega | (simp <;> omega) | (simp at * <;> omega)) _ | (with_reducible refine Same.trans ?_ (Same.of (by assumption) (by first | omega | (simp <;> omega) | (simp at * <;> omega)))))) (by first | omega | (simp <;> omega) | (simp at * <;> omega))
        rintro e w1 ⟨rfl, hb1⟩
        have HE1 := ((HE.out.alloc _).drew.drew).below hb1
        have f5 := HE1.2.1 5 _ rfl
        have f7 := HE1.2.1 7 _ rfl
        clear HE1
        have hxa := (bcell hb1).1 w.heap.size 1 (by simp)
        have hz1 : w.heap.size + 1 ≤ w1.heap.size := by have := hb1.size; simp at this; omega
        go_wp2
        refine wp_still 15 (by kernel_rfl) (by kernel_rfl) ?_; simp only [List.take_succ_cons, List.take_zero, List.drop_succ_cons, List.drop_zero]; repeat (refine WS_step (fun K hK => ?_); go_simp; refine hK _ ?_; clear hK K)
        refine WS_nil ?_
        go_wp2_with (go_at_call 38; refine (enter_eng (B := B) _ (H0.out.below (by repeat (first | with_reducible exact Below.refl _ _ | with_reducible assumption | with_reducible refine Below.drew ?_ | with_reducible refine Below.drewN ?_ _ | with_reducible refine Below.alloc ?_ (by first | omega | (simp <;> omega) | (simp at * <;> omega)) _ | with_reducible refine Below.setCell ?_ (by first | omega | (simp <;> omega) | (simp at * <;> omega)) _ | (with_reducible refine Below.trans ?_ (Below.mono (by first | with_reducible assumption | exact hF _) (by first | omega | (simp <;> omega) | (simp at * <;> omega))))))) n hn hfn _ _ _ _ _ (HP.out.up (by repeat (first | with_reducible exact Same.refl _ _ | with_reducible assumption | with_reducible refine Same.drew ?_ | with_reducible refine Same.drewN ?_ _ | with_reducible refine Same.alloc ?_ (by first | omega | (simp <;> omega) | (simp at * <;> omega)) _ | with_reducible refine Same.setCell ?_ (by first | omega | (simp <;> omega) | (simp at * <;> omega)) _ | (with_reducible refine Same.trans ?_ (Same.of (by assumption) (by first | omega | (simp <;> omega) | (simp at * <;> omega)))))) (by first | omega | (simp <;> omega) | (simp at * <;> omega))) ?_ hdep hu).mono ?_)
        · have := hfn.np
          have := HP.out.1
          omega
        rintro e w2 ⟨rfl, hb2, i', hi', hE'⟩
        go_wp2
        go_end0
        go_light
        exact ⟨rfl, (Below.mono (by repeat (first | with_reducible exact Below.refl _ _ | with_reducible assumption | with_reducible refine Below.drew ?_ | with_reducible refine Below.drewN ?_ _ | with_reducible refine Below.alloc ?_ (by first | omega | (simp <;> omega) | (simp at * <;> omega)) _ | with_reducible refine Below.setCell ?_ (by first | omega | (simp <;> omega) | (simp at * <;> omega)) _ | (with_reducible refine Below.trans ?_ (Below.mono (by first | with_reducible assumption | exact hF _) (by first | omega | (simp <;> omega) | (simp at * <;> omega)))))) hlow).trans hb2, i', hi', hE'⟩
      · have d0 : decide ((64 : Int) ≤ (s.rest.length : Int) + 1) = false := by simp at hfull ⊢; omega
        clear hfull
        go_enter Tryd.func73, Tryd.ntmps73
        go_wp2
        refine wp_still 9 (by kernel_rfl) (by kernel_rfl) ?_; simp only [List.take_succ_cons, List.take_zero, List.drop_succ_cons, List.drop_zero]; repeat (refine WS_step (fun K hK => ?_); go_simp; refine hK _ ?_; clear hK K)
        refine WS_nil ?_; go_wp2
        refine wp_still 14 (by kernel_rfl) (by kernel_rfl) ?_; simp only [List.take_succ_cons, List.take_zero, List.drop_succ_cons, List.drop_zero]; repeat (refine WS_step (fun K hK => ?_); go_simp; refine hK _ ?_; clear hK K)
        refine WS_nil ?_
        go_wp2_with (go_at_call 36; refine (Hcall.out _ ?_ ?_ ?_ ?_ ?_).mono ?_)
        · exact (by first | omega | (simp <;> omega) | (simp at * <;> omega))
        · exact (HC.out.same (B := w.heap.size) (by repeat (first | with_reducible exact Same.refl _ _ | with_reducible assumption | with_reducible refine Same.drew ?_ | with_reducible refine Same.drewN ?_ _ | with_reducible refine Same.alloc ?_ (by first | omega | (simp <;> omega) | (simp at * <;> omega)) _ | with_reducible refine Same.setCell ?_ (by first | omega | (simp <;> omega) | (simp at * <;> omega)) _ | (with_reducible refine Same.trans ?_ (Same.of (by assumption) (by first | omega | (simp <;> omega) | (simp at * <;> omega)))))) hz5.1)
        · exact (by first | omega | (simp <;> omega) | (simp at * <;> omega))
        · exact (HO.out.2.1.same (by repeat (first | with_reducible exact Same.refl _ _ | with_reducible assumption | with_reducible refine Same.drew ?_ | with_reducible refine Same.drewN ?_ _ | with_reducible refine Same.alloc ?_ (by first | omega | (simp <;> omega) | (simp at * <;> omega)) _ | with_reducible refine Same.setCell ?_ (by first | omega | (simp <;> omega) | (simp at * <;> omega)) _ | (with_reducible refine Same.trans ?_ (Same.of (by assumption) (by first | omega | (simp <;> omega) | (simp at * <;> omega)))))))
        · exact HP.out.up (by repeat (first | with_reducible exact Same.refl _ _ | with_reducible assumption | with_reducible refine Same.drew ?_ | with_reducible refine Same.drewN ?_ _ | with_reducible refine Same.alloc ?_ (by first | omega | (simp <;> omega) | (simp at * <;> omega)) _ | with_reducible refine Same.setCell ?_ (by first | omega | (simp <;> omega) | (simp at * <;> omega)) _ | (with_reducible refine Same.trans ?_ (Same.of (by assumption) (by first | omega | (simp <;> omega) | (simp at * <;> omega)))))) (by first | omega | (simp <;> omega) | (simp at * <;> omega))
        rintro e w1 ⟨rfl, hb1⟩
        have HE1 := ((HE.out.alloc _).drew.drew).below hb1
        have f5 := HE1.2.1 5 _ rfl
        have f7 := HE1.2.1 7 _ rfl
        clear HE1
        have hxa := (bcell hb1).1 w.heap.size 1 (by simp)
        have hz1 : w.heap.size + 1 ≤ w1.heap.size := by have := hb1.size; simp at this; omega
        go_wp2
        refine wp_still 15 (by kernel_rfl) (by kernel_rfl) ?_; simp only [List.take_succ_cons, List.take_zero, List.drop_succ_cons, List.drop_zero]; repeat (refine WS_step (fun K hK => ?_); go_simp; refine hK _ ?_; clear hK K)
        refine WS_nil ?_
        go_wp2_with (go_at_call 38; refine (enter_eng (B := B) _ (H0.out.below (by repeat (first | with_reducible exact Below.refl _ _ | with_reducible assumption | with_reducible refine Below.drew ?_ | with_reducible refine Below.drewN ?_ _ | with_reducible refine Below.alloc ?_ (by first | omega | (simp <;> omega) | (simp at * <;> omega)) _ | with_reducible refine Below.setCell ?_ (by first | omega | (simp <;> omega) | (simp at * <;> omega)) _ | (with_reducible refine Below.trans ?_ (Below.mono (by first | with_reducible assumption | exact hF _) (by first | omega | (simp <;> omega) | (simp at * <;> omega))))))) n hn hfn _ _ _ _ _ (HP.out.up (by repeat (first | with_reducible exact Same.refl _ _ | with_reducible assumption | with_reducible refine Same.drew ?_ | with_reducible refine Same.drewN ?_ _ | with_reducible refine Same.alloc ?_ (by first | omega | (simp <;> omega) | (simp at * <;> omega)) _ | with_reducible refine Same.setCell ?_ (by first | omega | (simp <;> omega) | (simp at * <;> omega)) _ | (with_reducible refine Same.trans ?_ (Same.of (by assumption) (by first | omega | (simp <;> omega) | (simp at * <;> omega)))))) (by first | omega | (simp <;> omega) | (simp at * <;> omega))) ?_ hdep hu).mono ?_)
        · have := hfn.np
          have := HP.out.1
          omega
        rintro e w2 ⟨rfl, hb2, i', hi', hE'⟩
        go_wp2
        go_end0
        go_light
        exact ⟨rfl, (Below.mono (by repeat (first | with_reducible exact Below.refl _ _ | with_reducible assumption | with_reducible refine Below.drew ?_ | with_reducible refine Below.drewN ?_ _ | with_reducible refine Below.alloc ?_ (by first | omega | (simp <;> omega) | (simp at * <;> omega)) _ | with_reducible refine Below.setCell ?_ (by first | omega | (simp <;> omega) | (simp at * <;> omega)) _ | (with_reducible refine Below.trans ?_ (Below.mono (by first | with_reducible assumption | exact hF _) (by first | omega | (simp <;> omega) | (simp at * <;> omega)))))) hlow).trans hb2, i', hi', hE'⟩
end Go.Proofs.YtgpdggjpbmgegaaDoor
