/- Begin: the function is found, its arguments looked at, the first frame entered. -/
import Derived.Test.YtgpdggjpbmgegaaDoorEngJ
namespace Go.Proofs.YtgpdggjpbmgegaaDoor
open Go.RowKit
set_option linter.unusedVariables false
set_option linter.unusedSimpArgs false


set_option maxHeartbeats 1000000 in
theorem operations_any (w : World) : Calls Tryd.prog 37 #[] w fun e w' => e = .returned (.slice (some ⟨w.heap.size, 0, none⟩) 20 20) ∧ Below w.heap.size w w' ∧ Own w' w.heap.size doesL := by
  go_enter Tryd.func37, Tryd.ntmps37
  go_wp2
  go_ret
  go_light
  refine ⟨rfl, (by repeat (first | with_reducible exact Below.refl _ _ | with_reducible assumption | with_reducible refine Below.drew ?_ | with_reducible refine Below.drewN ?_ _ | with_reducible refine Below.alloc ?_ (by first | omega | (simp <;> omega) | (simp at * <;> omega)) _ | with_reducible refine Below.setCell ?_ (by first | omega | (simp <;> omega) | (simp at * <;> omega)) _ | (with_reducible refine Below.trans ?_ (Below.mono (by first | with_reducible assumption | exact hF _) (by first | omega | (simp <;> omega) | (simp at * <;> omega)))))), ?_⟩
  exact Own.new w doesL _

theorem ModAt.lies {B : Nat} {w : World} {m : PMod} {ta fa : Option Addr} {tl tc fl fc mb : Nat} (h : ModAt B w (.agg #[.slice ta tl tc, .slice fa fl fc]) m) (hn : 0 < m.funcs.length) (hmb : mb < w.heap.size)
    (c0 : w.cell? ⟨mb, 0, none⟩ = some (.slice ta tl tc)) (c1 : w.cell? ⟨mb, 1, none⟩ = some (.slice fa fl fc)) : ∃ fsb fso H, fa = some ⟨fsb, fso, none⟩ ∧ fl = m.funcs.length ∧ ModLies B w ⟨mb, ta, tl, tc, fc, fsb, fso, H, []⟩ m := by
  obtain ⟨_, _, _, _, _, _, e, _, hf⟩ := h
  simp only [Value.agg.injEq, Array.mk.injEq, List.cons.injEq, Value.slice.injEq, and_true] at e
  obtain ⟨⟨rfl, rfl, rfl⟩, rfl, rfl, rfl⟩ := e
  obtain ⟨hl, hm, b, o, hb, H, hc⟩ := hf
  subst hl
  obtain ⟨rfl, hbB⟩ := hb hn
  exact ⟨b, o, H, rfl, rfl, hbB, hmb, c0, c1, hm, hc⟩

set_option maxHeartbeats 1000000 in
/-- the engine's enter, of a run that begins -/
theorem enter_first {B : Nat} {g : ModImg} {m : PMod} (w : World) (eb db : Nat) (ex : List Value) (lim : Int) (hB : B ≤ w.heap.size) (hmod : ModLies B w g m) (hgk : g.kept = []) (hE : Own w eb (engC 0 0 0 0 0 lim (ptrV g.mb) (.slice none 0 0) 0 false (.slice (some ⟨db, 0, none⟩) 20 20) ++ ex)) (hD : Own w db doesL)
    (heb : B ≤ eb) (hdb : B ≤ db) (hed : eb ≠ db) (hmb : eb ≠ g.mb) (hmd : db ≠ g.mb) (n : Nat) (hn : n < m.funcs.length) (hfn : FnFine m (fnAt m n)) (aa : Option Addr) (al ac : Nat) (xs : List Int)
    (ha : NumsAt w.heap.size w aa al xs) (hal : (xs.length : Int) ≤ (fnAt m n).regs) :
    Calls Tryd.prog 38 #[ptrV eb, .pointer (some ⟨g.fsb, g.fso + n * 5, none⟩), .int .i64 0, .slice aa al ac] w fun e w' =>
      e = .returned (.tuple #[]) ∧ Below B w w' ∧ ∃ i, i.eb = eb ∧ EngAt B w' g m i ex lim 0 (beginP m n xs) := by
  have hmod0 := hmod
  obtain ⟨gB, gm, m0, m1, ml, hF⟩ := hmod
  obtain ⟨hFC, hFO⟩ := hF n hn
  have hr1 := hfn.r1; have hr2 := hfn.r2; have hw0 := hfn.w0; have hw1 := hfn.w1
  have hxl : xs.length = al := ha.1
  obtain ⟨R, hR⟩ := Int.eq_ofNat_of_zero_le (show 0 ≤ (fnAt m n).regs by omega)
  obtain ⟨W, hW⟩ := Int.eq_ofNat_of_zero_le hw0
  refine (enter_any (B := B) g.fsb (g.fso + n * 5) (g.H n) (fnAt m n) eb w hFC (by omega) aa al ac xs ha 0 R W hR hW (by omega) (by omega) (by omega) 0 0 0 0 0 lim 0 (ptrV g.mb) (.slice none 0 0) _ false ex 0 [] hE ?_
    (by simp [Value.ownBlock]) (by omega) (by omega) (by simp [Value.ownBlock]) (by omega)).mono ?_
  · exact ⟨rfl, .inl ⟨rfl, rfl⟩⟩
  rintro e w' ⟨fb, rb, wb, sb, cap, rfl, hC, hE', hrow', hsb, n1, n2, n3, n4, n5, n6, n7, n8, n9, of, or, ow⟩
  have hC2 : Chg (fun k => k = eb) w w' := hC.mono (fun k _ hk => by
    rcases hk with hk | hk
    · exact hk
    · simp [Value.ownBlock] at hk)
  have hsb2 : w.heap.size ≤ sb := by
    rcases hsb with hk | hk
    · simp [Value.ownBlock] at hk
    · exact hk
  have leb := hE.1
  have ldb := hD.1
  have hsz : sizeOfFn m n = (R : Int) + W := by unfold sizeOfFn; rw [hR, hW]
  have hzr : zeros (fnAt m n).regs = List.replicate R 0 := by unfold zeros; rw [hR, Int.toNat_natCast]
  have hzw : zeros (fnAt m n).words = List.replicate W 0 := by unfold zeros; rw [hW, Int.toNat_natCast]
  have hfl : (xs ++ (List.replicate R (0 : Int)).drop xs.length).length = R := by simp; omega
  have hsl : sb < w'.heap.size := by
    rcases hrow'.2 with ⟨e0, _⟩ | ⟨g', cap', cur, hv, _, hh, _⟩
    · cases e0
    · cases hv; exact (Array.getElem?_eq_some_iff.1 hh).1
  have hsz' := hC.size
  have l1 := of.1; have l2 := or.1; have l3 := ow.1
  refine ⟨rfl, hC2.below B hB (fun k hk e => by omega), { eb := eb, db := db, sb := sb, cap := cap, hr := [], ht := ⟨fb, rb, wb⟩ }, rfl, ?_⟩
  refine ⟨Nat.le_trans hB hC.size, hmod0.chg hC2 hB (fun k hk e => by omega) (fun e => hmb e.symm), ?_, hC2.own hD (fun e => hed e.symm), ?_, trivial, ?_, ?_, ?_, fun p hp => by rw [hgk] at hp; simp at hp⟩
  · simp only [beginP, enterP, List.length_nil, hsz]
    exact hE'
  · simp only [beginP, enterP, List.length_nil, List.nil_append, List.map_cons, List.map_nil] at hrow' ⊢
    exact hrow'
  · refine ⟨?_, ?_, ?_⟩
    · have e : frL g.fsb g.fso ⟨fb, rb, wb⟩ (beginP m n xs).top = [.pointer (some ⟨g.fsb, g.fso + n * 5, none⟩), .int .i64 0, .int .i64 0, .slice (some ⟨rb, 0, none⟩) R R, .slice (some ⟨wb, 0, none⟩) W W] := by
        simp only [frL, beginP, enterP, frameOf, hzr, hzw, hfl, List.length_replicate]
      rw [e]; exact of
    · simp only [beginP, enterP, frameOf, hzr]; exact or
    · simp only [beginP, enterP, frameOf, hzw]; exact ow
  · simp only [Img.blocks, List.nil_append, List.flatMap_cons, List.flatMap_nil, List.append_nil, HFr.blocks, List.nodup_cons, List.mem_cons, List.not_mem_nil, or_false, not_or, not_false_eq_true, List.nodup_nil, and_true]
    omega
  · intro k hk
    simp only [Img.blocks, List.nil_append, List.flatMap_cons, List.flatMap_nil, List.append_nil, HFr.blocks, List.mem_cons, List.not_mem_nil, or_false] at hk
    have hgm : g.mb < w.heap.size := gm
    rcases hk with e | e | e | e | e | e
    · subst e; exact ⟨heb, by omega, hmb⟩
    · subst e; exact ⟨hdb, by omega, hmd⟩
    all_goals exact ⟨by omega, by omega, by omega⟩

set_option maxRecDepth 100000 in
set_option maxHeartbeats 2000000 in
theorem begin_any {B : Nat} {m : PMod} (w : World) (hm : Fine m) (eb : Nat) (lim : Int) (ex : List Value) (hE : Own w eb (engC 0 0 0 0 0 lim (.pointer none) (.slice none 0 0) 0 false (.slice none 0 0) ++ ex)) (heb : B ≤ eb) (hB : B ≤ w.heap.size)
    (mb : Nat) (hmb : mb ≠ eb) (hml : mb < w.heap.size) (ta fa : Option Addr) (tl tc fl fc : Nat) (c0 : w.cell? ⟨mb, 0, none⟩ = some (.slice ta tl tc)) (c1 : w.cell? ⟨mb, 1, none⟩ = some (.slice fa fl fc)) (hma : ModAt B w (.agg #[.slice ta tl tc, .slice fa fl fc]) m)
    (name : ByteArray) (aa : Option Addr) (al ac : Nat) (xs : List Int) (ha : NumsAt B w aa al xs) :
    Calls Tryd.prog 19 #[ptrV eb, .pointer (some ⟨mb, 0, none⟩), .string name, .slice aa al ac] w fun e w' =>
      if findZ m.funcs name < 0 then e = .returned (.int .i64 8) ∧ Below B w w' else
      if fitsB (fnAt m (findZ m.funcs name).toNat).params xs = false then e = .returned (.int .i64 2) ∧ Below B w w' else
      e = .returned (.int .i64 0) ∧ Below B w w' ∧ ∃ g i, i.eb = eb ∧ g.kept = [] ∧ EngAt B w' g m i ex lim 0 (beginP m (findZ m.funcs name).toNat xs) := by
  have Hma := Lib.hid hma
  have Ha := Lib.hid ha
  have leb := hE.1
  unfold ptrV
  by_cases hk : findZ m.funcs name < 0
  · simp only [if_pos hk]
    have d0 : decide (findZ m.funcs name < 0) = true := by simpa using hk
    clear hma ha hk
    go_enter Tryd.func19, Tryd.ntmps19
    go_wp2_with (go_at_call 35; refine (find_any B _ m name _ ?_ (Hma.out.same ?_)).mono ?_)
    · exact (by first | omega | (simp <;> omega) | (simp at * <;> omega))
    · exact (by repeat (first | with_reducible exact Same.refl _ _ | with_reducible assumption | with_reducible refine Same.drew ?_ | with_reducible refine Same.drewN ?_ _ | with_reducible refine Same.alloc ?_ (by first | omega | (simp <;> omega) | (simp at * <;> omega)) _ | with_reducible refine Same.setCell ?_ (by first | omega | (simp <;> omega) | (simp at * <;> omega)) _ | (with_reducible refine Same.trans ?_ (Same.of (by assumption) (by first | omega | (simp <;> omega) | (simp at * <;> omega))))))
    rintro e w1 ⟨rfl, hb1⟩
    go_wp2
    refine bodyPost_ret (v := .int .i64 8) (by simp [results, Tryd.results19, go_sem]) rfl ⟨rfl, ?_⟩
    exact Below.mono (by repeat (first | with_reducible exact Below.refl _ _ | with_reducible assumption | with_reducible refine Below.drew ?_ | with_reducible refine Below.drewN ?_ _ | with_reducible refine Below.alloc ?_ (by first | omega | (simp <;> omega) | (simp at * <;> omega)) _ | with_reducible refine Below.setCell ?_ (by first | omega | (simp <;> omega) | (simp at * <;> omega)) _ | (with_reducible refine Below.trans ?_ (Below.mono (by first | with_reducible assumption | exact hF _) (by first | omega | (simp <;> omega) | (simp at * <;> omega)))))) hB
  · simp only [if_neg hk]
    have hbd := findZ_bd m.funcs name
    obtain ⟨k, hk2⟩ := Int.eq_ofNat_of_zero_le (show 0 ≤ findZ m.funcs name by omega)
    rw [hk2] at hbd ⊢
    rw [Int.toNat_natCast]
    have hkl : k < m.funcs.length := by omega
    have hfn := hm.fn k hkl
    obtain ⟨fsb, fso, H, rfl, rfl, hlies⟩ := hma.lies (mb := mb) (by omega) hml c0 c1
    have hfew := hm.few
    obtain ⟨gB, gm, m0, m1, _, hF⟩ := id hlies
    obtain ⟨hFC, hFO⟩ := hF k hkl
    dsimp only at hFC hFO gB
    have HL := Lib.hid hlies; clear hlies
    have HFC := Lib.hid hFC; clear hFC
    have HFO := Lib.hid hFO; clear hFO hF
    have Hk2 := Lib.hid hk2
    have Hfind := Lib.hid (show ∀ w1, B ≤ w1.heap.size → Same B w w1 → Calls Tryd.prog 35 #[.agg #[.slice ta tl tc, .slice (some ⟨fsb, fso, none⟩) m.funcs.length fc], .string name] w1 fun e w' => e = .returned (.int .i64 k) ∧ Below w1.heap.size w1 w' from fun w1 hz hs => by
      rw [← hk2]; exact find_any B _ m name w1 hz (hma.same hs))
    have hwk : IntKind.i64.wrap (k : Int) = k := IntWalk.i64_in _ (by omega)
    have hk1 : (k : Int) < (m.funcs.length : Int) := by omega
    have hk3 : ¬ (k : Int) < 0 := by omega
    have e6 := hE.2.1 6 _ rfl
    have e10 := hE.2.1 10 _ rfl
    have ef := hE.2.2
    have HE := Lib.hid hE; clear hE
    by_cases hfit : fitsB (fnAt m k).params xs = false
    · simp only [if_pos hfit]
      clear hma ha hk
      go_enter Tryd.func19, Tryd.ntmps19
      go_wp2_with (first | (go_at_call 35; refine (Hfind.out _ (by first | omega | (simp <;> omega) | (simp at * <;> omega)) (by repeat (first | with_reducible exact Same.refl _ _ | with_reducible assumption | with_reducible refine Same.drew ?_ | with_reducible refine Same.drewN ?_ _ | with_reducible refine Same.alloc ?_ (by first | omega | (simp <;> omega) | (simp at * <;> omega)) _ | with_reducible refine Same.setCell ?_ (by first | omega | (simp <;> omega) | (simp at * <;> omega)) _ | (with_reducible refine Same.trans ?_ (Same.of (by assumption) (by first | omega | (simp <;> omega) | (simp at * <;> omega))))))).mono ?_; rintro e w1 ⟨rfl, hb1⟩; have c1' := (bcell hb1).1 mb 1 (by first | exact hml | (simp; omega)); have hz1 := hb1.size) | (go_at_call 36; refine (fits_any B fsb (fso + k * 5) (H k) (fnAt m k) aa al ac xs _ ?_ ?_ ?_ ?_ ?_).mono ?_))
      · exact (by first | omega | (simp <;> omega) | (simp at * <;> omega))
      · exact HFC.out.same (B := B) (by repeat (first | with_reducible exact Same.refl _ _ | with_reducible assumption | with_reducible refine Same.drew ?_ | with_reducible refine Same.drewN ?_ _ | with_reducible refine Same.alloc ?_ (by first | omega | (simp <;> omega) | (simp at * <;> omega)) _ | with_reducible refine Same.setCell ?_ (by first | omega | (simp <;> omega) | (simp at * <;> omega)) _ | (with_reducible refine Same.trans ?_ (Same.of (by assumption) (by first | omega | (simp <;> omega) | (simp at * <;> omega)))))) gB
      · exact (by first | omega | (simp <;> omega) | (simp at * <;> omega))
      · exact HFO.out.2.1.same (by repeat (first | with_reducible exact Same.refl _ _ | with_reducible assumption | with_reducible refine Same.drew ?_ | with_reducible refine Same.drewN ?_ _ | with_reducible refine Same.alloc ?_ (by first | omega | (simp <;> omega) | (simp at * <;> omega)) _ | with_reducible refine Same.setCell ?_ (by first | omega | (simp <;> omega) | (simp at * <;> omega)) _ | (with_reducible refine Same.trans ?_ (Same.of (by assumption) (by first | omega | (simp <;> omega) | (simp at * <;> omega))))))
      · exact Ha.out.up (by repeat (first | with_reducible exact Same.refl _ _ | with_reducible assumption | with_reducible refine Same.drew ?_ | with_reducible refine Same.drewN ?_ _ | with_reducible refine Same.alloc ?_ (by first | omega | (simp <;> omega) | (simp at * <;> omega)) _ | with_reducible refine Same.setCell ?_ (by first | omega | (simp <;> omega) | (simp at * <;> omega)) _ | (with_reducible refine Same.trans ?_ (Same.of (by assumption) (by first | omega | (simp <;> omega) | (simp at * <;> omega)))))) (by first | omega | (simp <;> omega) | (simp at * <;> omega))
      rintro e w2 ⟨rfl, hb2⟩
      go_wp2
      refine bodyPost_ret (v := .int .i64 2) (by simp [results, Tryd.results19, go_sem]) rfl ⟨rfl, ?_⟩
      exact Below.mono (by repeat (first | with_reducible exact Below.refl _ _ | with_reducible assumption | with_reducible refine Below.drew ?_ | with_reducible refine Below.drewN ?_ _ | with_reducible refine Below.alloc ?_ (by first | omega | (simp <;> omega) | (simp at * <;> omega)) _ | with_reducible refine Below.setCell ?_ (by first | omega | (simp <;> omega) | (simp at * <;> omega)) _ | (with_reducible refine Below.trans ?_ (Below.mono (by first | with_reducible assumption | exact hF _) (by first | omega | (simp <;> omega) | (simp at * <;> omega)))))) hB
    · simp only [if_neg hfit]
      have hfit1 : fitsB (fnAt m k).params xs = true := by simpa using hfit
      have hxl := fitsB_length hfit
      have hnp := hfn.np
      clear hma ha hk
      go_enter Tryd.func19, Tryd.ntmps19
      go_wp2_with (first | (go_at_call 35; refine (Hfind.out _ (by first | omega | (simp <;> omega) | (simp at * <;> omega)) (by repeat (first | with_reducible exact Same.refl _ _ | with_reducible assumption | with_reducible refine Same.drew ?_ | with_reducible refine Same.drewN ?_ _ | with_reducible refine Same.alloc ?_ (by first | omega | (simp <;> omega) | (simp at * <;> omega)) _ | with_reducible refine Same.setCell ?_ (by first | omega | (simp <;> omega) | (simp at * <;> omega)) _ | (with_reducible refine Same.trans ?_ (Same.of (by assumption) (by first | omega | (simp <;> omega) | (simp at * <;> omega))))))).mono ?_; rintro e w1 ⟨rfl, hb1⟩; have c1' := (bcell hb1).1 mb 1 (by first | exact hml | (simp; omega)); have hz1 := hb1.size) | (go_at_call 36; refine (fits_any B fsb (fso + k * 5) (H k) (fnAt m k) aa al ac xs _ ?_ ?_ ?_ ?_ ?_).mono ?_))
      · exact (by first | omega | (simp <;> omega) | (simp at * <;> omega))
      · exact HFC.out.same (B := B) (by repeat (first | with_reducible exact Same.refl _ _ | with_reducible assumption | with_reducible refine Same.drew ?_ | with_reducible refine Same.drewN ?_ _ | with_reducible refine Same.alloc ?_ (by first | omega | (simp <;> omega) | (simp at * <;> omega)) _ | with_reducible refine Same.setCell ?_ (by first | omega | (simp <;> omega) | (simp at * <;> omega)) _ | (with_reducible refine Same.trans ?_ (Same.of (by assumption) (by first | omega | (simp <;> omega) | (simp at * <;> omega)))))) gB
      · exact (by first | omega | (simp <;> omega) | (simp at * <;> omega))
      · exact HFO.out.2.1.same (by repeat (first | with_reducible exact Same.refl _ _ | with_reducible assumption | with_reducible refine Same.drew ?_ | with_reducible refine Same.drewN ?_ _ | with_reducible refine Same.alloc ?_ (by first | omega | (simp <;> omega) | (simp at * <;> omega)) _ | with_reducible refine Same.setCell ?_ (by first | omega | (simp <;> omega) | (simp at * <;> omega)) _ | (with_reducible refine Same.trans ?_ (Same.of (by assumption) (by first | omega | (simp <;> omega) | (simp at * <;> omega))))))
      · exact Ha.out.up (by repeat (first | with_reducible exact Same.refl _ _ | with_reducible assumption | with_reducible refine Same.drew ?_ | with_reducible refine Same.drewN ?_ _ | with_reducible refine Same.alloc ?_ (by first | omega | (simp <;> omega) | (simp at * <;> omega)) _ | with_reducible refine Same.setCell ?_ (by first | omega | (simp <;> omega) | (simp at * <;> omega)) _ | (with_reducible refine Same.trans ?_ (Same.of (by assumption) (by first | omega | (simp <;> omega) | (simp at * <;> omega)))))) (by first | omega | (simp <;> omega) | (simp at * <;> omega))
      rintro e w2 ⟨rfl, hb2⟩
      have HE2 := (HE.out.below hb1).below hb2
      have e6 := HE2.2.1 6 _ rfl
      have ef2 := HE2.2.2
      have leb2 := HE2.1
      have hz2 := hb2.size
      have c12 := ((bcell hb2).1 mb 1 (by omega)).trans (c1'.trans m1)
      have HF2 := Lib.hid HE2; clear HE2
      have HK := Lib.hid (show Chg (· = eb) w w2 from (Chg.of hb1).trans (Chg.of hb2))
      go_wp2_with (first
        | (go_at_call 37; refine (operations_any _).mono ?_; rintro e w3 ⟨rfl, hb3, od⟩; have HE3 := (HF2.out.set 6 (.pointer (some ⟨mb, 0, none⟩)) (by simp [engC])).below hb3; have e10 := HE3.2.1 10 _ rfl; have ef3 := HE3.2.2; have hz3 : w2.heap.size ≤ w3.heap.size := (by have := hb3.size; simpa using this); have hz4 : w2.heap.size < w3.heap.size := (by have := od.1; simpa using this)
           have c13 : w3.cell? ⟨mb, 1, none⟩ = some (.slice (some ⟨fsb, fso, none⟩) m.funcs.length fc) := (by rw [(bcell hb3).1 mb 1 (by simp; omega)]; rw [World.cell?_setCell_other _ _ _ _ (by intro e; injection e; omega)]; exact c12)
           have HE4 := Lib.hid HE3; clear HE3)
        | (go_at_call 38; refine (enter_first (B := B) (g := ⟨mb, ta, tl, tc, fc, fsb, fso, H, []⟩) _ eb w2.heap.size ex lim ?_ ?_ rfl ?_ ?_ heb ?_ ?_ ?_ ?_ k hkl hfn aa al ac xs ?_ ?_).mono ?_))
      · exact (by first | omega | (simp <;> omega) | (simp at * <;> omega))
      · exact HL.out.chg (((HK.out.setCell (p := ⟨eb, 6, none⟩) (.inl rfl) _).trans (Chg.of hb3)).setCell (p := ⟨eb, 10, none⟩) (.inl rfl) _) hB (fun k hk e => by omega) hmb
      · exact HE4.out.set 10 _ (by simp [engC])
      · have := od.setOther (p := ⟨eb, 10, none⟩) (.slice (some ⟨w2.heap.size, 0, none⟩) 20 20) (by simp; omega)
        simpa using this
      · omega
      · omega
      · exact fun e => hmb e.symm
      · omega
      · exact Ha.out.up (by repeat (first | with_reducible exact Same.refl _ _ | with_reducible assumption | with_reducible refine Same.drew ?_ | with_reducible refine Same.drewN ?_ _ | with_reducible refine Same.alloc ?_ (by first | omega | (simp <;> omega) | (simp at * <;> omega)) _ | with_reducible refine Same.setCell ?_ (by first | omega | (simp <;> omega) | (simp at * <;> omega)) _ | (with_reducible refine Same.trans ?_ (Same.of (by assumption) (by first | omega | (simp <;> omega) | (simp at * <;> omega)))))) (by first | omega | (simp <;> omega) | (simp at * <;> omega))
      · omega
      rintro e w6 ⟨rfl, hb6, i, hi, hE6⟩
      go_wp2
      have kb := (((HK.out.setCell (p := ⟨eb, 6, none⟩) (.inl rfl) (.pointer (some ⟨mb, 0, none⟩))).trans (Chg.of hb3)).setCell (p := ⟨eb, 10, none⟩) (.inl rfl) (.slice (some ⟨w2.heap.size, 0, none⟩) 20 20)).below B hB (fun k hk e => by omega)
      refine bodyPost_ret (v := .int .i64 0) (by simp [results, Tryd.results19, go_sem]) rfl ⟨rfl, kb.trans hb6, _, i, hi, rfl, hE6⟩
end Go.Proofs.YtgpdggjpbmgegaaDoor
