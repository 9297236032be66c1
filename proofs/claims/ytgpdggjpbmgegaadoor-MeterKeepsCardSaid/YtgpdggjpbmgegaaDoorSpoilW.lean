/- R9.Spoil, walked. -/
import Derived.Test.YtgpdggjpbmgegaaDoorSpoil
namespace Go.Proofs.YtgpdggjpbmgegaaDoor
open Go.RowKit
set_option linter.unusedVariables false
set_option linter.unusedSimpArgs false


set_option maxRecDepth 100000 in
set_option maxHeartbeats 4000000 in
theorem spoil_any {N M K : Nat} (m : PMod) (w : World) (tb tcap : Nat) (fv : Value) (zs : List (PFunc × K4)) (h : FreshAt N M w m tb tcap fv zs) (hN : N ≤ w.heap.size) (hM : M ≤ w.heap.size) (hs : SmallMod m) (hK : K ≤ w.heap.size) (kt1 : tb < K) (kt2 : ∀ k, fv.ownBlock = some k → k < K) (kt3 : ∀ z ∈ zs, z.2.pb < K ∧ z.2.cb < K) :
    Calls Tryd.prog 15 #[.agg #[.slice (some ⟨tb, 0, none⟩) m.thr.length tcap, fv]] w fun e w' => e = .returned (.tuple #[]) ∧ Chg (fun k => N ≤ k ∧ k < K) w w' := by
  obtain ⟨i0, hi, hz0, hz1, hz2⟩ := info_parts Tryd.info64
  obtain ⟨j0, gi, gz0, gz1, gz2⟩ := info_parts Tryd.info51
  obtain ⟨k0, pi0, pz0, pz1, pz2⟩ := info_parts Tryd.info74
  obtain ⟨l0, ci0, cz0, cz1, cz2⟩ := info_parts Tryd.info47
  obtain ⟨s1, s2, s3⟩ := hs
  obtain ⟨n1, n2, ht, hzm, hr⟩ := h
  have hlz : zs.length = m.funcs.length := by rw [← hzm]; simp
  have hlz2 : zs.length ≤ 1048576 := by omega
  have HSm : ∀ j, (hj : j < zs.length) → zs[j].1.params.length ≤ 1048576 ∧ zs[j].1.code.length ≤ 1048576 := by
    intro j hj
    have := s3 j (by omega)
    have e : fnAt m j = zs[j].1 := by
      unfold fnAt; rw [← hzm]; simp [List.getD_eq_getElem?_getD, List.getElem?_map, List.getElem?_eq_getElem hj]
    rw [e] at this; exact this
  have HSM := Lib.hid HSm; clear HSm s3 hzm hlz
  have hW0 : Below w.heap.size w (w.alloc (.cells #[.slice (some ⟨tb, 0, none⟩) m.thr.length tcap, fv] 26)) := (by repeat (first | with_reducible exact Below.refl _ _ | with_reducible assumption | with_reducible refine Below.drew ?_ | with_reducible refine Below.drewN ?_ _ | with_reducible refine Below.alloc ?_ (by first | omega | (simp <;> omega) | (simp at * <;> omega)) _ | with_reducible refine Below.setCell ?_ (by first | omega | (simp <;> omega) | (simp at * <;> omega)) _ | (with_reducible refine Below.trans ?_ (Below.mono (by first | with_reducible assumption | exact hF _) (by first | omega | (simp <;> omega) | (simp at * <;> omega))))))
  obtain ⟨g, hst, hsp⟩ := fresh_sts n1 n2 ht hM hr hW0 hN hK kt1 kt2 kt3 (Own.new w _ _)
  have hT0 : RowEx (w.alloc (.cells #[.slice (some ⟨tb, 0, none⟩) m.thr.length tcap, fv] 26)) 2 1 (.slice (some ⟨tb, 0, none⟩) m.thr.length tcap) m.thr.length := ⟨_, ht.alloc _⟩
  obtain ⟨fa, fc, hform, hfa⟩ := hst.form
  have c1 := hst.n1; have c2 := hst.n2; have c3 := hst.n3; have c4 := hst.n4; have c5 := hst.n5; have c6 := hst.n6; have c7 := hst.n7
  clear kt1 kt2 kt3 hK
  have HST := Lib.hid hst; clear hst
  have HSP := Lib.hid hsp; clear hsp
  have HT0 := Lib.hid hT0; clear hT0 ht hr
  subst hform
  generalize hb0 : w.heap.size = b0 at *
  generalize m.thr.length = tl at *
  go_enter Tryd.func15, Tryd.ntmps15
  go_wp2
  go_loopw [2] (fun i wr => ∃ k : Nat, k ≤ tl ∧ i = .int .i64 k ∧ b0 < wr.heap.size ∧ Hid (SPI N K w wr b0 (.slice (some ⟨tb, 0, none⟩) tl tcap) (.slice fa zs.length fc) g zs 0 0) ∧ Hid (RowEx wr 2 1 (.slice (some ⟨tb, 0, none⟩) tl tcap) tl)) (fun i _ => tl - (intOf i).toNat)
  case atStart => exact ⟨0, Nat.zero_le _, rfl, by simp; omega, HSP, HT0⟩
  case round =>
    obtain ⟨k, hk, rfl, hzb, hS, hT⟩ := hrel
    have ob := own2 hS.out.box
    by_cases hlt : k < tl
    · have d2 : (k : Int) < (tl : Int) := by omega
      have hwk : IntKind.i64.wrap ((k : Int) + 1) = (k : Int) + 1 := IntWalk.i64_in _ (by omega)
      have hwk0 : IntKind.i64.wrap (k : Int) = (k : Int) := IntWalk.i64_in _ (by omega)
      obtain ⟨u, hu⟩ := hT.out.cell k (by omega)
      have hfz := hT.out.frozen k
      have htb := hT.out.lt (k := tb) rfl
      go_wp2
      go_roundw
      case rel => exact ⟨k + 1, by omega, by simp, by simp; omega, Lib.hid (hS.out.set ⟨tb, k, none⟩ _ (by dsimp only; omega) (by dsimp only; omega) (by dsimp only; omega)), Lib.hid (hT.out.setCell _ _)⟩
      case measure => go_light; first | omega | (simp only [intOf]; omega)
    · have hkn : k = tl := by omega
      subst hkn
      have d2 : ¬ (k : Int) < (k : Int) := by omega
      obtain ⟨xs, hxs⟩ := hT.out
      have HX := Lib.hid hxs; clear hxs
      go_wp2_with (at_builtin; refine wpList_append2 _ rfl (.tmp 21) (.tmp 22) 23 rfl 2 i0 (.int .i64 0) 1 8 ?a3 ?a4 ?a5 ?a6 ?a7 ?a8 ?a9 (.slice (some ⟨tb, 0, none⟩) k tcap) k xs ?b1 ?b2 ⟨wr.heap.size, 0, none⟩ 1 1 [.int .i64 5] ?b3 ?b4 ?b5 ?b6 ?b7 ?b8 ?b9)
      case b2 => exact HX.out.alloc _
      case b6 => rfl
      case b7 => unfold maxLen; omega
      case b8 => omega
      case b9 =>
        intro v2 w2 hown2 hgr hnn
        obtain ⟨tb2, tcap2, rfl⟩ : ∃ sb cap, v2 = .slice (some ⟨sb, 0, none⟩) (k + 1) cap := by
          rcases hown2.2 with ⟨_, h0⟩ | ⟨g', cap', cur, hv, _⟩
          · omega
          · exact ⟨g', cap', hv⟩
        have k2 : Chg (fun x => x = tb) wr w2 := (((Chg.refl (fun x => x = tb) wr).alloc _).trans ((chg_grown hgr).mono (fun x _ e => by simpa [Value.ownBlock, eq_comm] using e)))
        have hz2' := k2.size
        have hS2 : SPI N K w w2 b0 (.slice (some ⟨tb, 0, none⟩) k tcap) (.slice fa zs.length fc) g zs 0 0 := hS.out.chg k2 (fun x e => by omega) (by omega) (by omega) HST.out.fvb (fun h0 => by
          have := hS.out.row.lt (k := g) (by rw [hfa h0]; rfl); exact this) (Nat.le_refl _) (Nat.le_refl _) (fun j hj _ e => by have := (HST.out.p j hj).1; omega) (fun j hj _ e => by have := (HST.out.p j hj).2.2.2.1; omega)
        have ob2 := own2 hS2.box
        have HS2 := Lib.hid hS2; clear hS2 k2 hgr hnn hown2 hS hT
        go_wp2
        generalize hWA : World.setCell _ _ _ = WA
        have HSA := Lib.hid (show SPI N K w WA b0 (.slice (some ⟨tb2, 0, none⟩) (k + 1) tcap2) (.slice fa zs.length fc) g zs 0 0 by rw [← hWA]; exact HS2.out.box0 _ (by omega) (by omega))
        have hzA : b0 < WA.heap.size := by rw [← hWA]; simp; omega
        clear hWA HS2 ob2 HX hz2' hk
        generalize hTe : (Value.slice (some ⟨tb2, 0, none⟩) (k + 1) tcap2) = hTb at *
        go_loopw [3] (fun i wr => ∃ i' : Nat, i' ≤ zs.length ∧ i = .int .i64 i' ∧ b0 < wr.heap.size ∧ Hid (SPI N K w wr b0 hTb (.slice fa zs.length fc) g zs i' i')) (fun i _ => zs.length - (intOf i).toNat)
        case atStart => exact ⟨0, Nat.zero_le _, rfl, hzA, HSA⟩
        case round =>
          clear ob hzb
          obtain ⟨i, hile, rfl, hzb, hS⟩ := hrel
          have ob := own2 hS.out.box
          by_cases hin : i < zs.length
          · have d3 : (i : Int) < (zs.length : Int) := by omega
            have hwi : IntKind.i64.wrap ((i : Int) + 1) = (i : Int) + 1 := IntWalk.i64_in _ (by omega)
            have hwi0 : IntKind.i64.wrap (i : Int) = (i : Int) := IntWalk.i64_in _ (by omega)
            obtain rfl := hfa (by omega)
            have hp := hS.out.hp i hin (Nat.le_refl _)
            have q := HST.out.p i hin
            have sm := HSM.out i hin
            unfold hdrP at hp
            obtain ⟨z, hz⟩ : ∃ z, z = zs[i] := ⟨_, rfl⟩
            rw [← hz] at hp q sm
            have HZ := Lib.hid hz; clear hz
            have hgl : g < wr.heap.size := hS.out.row.lt rfl
            go_wp2
            obtain ⟨wA, rfl⟩ : ∃ wo : World, wo = wr := ⟨_, rfl⟩
            go_loopw [5] (fun kk wr => ∃ k' : Nat, k' ≤ z.1.params.length ∧ kk = .int .i64 k' ∧ b0 < wr.heap.size ∧ Hid (SPI N K w wr b0 hTb (.slice (some ⟨g, 0, none⟩) zs.length fc) g zs i i)) (fun kk _ => z.1.params.length - (intOf kk).toNat)
            case atStart => exact ⟨0, Nat.zero_le _, rfl, hzb, hS⟩
            case round =>
              clear ob hp hgl hzb
              obtain ⟨kk, hkk, rfl, hzb, hS2⟩ := hrel
              have ob := own2 hS2.out.box
              by_cases hlk : kk < z.1.params.length
              · have d4 : (kk : Int) < (z.1.params.length : Int) := by omega
                have hwj : IntKind.i64.wrap ((kk : Int) + 1) = (kk : Int) + 1 := IntWalk.i64_in _ (by omega)
                have hwj0 : IntKind.i64.wrap (kk : Int) = (kk : Int) := IntWalk.i64_in _ (by omega)
                have hrw := hS2.out.lp i hin (Nat.le_refl _)
                rw [← HZ.out] at hrw
                obtain ⟨u0, hu0⟩ := RowEx.cell hrw (kk * 2) (by omega)
                obtain ⟨u1, hu1⟩ := RowEx.cell hrw (kk * 2 + 1) (by omega)
                have hf0 := RowEx.frozen hrw (kk * 2)
                have hf1 := RowEx.frozen hrw (kk * 2 + 1)
                have hpl := hrw.lt (k := z.2.pb) rfl
                clear hrw
                go_wp2
                go_roundw
                case rel => exact ⟨kk + 1, by omega, by simp, by simp; omega, Lib.hid ((hS2.out.set ⟨z.2.pb, kk * 2, none⟩ _ (by dsimp only; omega) (by dsimp only; omega) (by dsimp only; omega)).set ⟨z.2.pb, kk * 2 + 1, none⟩ _ (by dsimp only; omega) (by dsimp only; omega) (by dsimp only; omega))⟩
                case measure => go_light; first | omega | (simp only [intOf]; omega)
              · have d4 : ¬ (kk : Int) < (z.1.params.length : Int) := by omega
                have hrw := hS2.out.lp i hin (Nat.le_refl _)
                rw [← HZ.out] at hrw
                obtain ⟨xsp, hxsp⟩ := hrw
                have hpl : z.2.pb < wr.heap.size := (hxsp.lt _ rfl).2
                have hgl : g < wr.heap.size := hS2.out.row.lt rfl
                obtain ⟨ug, hug⟩ := hS2.out.row.cell (i * 5 + 1) (by omega)
                have hfg := hS2.out.row.frozen (i * 5 + 1)
                go_wp2
                go_region_held3 (fun w' => w'.cell? ⟨b0, 1, none⟩ = some (.slice (some ⟨g, 0, none⟩) zs.length fc)) (first | go_keep | (rw [hgrow.cell_far _ (by simp; omega) (by simp [Value.ownBlock]; omega)]; assumption))
                  ((refine step_append_lies _ (by rfl) _ _ _ (by rfl) 0 74 k0 _ 2 16 Tryd.underlying49 pi0 pz0 pz1 pz2 rfl (by decide) (.slice (some ⟨z.2.pb, 0, none⟩) z.1.params.length z.2.pcap) z.1.params.length xsp (by rfl) ((hxsp.alloc _).drew) ⟨wr.heap.size, 0, none⟩ 1 1 [.int .i64 0, .int .i64 0] (by rfl) (by rfl) (World.news_of_block (cs := #[.int .i64 0, .int .i64 0]) (t := 74) (fr := (0, 0)) (heap_alloc_new wr _)) (by simp [Value.oneCell']) (by omega) (by unfold maxLen; omega) (by omega) (Nat.zero_le _) (wr.heap.size + 1) (by simp) ?_; intro gg cap w5 hown5 hgrow hat hlt5; have hkb := ((Below.refl wr.heap.size wr).alloc (Nat.le_refl _) (.cells #[.int .i64 0, .int .i64 0] 74)).drew; have hug5 := (hgrow.cell_far ⟨g, i * 5 + 1, none⟩ (by simp; omega) (by simp [Value.ownBlock]; omega)).trans ((hkb.cell (p := ⟨g, i * 5 + 1, none⟩) hgl).trans hug); have hfg5 := (hgrow.frozen_far ⟨g, i * 5 + 1, none⟩ (by simp; omega) (by simp [Value.ownBlock]; omega)).trans ((hkb.frozen (p := ⟨g, i * 5 + 1, none⟩) hgl).trans hfg)))
                have k5 : Chg (fun x => x = z.2.pb) wr w5 := (Chg.of ((Below.refl wr.heap.size wr).alloc (Nat.le_refl _) (.cells #[.int .i64 0, .int .i64 0] 74)).drew).trans ((chg_grown hgrow).mono (fun x _ e => by simpa [Value.ownBlock, eq_comm] using e))
                have hdi := HST.out.d i
                have hS5 : SPI N K w w5 b0 hTb (.slice (some ⟨g, 0, none⟩) zs.length fc) g zs (i + 1) i := hS2.out.chg k5 (fun x e => by omega) (by omega) (by omega) HST.out.fvb (fun _ => hgl) (Nat.le_succ _) (Nat.le_refl _)
                  (fun j hj hl e => by have := (hdi j hin hj (by omega)).1; rw [← HZ.out] at this; exact this e.symm)
                  (fun j hj hl e => by
                    by_cases ej : j = i
                    · subst ej; have := (HST.out.p j hj).2.2.2.2.2.2; rw [← HZ.out] at this e; exact this e.symm
                    · have := (hdi j hin hj (by omega)).2.1; rw [← HZ.out] at this; exact this e.symm)
                have hS6 := hS5.setG (i * 5 + 1) (.slice (some ⟨gg, 0, none⟩) (z.1.params.length + 1) cap) (by omega) (by omega) (fun j hl => by omega) (fun j hl => by omega)
                have hz5 := k5.size
                generalize hWB : World.setCell w5 _ _ = WB at *
                have hzB : b0 < WB.heap.size := by rw [← hWB]; simp; omega
                have HS6 := Lib.hid hS6; clear hS6
                clear hWB k5 hS5 hgrow hown5 hug5 hfg5 hkb hat hlt5 hxsp hug hfg hpl hgl ob hS2 hzb hkk hlk d4 hdi
                have ob := own2 HS6.out.box
                have hp := HS6.out.hc i hin (Nat.le_refl _)
                have hgl : g < WB.heap.size := HS6.out.row.lt rfl
                unfold hdrC at hp
                rw [← HZ.out] at hp
                go_wp2
                go_loopw [7] (fun kk wr => ∃ k' : Nat, k' ≤ z.1.code.length ∧ kk = .int .i64 k' ∧ b0 < wr.heap.size ∧ Hid (SPI N K w wr b0 hTb (.slice (some ⟨g, 0, none⟩) zs.length fc) g zs (i + 1) i)) (fun kk _ => z.1.code.length - (intOf kk).toNat)
                case atStart => exact ⟨0, Nat.zero_le _, rfl, hzB, HS6⟩
                case round =>
                  clear ob hp hgl hzB
                  obtain ⟨kc, hkc, rfl, hzb, hS2⟩ := hrel
                  have ob := own2 hS2.out.box
                  by_cases hlk : kc < z.1.code.length
                  · have d4 : (kc : Int) < (z.1.code.length : Int) := by omega
                    have hwj : IntKind.i64.wrap ((kc : Int) + 1) = (kc : Int) + 1 := IntWalk.i64_in _ (by omega)
                    have hwj0 : IntKind.i64.wrap (kc : Int) = (kc : Int) := IntWalk.i64_in _ (by omega)
                    have hrw := hS2.out.lc i hin (Nat.le_refl _)
                    rw [← HZ.out] at hrw
                    obtain ⟨u0, hu0⟩ := RowEx.cell hrw (kc * 5) (by omega)
                    obtain ⟨u1, hu1⟩ := RowEx.cell hrw (kc * 5 + 1) (by omega)
                    obtain ⟨u2, hu2⟩ := RowEx.cell hrw (kc * 5 + 2) (by omega)
                    obtain ⟨u3, hu3⟩ := RowEx.cell hrw (kc * 5 + 3) (by omega)
                    obtain ⟨u4, hu4⟩ := RowEx.cell hrw (kc * 5 + 4) (by omega)
                    have hf0 := RowEx.frozen hrw (kc * 5)
                    have hf1 := RowEx.frozen hrw (kc * 5 + 1)
                    have hf2 := RowEx.frozen hrw (kc * 5 + 2)
                    have hf3 := RowEx.frozen hrw (kc * 5 + 3)
                    have hf4 := RowEx.frozen hrw (kc * 5 + 4)
                    have hpl := hrw.lt (k := z.2.cb) rfl
                    clear hrw
                    go_wp2
                    go_roundw
                    case rel =>
                      have S0 := fun (W : World) (hW : SPI N K w W b0 hTb (.slice (some ⟨g, 0, none⟩) zs.length fc) g zs (i + 1) i) (o : Nat) (u : Value) => hW.set ⟨z.2.cb, o, none⟩ u (by dsimp only; omega) (by dsimp only; omega) (by dsimp only; omega)
                      exact ⟨kc + 1, by omega, by simp, by simp; omega, Lib.hid (S0 _ (S0 _ (S0 _ (S0 _ (S0 _ hS2.out _ _) _ _) _ _) _ _) _ _)⟩
                    case measure => go_light; first | omega | (simp only [intOf]; omega)
                  · have d4 : ¬ (kc : Int) < (z.1.code.length : Int) := by omega
                    have hrw := hS2.out.lc i hin (Nat.le_refl _)
                    rw [← HZ.out] at hrw
                    obtain ⟨xsp, hxsp⟩ := hrw
                    have hpl : z.2.cb < wr.heap.size := (hxsp.lt _ rfl).2
                    have hgl : g < wr.heap.size := hS2.out.row.lt rfl
                    obtain ⟨ug, hug⟩ := hS2.out.row.cell (i * 5 + 4) (by omega)
                    have hfg := hS2.out.row.frozen (i * 5 + 4)
                    go_wp2
                    go_region_held3 (fun w' => w'.cell? ⟨b0, 1, none⟩ = some (.slice (some ⟨g, 0, none⟩) zs.length fc)) (first | go_keep | (rw [hgrow.cell_far _ (by simp; omega) (by simp [Value.ownBlock]; omega)]; assumption))
                      ((refine step_append_lies _ (by rfl) _ _ _ (by rfl) 0 47 l0 _ 5 40 Tryd.underlying48 ci0 cz0 cz1 cz2 rfl (by decide) (.slice (some ⟨z.2.cb, 0, none⟩) z.1.code.length z.2.ccap) z.1.code.length xsp (by rfl) ((hxsp.alloc _).drew) ⟨wr.heap.size, 0, none⟩ 1 1 [.int .i64 0, .int .i64 0, .int .i64 0, .int .i64 0, .int .i64 0] (by rfl) (by rfl) (World.news_of_block (cs := #[.int .i64 0, .int .i64 0, .int .i64 0, .int .i64 0, .int .i64 0]) (t := 47) (fr := (0, 0)) (heap_alloc_new wr _)) (by simp [Value.oneCell']) (by omega) (by unfold maxLen; omega) (by omega) (Nat.zero_le _) (wr.heap.size + 1) (by simp) ?_; intro gg cap w5 hown5 hgrow hat hlt5; have hkb := ((Below.refl wr.heap.size wr).alloc (Nat.le_refl _) (.cells #[.int .i64 0, .int .i64 0, .int .i64 0, .int .i64 0, .int .i64 0] 47)).drew; have hug5 := (hgrow.cell_far ⟨g, i * 5 + 4, none⟩ (by simp; omega) (by simp [Value.ownBlock]; omega)).trans ((hkb.cell (p := ⟨g, i * 5 + 4, none⟩) hgl).trans hug); have hfg5 := (hgrow.frozen_far ⟨g, i * 5 + 4, none⟩ (by simp; omega) (by simp [Value.ownBlock]; omega)).trans ((hkb.frozen (p := ⟨g, i * 5 + 4, none⟩) hgl).trans hfg)))
                    have k5 : Chg (fun x => x = z.2.cb) wr w5 := (Chg.of ((Below.refl wr.heap.size wr).alloc (Nat.le_refl _) (.cells #[.int .i64 0, .int .i64 0, .int .i64 0, .int .i64 0, .int .i64 0] 47)).drew).trans ((chg_grown hgrow).mono (fun x _ e => by simpa [Value.ownBlock, eq_comm] using e))
                    have hdi := HST.out.d i
                    have hS5 : SPI N K w w5 b0 hTb (.slice (some ⟨g, 0, none⟩) zs.length fc) g zs (i + 1) (i + 1) := hS2.out.chg k5 (fun x e => by omega) (by omega) (by omega) HST.out.fvb (fun _ => hgl) (Nat.le_refl _) (Nat.le_succ _)
                      (fun j hj hl e => by have := (hdi j hin hj (by omega)).2.2.1; rw [← HZ.out] at this; exact this e.symm)
                      (fun j hj hl e => by have := (hdi j hin hj (by omega)).2.2.2; rw [← HZ.out] at this; exact this e.symm)
                    have hS6 := hS5.setG (i * 5 + 4) (.slice (some ⟨gg, 0, none⟩) (z.1.code.length + 1) cap) (by omega) (by omega) (fun j hl => by omega) (fun j hl => by omega)
                    have hz5 := k5.size
                    have HS6 := Lib.hid hS6; clear hS6
                    clear k5 hS5 hgrow hown5 hug5 hfg5 hkb hat hlt5 hxsp hug hfg hpl hgl ob hS2 hkc hlk d4 hdi
                    go_wp2
                    go_roundw
                    case rel => exact ⟨i + 1, by omega, by simp, by simp; omega, HS6⟩
                    case measure => go_light; first | omega | (simp only [intOf]; omega)
          · have hin2 : i = zs.length := by omega
            subst hin2
            have d3 : ¬ (zs.length : Int) < (zs.length : Int) := by omega
            go_wp2
            obtain ⟨wA, rfl⟩ : ∃ wo : World, wo = wr := ⟨_, rfl⟩
            go_loopw [8] (fun kk wr => ∃ k' : Nat, k' ≤ zs.length ∧ kk = .int .i64 k' ∧ b0 < wr.heap.size ∧ Hid (SPI N K w wr b0 hTb (.slice fa zs.length fc) g zs zs.length zs.length)) (fun kk _ => zs.length - (intOf kk).toNat)
            case atStart => exact ⟨0, Nat.zero_le _, rfl, hzb, hS⟩
            case round =>
              clear ob hzb
              obtain ⟨j, hjl, rfl, hzb, hS2⟩ := hrel
              have ob := own2 hS2.out.box
              by_cases hjn : j < zs.length
              · have d4 : (j : Int) < (zs.length : Int) := by omega
                have hwj : IntKind.i64.wrap ((j : Int) + 1) = (j : Int) + 1 := IntWalk.i64_in _ (by omega)
                have hwj0 : IntKind.i64.wrap (j : Int) = (j : Int) := IntWalk.i64_in _ (by omega)
                obtain rfl := hfa (by omega)
                have hrw := hS2.out.row
                obtain ⟨u0, hu0⟩ := RowEx.cell hrw (j * 5) (by omega)
                obtain ⟨u1, hu1⟩ := RowEx.cell hrw (j * 5 + 1) (by omega)
                obtain ⟨u2, hu2⟩ := RowEx.cell hrw (j * 5 + 2) (by omega)
                obtain ⟨u3, hu3⟩ := RowEx.cell hrw (j * 5 + 3) (by omega)
                obtain ⟨u4, hu4⟩ := RowEx.cell hrw (j * 5 + 4) (by omega)
                have hf0 := RowEx.frozen hrw (j * 5)
                have hf1 := RowEx.frozen hrw (j * 5 + 1)
                have hf2 := RowEx.frozen hrw (j * 5 + 2)
                have hf3 := RowEx.frozen hrw (j * 5 + 3)
                have hf4 := RowEx.frozen hrw (j * 5 + 4)
                have hgl : g < wr.heap.size := hrw.lt rfl
                clear hrw
                go_wp2
                go_roundw
                case rel =>
                  have S0 := fun (W : World) (hW : SPI N K w W b0 hTb (.slice (some ⟨g, 0, none⟩) zs.length fc) g zs zs.length zs.length) (o : Nat) (u : Value) (ho : o < zs.length * 5) => hW.setG o u (by omega) (by omega) (fun j hl => by omega) (fun j hl => by omega)
                  exact ⟨j + 1, by omega, by simp, by simp; omega, Lib.hid (S0 _ (S0 _ (S0 _ (S0 _ (S0 _ hS2.out _ _ (by omega)) _ _ (by omega)) _ _ (by omega)) _ _ (by omega)) _ _ (by omega))⟩
                case measure => go_light; first | omega | (simp only [intOf]; omega)
              · have d4 : ¬ (j : Int) < (zs.length : Int) := by omega
                obtain ⟨xs, hxs⟩ := hS2.out.row
                have HX := Lib.hid hxs; clear hxs
                go_wp2_with (at_builtin; refine wpList_append2 _ rfl (.tmp 95) (.tmp 97) 24 rfl 51 j0 (.agg #[.string ⟨#[]⟩, .slice none 0 0, .int .i64 0, .int .i64 0, .slice none 0 0]) 5 80 ?ya3 ?ya4 ?ya5 ?ya6 ?ya7 ?ya8 ?ya9 (.slice fa zs.length fc) zs.length xs ?yb1 ?yb2 ⟨wr.heap.size, 0, none⟩ 1 1 [.string ⟨#[]⟩, .slice none 0 0, .int .i64 0, .int .i64 0, .slice none 0 0] ?yb3 ?yb4 ?yb5 ?yb6 ?yb7 ?yb8 ?yb9)
                case yb2 => exact HX.out.alloc _
                case yb6 => exact ⟨rfl, rfl, rfl, rfl⟩
                case yb7 => unfold maxLen; omega
                case yb8 => omega
                case yb9 =>
                  intro v3 w3 hown3 hgr3 hnn3
                  obtain ⟨gb3, gc3, rfl⟩ : ∃ sb cap, v3 = .slice (some ⟨sb, 0, none⟩) (zs.length + 1) cap := by
                    rcases hown3.2 with ⟨_, h0⟩ | ⟨g', cap', cur, hv, _⟩
                    · omega
                    · exact ⟨g', cap', hv⟩
                  have hfg : ∀ x, (Value.slice fa zs.length fc).ownBlock = some x → x = g := HST.out.fvb
                  have k3 : Chg (fun x => x = g) wr w3 := (((Chg.refl (fun x => x = g) wr).alloc _).trans ((chg_grown hgr3).mono (fun x _ e => hfg x e)))
                  have ob3 := own2 (k3.own hS2.out.box (by omega))
                  have hz3 := k3.size
                  have hb3 : Chg (fun x => N ≤ x ∧ x < K) w w3 := hS2.out.bel.trans2 k3 (fun x hx e => by omega)
                  clear hgr3 hnn3 hown3
                  go_wp2
                  go_end0
                  go_light
                  exact ⟨rfl, hb3.setCell (p := ⟨b0, 1, none⟩) (.inr (by dsimp only; omega)) _⟩
end Go.Proofs.YtgpdggjpbmgegaaDoor
