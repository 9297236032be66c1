/- R9.Copy: a module's copy lies in memory of its own and reads as the module. -/
import Derived.Test.YtgpdggjpbmgegaaDoorFresh
namespace Go.Proofs.YtgpdggjpbmgegaaDoor
open Go.RowKit
set_option linter.unusedVariables false
set_option linter.unusedSimpArgs false


theorem Tryd.info51 : (Tryd.prog.info? 51).map (fun i => (i.zero, i.size, i.bytes)) = some (some (.agg #[.string ⟨#[]⟩, .slice none 0 0, .int .i64 0, .int .i64 0, .slice none 0 0]), 5, 80) := by kernel_rfl

theorem add0 (b j : Nat) : (⟨b, 0, none⟩ : Addr).add j = ⟨b, j, none⟩ := by
  unfold Addr.add; split
  · rename_i h; rw [h]
  · simp
/-- a struct of two cells, written whole -/
theorem set2 {w : World} {k : Nat} {a b : Value} (h : Own w k [a, b]) (x y : Value) :
    (w.setCell ⟨k, 0, none⟩ x).cell? ⟨k, 0, none⟩ = some x ∧ ((w.setCell ⟨k, 0, none⟩ x).setCell ⟨k, 1, none⟩ y).cell? ⟨k, 1, none⟩ = some y ∧ (w.setCell ⟨k, 0, none⟩ x).cell? ⟨k, 1, none⟩ = some b := by
  have h1 := h.set 0 x (by simp)
  have h2 := h1.set 1 y (by simp)
  exact ⟨h1.2.1 0 _ rfl, h2.2.1 1 _ rfl, h1.2.1 1 _ rfl⟩

def CopyMPost (m : PMod) (w : World) (e : Ending) (w' : World) : Prop := ∃ M tb tcap fv zs, e = .returned (.agg #[.slice (some ⟨tb, 0, none⟩) m.thr.length tcap, fv]) ∧ Below w.heap.size w w' ∧ M ≤ w'.heap.size ∧ FreshAt w.heap.size M w' m tb tcap fv zs
/-- the end of Copy -/
theorem copy_end2 (Q : Ending → World → Prop) (T : Array Value) (W : World) (k : Nat) (a b : Value) (ho : Own W k [a, b]) (hT : T[2]? = some (.pointer (some ⟨k, 0, none⟩)))
    (hq : Q (.returned (.agg #[a, b])) W) : bodyPost Tryd.prog Tryd.f13 Q .ret { tmps := T, defers := [] } W := by
  obtain ⟨_, r0, r1, _⟩ := own2 ho
  have hr : (results Tryd.f13 T).run Tryd.prog W = .ok (.agg #[a, b]) W := by
    simp [results, Tryd.results13, go_sem, hT, r0, r1]
  exact bodyPost_ret hr rfl hq

set_option maxRecDepth 100000 in
set_option maxHeartbeats 2000000 in
theorem copy_any {B : Nat} (v : Value) (m : PMod) (w : World) (hB : B ≤ w.heap.size) (hm : ModAt B w v m) (hs : SmallMod m) :
    Calls Tryd.prog 13 #[v] w (CopyMPost m w) := by
  obtain ⟨i0, hi, hz0, hz1, hz2⟩ := info_parts Tryd.info64
  obtain ⟨j0, gi, gz0, gz1, gz2⟩ := info_parts Tryd.info51
  obtain ⟨s1, s2, s3⟩ := hs
  obtain ⟨ta, tl, tc, fa, fl, fc, rfl, ht, hf⟩ := hm
  have htl := ht.1
  have hfl := hf.1
  subst htl hfl
  obtain ⟨_, _, fb, fo, hfa, H, hcs⟩ := hf
  have HT := Lib.hid ht; clear ht
  have Hcs := Lib.hid hcs; clear hcs
  have S3 := Lib.hid s3; clear s3
  have hml : m.thr.length ≤ maxLen := by unfold maxLen; omega
  have hsrc : ∀ w1, Same B w w1 → 0 < m.thr.length → ∃ b o, ta = some ⟨b, o, none⟩ ∧ ∀ j u, (Nums m.thr)[j]? = some u → w1.cell? ⟨b, o + j, none⟩ = some u := by
    intro w1 hs h0
    obtain ⟨_, _, b, o, hb, hc⟩ := HT.out.same hs
    refine ⟨b, o, (hb h0).1, fun j u hu => ?_⟩
    have hj : j < m.thr.length := by have := (List.getElem?_eq_some_iff.1 hu).1; simpa [Nums] using this
    have := (hc j hj).1
    rw [Nums_some (getD_some hj)] at hu
    rw [this]; exact hu
  have Hsrc := Lib.hid hsrc; clear hsrc
  go_enter Tryd.func13, Tryd.ntmps13
  go_wp2_with (at_builtin; refine wpList_append_copy _ rfl (.tmp 6) (.tmp 8) 23 rfl 2 i0 _ 1 8 Tryd.underlying23 hi hz0 hz1 hz2 rfl (by decide) (w.heap.size + 1 + 1) rfl ?own ta m.thr.length tc (Nums m.thr) rfl ?c1 ?c2 ?c3 ?c4 ?c5 ?_)
  case own => exact ownsRow_none (by simp)
  case c1 => simp [Nums]
  case c2 => exact Hsrc.out _ (by repeat (first | with_reducible exact Same.refl _ _ | with_reducible assumption | with_reducible refine Same.drew ?_ | with_reducible refine Same.drewN ?_ _ | with_reducible refine Same.alloc ?_ (by first | omega | (simp <;> omega) | (simp at * <;> omega)) _ | with_reducible refine Same.setCell ?_ (by first | omega | (simp <;> omega) | (simp at * <;> omega)) _ | (with_reducible refine Same.trans ?_ (Same.of (by assumption) (by first | omega | (simp <;> omega) | (simp at * <;> omega))))))
  case c3 => intro u hu; obtain ⟨n, _, rfl⟩ := List.mem_map.1 hu; rfl
  case c5 => omega
  intro tb tcap w1 own1 hb1 htb
  have htb2 : w.heap.size + 2 ≤ tb := by rcases htb with h | h <;> first | omega | (simp at h; omega)
  have htl1 : tb < w1.heap.size := (own1.lt tb rfl).2
  have hz1' : w.heap.size + 1 + 1 < w1.heap.size := by have := hb1.size; simp at this; omega
  have ob1 := (((Own.new w [.slice ta m.thr.length tc, .slice fa m.funcs.length fc] 26).alloc (.cells #[.slice none 0 0, .slice none 0 0] 26)).alloc (.cells #[] 2)).of_below hb1 (by omega)
  have or1 := ((Own.new' (w.alloc (.cells #[.slice ta m.thr.length tc, .slice fa m.funcs.length fc] 26)) [.slice none 0 0, .slice none 0 0] 26 (w.heap.size + 1) (by simp)).alloc (.cells #[] 2)).of_below hb1 (by omega)
  have hbw1 : Below w.heap.size w w1 := (by repeat (first | with_reducible exact Below.refl _ _ | with_reducible assumption | with_reducible refine Below.drew ?_ | with_reducible refine Below.drewN ?_ _ | with_reducible refine Below.alloc ?_ (by first | omega | (simp <;> omega) | (simp at * <;> omega)) _ | with_reducible refine Below.setCell ?_ (by first | omega | (simp <;> omega) | (simp at * <;> omega)) _ | (with_reducible refine Below.trans ?_ (Below.mono (by first | with_reducible assumption | exact hF _) (by first | omega | (simp <;> omega) | (simp at * <;> omega))))))
  have OB1 := Lib.hid ob1; clear ob1
  have OR1 := Lib.hid or1; clear or1
  have T1 := Lib.hid own1; clear own1
  go_wp2
  generalize hW0 : World.alloc _ _ = W0
  have hbw0 : Below w.heap.size w W0 := by rw [← hW0]; exact (by repeat (first | with_reducible exact Below.refl _ _ | with_reducible assumption | with_reducible refine Below.drew ?_ | with_reducible refine Below.drewN ?_ _ | with_reducible refine Below.alloc ?_ (by first | omega | (simp <;> omega) | (simp at * <;> omega)) _ | with_reducible refine Below.setCell ?_ (by first | omega | (simp <;> omega) | (simp at * <;> omega)) _ | (with_reducible refine Below.trans ?_ (Below.mono (by first | with_reducible assumption | exact hF _) (by first | omega | (simp <;> omega) | (simp at * <;> omega))))))
  have hk0 : Below w1.heap.size w1 W0 := by rw [← hW0]; exact (by repeat (first | with_reducible exact Below.refl _ _ | with_reducible assumption | with_reducible refine Below.drew ?_ | with_reducible refine Below.drewN ?_ _ | with_reducible refine Below.alloc ?_ (by first | omega | (simp <;> omega) | (simp at * <;> omega)) _ | with_reducible refine Below.setCell ?_ (by first | omega | (simp <;> omega) | (simp at * <;> omega)) _ | (with_reducible refine Below.trans ?_ (Below.mono (by first | with_reducible assumption | exact hF _) (by first | omega | (simp <;> omega) | (simp at * <;> omega))))))
  have OO := Lib.hid (show Own W0 w1.heap.size [.slice (some ⟨tb, 0, none⟩) m.thr.length tcap, .slice none 0 0] by rw [← hW0]; exact Own.new w1 _ _)
  have hM : W0.heap.size = w1.heap.size + 1 := by rw [← hW0]; simp
  clear hW0
  have OB := Lib.hid (OB1.out.below hk0)
  have OR := Lib.hid (OR1.out.below hk0)
  have TT := Lib.hid (ownsRow_chg (S := fun _ => False) (Chg.of hk0) T1.out (fun h => h))
  obtain ⟨M, hMe⟩ : ∃ M, M = W0.heap.size := ⟨_, rfl⟩
  go_loopw [4] (fun i wr => ∃ (k : Nat) (fv : Value) (zs : List (PFunc × K4)), k ≤ m.funcs.length ∧ i = .int .i64 k ∧ Below w.heap.size w wr ∧ M ≤ wr.heap.size ∧ Hid (zs.map (·.1) = m.funcs.take k) ∧ Hid (FnRow wr M fv zs) ∧ Hid (Own wr w1.heap.size [.slice (some ⟨tb, 0, none⟩) m.thr.length tcap, fv]) ∧ Hid (Own wr w.heap.size [.slice ta m.thr.length tc, .slice fa m.funcs.length fc]) ∧ Hid (Own wr (w.heap.size + 1) [.slice none 0 0, .slice none 0 0]) ∧ Hid (wr.ownsRow 0 2 1 (.slice (some ⟨tb, 0, none⟩) m.thr.length tcap) m.thr.length (Nums m.thr))) (fun i _ => m.funcs.length - (intOf i).toNat)
  case atStart =>
    exact ⟨0, .slice none 0 0, [], Nat.zero_le _, rfl, hbw0, by omega, Lib.hid (by simp), Lib.hid ⟨World.ownsRow_nil _ _ _ _, fun b h => by simp [Value.ownBlock] at h, fun z hz => by simp at hz, by simp⟩, OO, OB, OR, TT⟩
  case round =>
    obtain ⟨k, fv, zs, hk, rfl, hbel, hMr, hzs, hrow, hO, hB0, hR0, hT0⟩ := hrel
    obtain ⟨fa1, fc1, hfv⟩ : ∃ a c, fv = .slice a zs.length c := by
      rcases hrow.out.row.2 with ⟨e, e2⟩ | ⟨g', cap', cur, hv, _⟩
      · exact ⟨none, 0, by rw [e, e2]⟩
      · exact ⟨_, _, hv⟩
    have Hfv := Lib.hid hfv; clear hfv
    have ob := own2 hB0.out
    have oo := own2 hO.out
    have hzr := hO.out.1
    by_cases hlt : k < m.funcs.length
    · have d2 : (k : Int) < (m.funcs.length : Int) := by omega
      have hwk : IntKind.i64.wrap ((k : Int) + 1) = (k : Int) + 1 := IntWalk.i64_in _ (by omega)
      have hwk0 : IntKind.i64.wrap (k : Int) = (k : Int) := IntWalk.i64_in _ (by omega)
      obtain ⟨rfl, hfb⟩ := hfa (by omega)
      obtain ⟨⟨c0, c1, c2, c3, c4⟩, ok⟩ := Hcs.out k hlt
      have hc := (bcell hbel).1
      have u0 := (hc fb _ (by omega)).trans c0
      have u1 := (hc fb _ (by omega)).trans c1
      have u2 := (hc fb _ (by omega)).trans c2
      have u3 := (hc fb _ (by omega)).trans c3
      have u4 := (hc fb _ (by omega)).trans c4
      have hfbw : fb < wr.heap.size := by omega
      have sm : Same B w wr := Same.of hbel hB
      have hl3 := S3.out k hlt
      unfold fnAt at hl3
      have hcall := fun w1 h0 (hs : Same B w w1) => copyFunc_any B (m.funcs.getD k default) (H k) w1 h0 (ok.same hs) hl3.1 hl3.2
      have HC := Lib.hid hcall; clear hcall
      have hge : m.funcs[k]? = some (m.funcs.getD k default) := by simp [List.getD_eq_getElem?_getD, List.getElem?_eq_getElem hlt]
      have Hge := Lib.hid hge; clear hge
      clear hc c0 c1 c2 c3 c4 ok hl3
      unfold FuncVal at HC
      generalize m.funcs.getD k default = ff at *
      generalize H k = hh at *
      have hlen : zs.length = k := by have := congrArg List.length hzs.out; simp at this; omega
      have HL := Lib.hid hlen; clear hlen
      go_wp2_with (first
        | (go_at_call 25; refine (HC.out _ (by first | omega | (simp <;> omega) | (simp at * <;> omega)) (by repeat (first | with_reducible exact Same.refl _ _ | with_reducible assumption | with_reducible refine Same.drew ?_ | with_reducible refine Same.drewN ?_ _ | with_reducible refine Same.alloc ?_ (by first | omega | (simp <;> omega) | (simp at * <;> omega)) _ | with_reducible refine Same.setCell ?_ (by first | omega | (simp <;> omega) | (simp at * <;> omega)) _ | (with_reducible refine Same.trans ?_ (Same.of (by assumption) (by first | omega | (simp <;> omega) | (simp at * <;> omega))))))).mono ?_; rintro e w2 ⟨pb, pcap, cb, ccap, rfl, hb2, p1, p2, p3, r1, r2⟩; unfold copyV; have R1 := Lib.hid r1; clear r1; have R2 := Lib.hid r2; clear r2; have O2 := Lib.hid (hO.out.below hb2); have oo2 := own2 O2.out; have hz2 := hb2.size; have hzo : w1.heap.size < w2.heap.size := (by omega); dsimp only)
        | (at_builtin; refine wpList_append2 _ rfl (.tmp 25) (.tmp 27) 24 rfl 51 j0 (.agg #[.string ⟨#[]⟩, .slice none 0 0, .int .i64 0, .int .i64 0, .slice none 0 0]) 5 80 ?a3 ?a4 ?a5 ?a6 ?a7 ?a8 ?a9 fv zs.length (zs.flatMap fun z => fcell z.1 z.2) ?b1 ?b2 ⟨w2.heap.size + 1, 0, none⟩ 1 1 (fcell ff ⟨pb, pcap, cb, ccap⟩) ?b3 ?b4 ?b5 ?b6 ?b7 ?b8 ?b9))
      case a3 => exact Tryd.underlying24
      case a4 => exact gi
      case a5 => exact gz0
      case a6 => exact gz1
      case a7 => exact gz2
      case a8 => rfl
      case a9 => decide
      case b1 => rfl
      case b3 => rfl
      case b4 => rfl
      case b6 => intro u hu; simp only [fcell, List.mem_cons, List.not_mem_nil, or_false] at hu; rcases hu with rfl | rfl | rfl | rfl | rfl <;> rfl
      case b7 => have := HL.out; unfold maxLen; omega
      case b8 => have := HL.out; omega
      case b2 => exact ((hrow.out.chg (S := fun _ => False) (Chg.of hb2) (fun k h => h.elim)).chg (S := fun _ => False) (((Chg.refl _ _).alloc _).alloc _) (fun k h => h.elim)).row
      case b5 =>
        intro j u hu
        have hq := (Own.new' (w2.alloc (.cells #[.string ff.name, .slice (some ⟨pb, 0, none⟩) ff.params.length pcap, .int .i64 ff.regs, .int .i64 ff.words, .slice (some ⟨cb, 0, none⟩) ff.code.length ccap] 51)) (fcell ff ⟨pb, pcap, cb, ccap⟩) 51 (w2.heap.size + 1) (by simp)).2.1 j u hu
        rw [add0]; exact hq
      case b9 =>
        intro fv2 w4 hown4 hgr hnn
        obtain ⟨sb2, cap2, rfl⟩ : ∃ sb cap, fv2 = .slice (some ⟨sb, 0, none⟩) (zs.length + 1) cap := by
          rcases hown4.2 with ⟨_, h0⟩ | ⟨g', cap', cur, hv, _⟩
          · omega
          · exact ⟨g', cap', hv⟩
        have k3 : Chg (fun _ => False) w2 ((w2.alloc (.cells #[.string ff.name, .slice (some ⟨pb, 0, none⟩) ff.params.length pcap, .int .i64 ff.regs, .int .i64 ff.words, .slice (some ⟨cb, 0, none⟩) ff.code.length ccap] 51)).alloc (.cells #[.string ff.name, .slice (some ⟨pb, 0, none⟩) ff.params.length pcap, .int .i64 ff.regs, .int .i64 ff.words, .slice (some ⟨cb, 0, none⟩) ff.code.length ccap] 51)) := ((Chg.refl _ _).alloc _).alloc _
        have hsz3 : ((w2.alloc (.cells #[.string ff.name, .slice (some ⟨pb, 0, none⟩) ff.params.length pcap, .int .i64 ff.regs, .int .i64 ff.words, .slice (some ⟨cb, 0, none⟩) ff.code.length ccap] 51)).alloc (.cells #[.string ff.name, .slice (some ⟨pb, 0, none⟩) ff.params.length pcap, .int .i64 ff.regs, .int .i64 ff.words, .slice (some ⟨cb, 0, none⟩) ff.code.length ccap] 51)).heap.size = w2.heap.size + 1 + 1 := by simp
        generalize hW3 : World.alloc (World.alloc w2 _) _ = W3 at *
        have kr : Chg (fun _ => False) wr W3 := (Chg.of hb2).trans k3
        have hR3 := hrow.out.chg kr (fun k h => h.elim)
        have hx : FnGood W3 M ff ⟨pb, pcap, cb, ccap⟩ := FnGood.chg (S := fun _ => False) ⟨by simp only []; omega, by simp only []; omega, R1.out, R2.out⟩ k3 (fun h => h) (fun h => h)
        have hlt3 := hrow.out.row.lt
        have hP := hR3.push hx (fun b hb => by have := (hlt3 b hb).2; simp only []; omega) p3 (fun z hz => by have q1 : z.2.pb < wr.heap.size := ((hrow.out.each z hz).2.2.1.lt _ rfl).2; have q2 : z.2.cb < wr.heap.size := ((hrow.out.each z hz).2.2.2.lt _ rfl).2; simp only []; omega) (by omega) hown4 hgr (by rw [hsz3]; exact hnn)
        have k4 := chg_grown hgr
        have hfarM := fun b hb => (hrow.out.far b hb).1
        have hz4 := k4.size
        have o4 := k4.own ((k3.own O2.out (fun h => h))) (fun e => by have := hfarM _ e; omega)
        have b4 := k4.own (kr.own hB0.out (fun h => h)) (fun e => by have := hfarM _ e; omega)
        have r4 := k4.own (kr.own hR0.out (fun h => h)) (fun e => by have := hfarM _ e; omega)
        have t4 := ownsRow_chg k4 (ownsRow_chg kr hT0.out (fun h => h)) (fun e => by have := hfarM _ e; omega)
        have bel4 : Below w.heap.size w w4 := hbel.trans ((kr.below w.heap.size (by omega) (fun _ _ h => h)).trans (k4.below w.heap.size (by omega) (fun x hx e => by have := hfarM _ e; omega)))
        have oo4 := own2 o4
        have HP := Lib.hid hP; clear hP
        have O4 := Lib.hid o4; clear o4
        have B4 := Lib.hid b4; clear b4
        have R4 := Lib.hid r4; clear r4
        have T4 := Lib.hid t4; clear t4
        clear hown4 hx hR3 k3 kr k4 hgr hnn
        go_wp2
        go_roundw
        case rel =>
          have kc : Chg (fun x => x = w1.heap.size) w4 (w4.setCell ⟨w1.heap.size, 1, none⟩ (.slice (some ⟨sb2, 0, none⟩) (zs.length + 1) cap2)) := (Chg.refl (fun x => x = w1.heap.size) w4).setCell (p := ⟨w1.heap.size, 1, none⟩) (.inl rfl) _
          refine ⟨k + 1, _, zs ++ [(ff, ⟨pb, pcap, cb, ccap⟩)], by omega, by simp, bel4.trans (kc.below w.heap.size (by omega) (fun x hx e => by omega)), by simp; omega, Lib.hid ?_, Lib.hid (HP.out.chg kc (fun x e => by omega)), Lib.hid (O4.out.set 1 _ (by simp)), Lib.hid (kc.own B4.out (by omega)), Lib.hid (kc.own R4.out (by omega)), Lib.hid (ownsRow_chg kc T4.out (by omega))⟩
          rw [List.map_append, hzs.out, List.take_add_one, Hge.out]; rfl
        case measure => go_light; first | omega | (simp only [intOf]; omega)
    · have hkn : k = m.funcs.length := by omega
      subst hkn
      have d2 : ¬ (m.funcs.length : Int) < (m.funcs.length : Int) := by omega
      obtain rfl := Hfv.out
      have rr := own2 hR0.out
      have ss := set2 hR0.out
      go_wp2
      refine copy_end2 _ _ _ (w.heap.size + 1) _ _ ((hR0.out.set 0 _ (by simp)).set 1 _ (by simp)) rfl ?_
      have kc : Chg (fun x => x = w.heap.size + 1) wr ((wr.setCell ⟨w.heap.size + 1, 0, none⟩ (.slice (some ⟨tb, 0, none⟩) m.thr.length tcap)).setCell ⟨w.heap.size + 1, 1, none⟩ (.slice fa1 zs.length fc1)) :=
        ((Chg.refl (fun x => x = w.heap.size + 1) wr).setCell (p := ⟨w.heap.size + 1, 0, none⟩) (.inl rfl) _).setCell (p := ⟨w.heap.size + 1, 1, none⟩) (.inl rfl) _
      have hz := hbel.size
      refine ⟨M, tb, tcap, _, zs, rfl, hbel.trans (kc.below w.heap.size (by omega) (fun x hx e => by omega)), by simp; omega, by omega, by omega, ownsRow_chg kc hT0.out (by omega), ?_, hrow.out.chg kc (fun x e => by omega)⟩
      rw [hzs.out, List.take_length]
end Go.Proofs.YtgpdggjpbmgegaaDoor
