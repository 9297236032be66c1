/- The reference machine (R20): a frame more. -/
import Derived.Test.YtgpdggjpbmgegaaDoorMrH
import Derived.Test.YtgpdggjpbmgegaaDoorT
import Derived.Deep.RegionHeld3
import Derived.Deep.AppendLies
namespace Go.Proofs.YtgpdggjpbmgegaaDoor
open Go.RowKit
set_option linter.unusedVariables false
set_option linter.unusedSimpArgs false


theorem Tryd.infoFr : (Tryd.prog.info? 105).map (fun i => (i.zero, i.size, i.bytes)) = some (some (.agg #[.int .i64 0, .int .i64 0, .int .i64 0, .slice none 0 0, .slice none 0 0]), 5, 72) := by kernel_rfl

def EnterPost (xb k : Nat) (into : Int) (x : MC) (n : Nat) (ps : List Value) (xs : List Int) (R W : Nat) (w : World) (e : Ending) (w' : World) : Prop :=
  ∃ rb wb sb cap : Nat, e = .returned (.tuple #[]) ∧ Chg (fun j => j = xb ∨ x.fr.ownBlock = some j) w w' ∧
    Own w' xb { x with fr := .slice (some ⟨sb, 0, none⟩) (n + 1) cap, use := x.use + ((R : Int) + W), mf := max x.mf ((n : Int) + 1), mw := max x.mw (x.use + ((R : Int) + W)) }.cells ∧
    w'.ownsRow 0 105 5 (.slice (some ⟨sb, 0, none⟩) (n + 1) cap) (n + 1) (ps ++ [.int .i64 k, .int .i64 0, .int .i64 into, .slice (some ⟨rb, 0, none⟩) R R, .slice (some ⟨wb, 0, none⟩) W W]) ∧
    (x.fr.ownBlock = some sb ∨ w.heap.size ≤ sb) ∧ w.heap.size ≤ rb ∧ w.heap.size ≤ wb ∧ rb ≠ wb ∧ sb ≠ rb ∧ sb ≠ wb ∧ Own w' rb (Nums (xs ++ (List.replicate R 0).drop xs.length)) ∧ Own w' wb (Nums (List.replicate W 0))
theorem menter_close {xb k gg cap n R W rb wb : Nat} {into : Int} {x : MC} {ps : List Value} {xs : List Int} {w W3 We : World} (M X : Int) (hM : M = max x.mf ((n : Int) + 1)) (hX : X = max x.mw (x.use + ((R : Int) + W)))
    (k3 : Chg (fun j => j = xb ∨ x.fr.ownBlock = some j) w W3) (k5 : Chg (· = xb) W3 We) (hE : Own We xb { x with fr := .slice (some ⟨gg, 0, none⟩) (n + 1) cap, use := x.use + ((R : Int) + W), mf := M, mw := X }.cells)
    (hR3 : W3.ownsRow 0 105 5 (.slice (some ⟨gg, 0, none⟩) (n + 1) cap) (n + 1) (ps ++ [.int .i64 k, .int .i64 0, .int .i64 into, .slice (some ⟨rb, 0, none⟩) R R, .slice (some ⟨wb, 0, none⟩) W W])) (or3 : Own W3 rb (Nums (xs ++ (List.replicate R 0).drop xs.length))) (ow3 : Own W3 wb (Nums (List.replicate W 0)))
    (hsb : x.fr.ownBlock = some gg ∨ w.heap.size ≤ gg) (ne : rb ≠ xb ∧ wb ≠ xb ∧ gg ≠ xb) (n2 : w.heap.size ≤ rb) (n3 : w.heap.size ≤ wb) (n6 : rb ≠ wb) (n7 : gg ≠ rb ∧ gg ≠ wb) : EnterPost xb k into x n ps xs R W w (.returned (.tuple #[])) We := by
  subst hM hX
  exact ⟨rb, wb, gg, cap, rfl, k3.trans2 k5 (fun y _ e => .inl e), hE, ownsRow_chg k5 hR3 ne.2.2, hsb, n2, n3, n6, n7.1, n7.2, k5.own or3 ne.1, k5.own ow3 ne.2.1⟩

set_option maxRecDepth 100000 in
set_option maxHeartbeats 4000000 in
theorem menters_any (fsb fso k fl fc : Nat) (hh : HF) (f : PFunc) (xb : Nat) (x : MC) (w : World) (hg : FuncCells w fsb (fso + k * 5) hh f) (hgb : fsb < w.heap.size) (hfa : x.fa = some ⟨fsb, fso, none⟩) (hk : k < x.fl)
    (aa : Option Addr) (al ac : Nat) (xs : List Int) (ha : NumsAt w.heap.size w aa al xs) (into : Int) (R W : Nat) (hR : f.regs = R) (hW : f.words = W) (hR2 : R ≤ 64) (hW2 : W ≤ 4096) (hal : al ≤ R) (hx : Own w xb x.cells) (hkm : x.fl ≤ maxLen)
    (n : Nat) (ps : List Value) (hrow : w.ownsRow 0 105 5 x.fr n ps) (hfv : x.fr.ownBlock ≠ some xb) (hn : n ≤ 1048576) (hne : fsb ≠ xb) (hfvl : ∀ j, x.fr.ownBlock = some j → j ≠ fsb) (hu : 0 ≤ x.use ∧ x.use ≤ 1099511627776) :
    Calls Tryd.prog 52 #[.pointer (some ⟨xb, 0, none⟩), .int .i64 k, .int .i64 into, .slice aa al ac] w (EnterPost xb k into x n ps xs R W w) := by
  obtain ⟨g0, g1, g2, g3, g4⟩ := hg
  rw [hR] at g2
  rw [hW] at g3
  have hmr := run_make_row' (P := Tryd.prog) 23 2 (.int .i64 0) 8 Tryd.underlying23 Tryd.info64 rfl .i64 .i64 R (by omega) (by omega)
  have hmw := run_make_row' (P := Tryd.prog) 23 2 (.int .i64 0) 8 Tryd.underlying23 Tryd.info64 rfl .i64 .i64 W (by omega) (by omega)
  clear hR hW
  have o := own11 hx
  rw [hfa] at o
  obtain ⟨o0, _, o1, _⟩ := o
  have HX := Lib.hid hx; clear hx
  unfold maxLen at hkm
  go_enter Tryd.func52, Tryd.ntmps52
  go_upto_region 1 with (fail)
  generalize hW0 : World.alloc _ _ = W0
  have hb0 : Below w.heap.size w W0 := by rw [← hW0]; exact (by repeat (first | with_reducible exact Below.refl _ _ | with_reducible assumption | with_reducible refine Below.drew ?_ | with_reducible refine Below.drewN ?_ _ | with_reducible refine Below.alloc ?_ (by first | omega | (simp <;> omega) | (simp at * <;> omega)) _ | with_reducible refine Below.setCell ?_ (by first | omega | (simp <;> omega) | (simp at * <;> omega)) _ | (with_reducible refine Below.trans ?_ (Below.mono (by first | with_reducible assumption | exact hF _) (by first | omega | (simp <;> omega) | (simp at * <;> omega))))))
  have OF := (show Own W0 w.heap.size [.string f.name, .slice hh.pa hh.pl hh.pc, .int .i64 R, .int .i64 W, .slice hh.ca hh.cl hh.cc] by rw [← hW0]; exact Own.new _ _ _)
  clear hW0 o0 o1 g0 g1 g2 g3 g4
  have f5 := own5 OF
  have hz0 : w.heap.size < W0.heap.size := OF.1
  go_cut [9] (fun v wx => ∃ fb rb wb : Nat, v = .pointer (some ⟨fb, 0, none⟩) ∧ Below W0.heap.size W0 wx ∧ W0.heap.size ≤ fb ∧ W0.heap.size ≤ rb ∧ W0.heap.size ≤ wb ∧ fb ≠ rb ∧ fb ≠ wb ∧ rb ≠ wb ∧
    Own wx fb [.int .i64 k, .int .i64 0, .int .i64 into, .slice (some ⟨rb, 0, none⟩) R R, .slice (some ⟨wb, 0, none⟩) W W] ∧ Hid (wx.heap[rb]? = some (.cells (Nums (List.replicate R 0)).toArray 2 (0, 0))) ∧ Own wx wb (Nums (List.replicate W 0)))
  case first =>
    go_region
    all_goals
      go_wp2_with fail
      go_meet
      case rel =>
        first
        | (refine ⟨W0.heap.size, W0.heap.size + 1, W0.heap.size + 1 + 1, rfl, (by repeat (first | with_reducible exact Below.refl _ _ | with_reducible assumption | with_reducible refine Below.drew ?_ | with_reducible refine Below.drewN ?_ _ | with_reducible refine Below.alloc ?_ (by first | omega | (simp <;> omega) | (simp at * <;> omega)) _ | with_reducible refine Below.setCell ?_ (by first | omega | (simp <;> omega) | (simp at * <;> omega)) _ | (with_reducible refine Below.trans ?_ (Below.mono (by first | with_reducible assumption | exact hF _) (by first | omega | (simp <;> omega) | (simp at * <;> omega)))))), (by first | omega | (simp <;> omega) | (simp at * <;> omega)), (by first | omega | (simp <;> omega) | (simp at * <;> omega)), (by first | omega | (simp <;> omega) | (simp at * <;> omega)), (by first | omega | (simp <;> omega) | (simp at * <;> omega)), (by first | omega | (simp <;> omega) | (simp at * <;> omega)), (by first | omega | (simp <;> omega) | (simp at * <;> omega)), ?_, ?_, ?_⟩
           · first | exact (Own.new' _ _ _ _ (by simp)).drew | exact ((Own.new' _ _ _ _ (by simp)).alloc _).drew | exact (((Own.new' _ _ _ _ (by simp)).alloc _).alloc _).drew
           · first | exact heap_made _ R _ _ (by simp) | exact heap_keep (heap_made _ R _ _ (by simp)) _ | exact heap_keep (heap_keep (heap_made _ R _ _ (by simp)) _) _
           · first | exact (Own.made _ _ _ _ (by simp)).drew | exact ((Own.made _ _ _ _ (by simp)).alloc _).drew | exact (((Own.made _ _ _ _ (by simp)).alloc _).alloc _).drew)
        | (refine ⟨W0.heap.size, W0.heap.size + 1 + 1, W0.heap.size + 1, rfl, (by repeat (first | with_reducible exact Below.refl _ _ | with_reducible assumption | with_reducible refine Below.drew ?_ | with_reducible refine Below.drewN ?_ _ | with_reducible refine Below.alloc ?_ (by first | omega | (simp <;> omega) | (simp at * <;> omega)) _ | with_reducible refine Below.setCell ?_ (by first | omega | (simp <;> omega) | (simp at * <;> omega)) _ | (with_reducible refine Below.trans ?_ (Below.mono (by first | with_reducible assumption | exact hF _) (by first | omega | (simp <;> omega) | (simp at * <;> omega)))))), (by first | omega | (simp <;> omega) | (simp at * <;> omega)), (by first | omega | (simp <;> omega) | (simp at * <;> omega)), (by first | omega | (simp <;> omega) | (simp at * <;> omega)), (by first | omega | (simp <;> omega) | (simp at * <;> omega)), (by first | omega | (simp <;> omega) | (simp at * <;> omega)), (by first | omega | (simp <;> omega) | (simp at * <;> omega)), ?_, ?_, ?_⟩
           · first | exact (Own.new' _ _ _ _ (by simp)).drew | exact ((Own.new' _ _ _ _ (by simp)).alloc _).drew | exact (((Own.new' _ _ _ _ (by simp)).alloc _).alloc _).drew
           · first | exact heap_made _ R _ _ (by simp) | exact heap_keep (heap_made _ R _ _ (by simp)) _ | exact heap_keep (heap_keep (heap_made _ R _ _ (by simp)) _) _
           · first | exact (Own.made _ _ _ _ (by simp)).drew | exact ((Own.made _ _ _ _ (by simp)).alloc _).drew | exact (((Own.made _ _ _ _ (by simp)).alloc _).alloc _).drew)
        | (refine ⟨W0.heap.size + 1, W0.heap.size, W0.heap.size + 1 + 1, rfl, (by repeat (first | with_reducible exact Below.refl _ _ | with_reducible assumption | with_reducible refine Below.drew ?_ | with_reducible refine Below.drewN ?_ _ | with_reducible refine Below.alloc ?_ (by first | omega | (simp <;> omega) | (simp at * <;> omega)) _ | with_reducible refine Below.setCell ?_ (by first | omega | (simp <;> omega) | (simp at * <;> omega)) _ | (with_reducible refine Below.trans ?_ (Below.mono (by first | with_reducible assumption | exact hF _) (by first | omega | (simp <;> omega) | (simp at * <;> omega)))))), (by first | omega | (simp <;> omega) | (simp at * <;> omega)), (by first | omega | (simp <;> omega) | (simp at * <;> omega)), (by first | omega | (simp <;> omega) | (simp at * <;> omega)), (by first | omega | (simp <;> omega) | (simp at * <;> omega)), (by first | omega | (simp <;> omega) | (simp at * <;> omega)), (by first | omega | (simp <;> omega) | (simp at * <;> omega)), ?_, ?_, ?_⟩
           · first | exact (Own.new' _ _ _ _ (by simp)).drew | exact ((Own.new' _ _ _ _ (by simp)).alloc _).drew | exact (((Own.new' _ _ _ _ (by simp)).alloc _).alloc _).drew
           · first | exact heap_made _ R _ _ (by simp) | exact heap_keep (heap_made _ R _ _ (by simp)) _ | exact heap_keep (heap_keep (heap_made _ R _ _ (by simp)) _) _
           · first | exact (Own.made _ _ _ _ (by simp)).drew | exact ((Own.made _ _ _ _ (by simp)).alloc _).drew | exact (((Own.made _ _ _ _ (by simp)).alloc _).alloc _).drew)
        | (refine ⟨W0.heap.size + 1, W0.heap.size + 1 + 1, W0.heap.size, rfl, (by repeat (first | with_reducible exact Below.refl _ _ | with_reducible assumption | with_reducible refine Below.drew ?_ | with_reducible refine Below.drewN ?_ _ | with_reducible refine Below.alloc ?_ (by first | omega | (simp <;> omega) | (simp at * <;> omega)) _ | with_reducible refine Below.setCell ?_ (by first | omega | (simp <;> omega) | (simp at * <;> omega)) _ | (with_reducible refine Below.trans ?_ (Below.mono (by first | with_reducible assumption | exact hF _) (by first | omega | (simp <;> omega) | (simp at * <;> omega)))))), (by first | omega | (simp <;> omega) | (simp at * <;> omega)), (by first | omega | (simp <;> omega) | (simp at * <;> omega)), (by first | omega | (simp <;> omega) | (simp at * <;> omega)), (by first | omega | (simp <;> omega) | (simp at * <;> omega)), (by first | omega | (simp <;> omega) | (simp at * <;> omega)), (by first | omega | (simp <;> omega) | (simp at * <;> omega)), ?_, ?_, ?_⟩
           · first | exact (Own.new' _ _ _ _ (by simp)).drew | exact ((Own.new' _ _ _ _ (by simp)).alloc _).drew | exact (((Own.new' _ _ _ _ (by simp)).alloc _).alloc _).drew
           · first | exact heap_made _ R _ _ (by simp) | exact heap_keep (heap_made _ R _ _ (by simp)) _ | exact heap_keep (heap_keep (heap_made _ R _ _ (by simp)) _) _
           · first | exact (Own.made _ _ _ _ (by simp)).drew | exact ((Own.made _ _ _ _ (by simp)).alloc _).drew | exact (((Own.made _ _ _ _ (by simp)).alloc _).alloc _).drew)
        | (refine ⟨W0.heap.size + 1 + 1, W0.heap.size, W0.heap.size + 1, rfl, (by repeat (first | with_reducible exact Below.refl _ _ | with_reducible assumption | with_reducible refine Below.drew ?_ | with_reducible refine Below.drewN ?_ _ | with_reducible refine Below.alloc ?_ (by first | omega | (simp <;> omega) | (simp at * <;> omega)) _ | with_reducible refine Below.setCell ?_ (by first | omega | (simp <;> omega) | (simp at * <;> omega)) _ | (with_reducible refine Below.trans ?_ (Below.mono (by first | with_reducible assumption | exact hF _) (by first | omega | (simp <;> omega) | (simp at * <;> omega)))))), (by first | omega | (simp <;> omega) | (simp at * <;> omega)), (by first | omega | (simp <;> omega) | (simp at * <;> omega)), (by first | omega | (simp <;> omega) | (simp at * <;> omega)), (by first | omega | (simp <;> omega) | (simp at * <;> omega)), (by first | omega | (simp <;> omega) | (simp at * <;> omega)), (by first | omega | (simp <;> omega) | (simp at * <;> omega)), ?_, ?_, ?_⟩
           · first | exact (Own.new' _ _ _ _ (by simp)).drew | exact ((Own.new' _ _ _ _ (by simp)).alloc _).drew | exact (((Own.new' _ _ _ _ (by simp)).alloc _).alloc _).drew
           · first | exact heap_made _ R _ _ (by simp) | exact heap_keep (heap_made _ R _ _ (by simp)) _ | exact heap_keep (heap_keep (heap_made _ R _ _ (by simp)) _) _
           · first | exact (Own.made _ _ _ _ (by simp)).drew | exact ((Own.made _ _ _ _ (by simp)).alloc _).drew | exact (((Own.made _ _ _ _ (by simp)).alloc _).alloc _).drew)
        | (refine ⟨W0.heap.size + 1 + 1, W0.heap.size + 1, W0.heap.size, rfl, (by repeat (first | with_reducible exact Below.refl _ _ | with_reducible assumption | with_reducible refine Below.drew ?_ | with_reducible refine Below.drewN ?_ _ | with_reducible refine Below.alloc ?_ (by first | omega | (simp <;> omega) | (simp at * <;> omega)) _ | with_reducible refine Below.setCell ?_ (by first | omega | (simp <;> omega) | (simp at * <;> omega)) _ | (with_reducible refine Below.trans ?_ (Below.mono (by first | with_reducible assumption | exact hF _) (by first | omega | (simp <;> omega) | (simp at * <;> omega)))))), (by first | omega | (simp <;> omega) | (simp at * <;> omega)), (by first | omega | (simp <;> omega) | (simp at * <;> omega)), (by first | omega | (simp <;> omega) | (simp at * <;> omega)), (by first | omega | (simp <;> omega) | (simp at * <;> omega)), (by first | omega | (simp <;> omega) | (simp at * <;> omega)), (by first | omega | (simp <;> omega) | (simp at * <;> omega)), ?_, ?_, ?_⟩
           · first | exact (Own.new' _ _ _ _ (by simp)).drew | exact ((Own.new' _ _ _ _ (by simp)).alloc _).drew | exact (((Own.new' _ _ _ _ (by simp)).alloc _).alloc _).drew
           · first | exact heap_made _ R _ _ (by simp) | exact heap_keep (heap_made _ R _ _ (by simp)) _ | exact heap_keep (heap_keep (heap_made _ R _ _ (by simp)) _) _
           · first | exact (Own.made _ _ _ _ (by simp)).drew | exact ((Own.made _ _ _ _ (by simp)).alloc _).drew | exact (((Own.made _ _ _ _ (by simp)).alloc _).alloc _).drew)
  case rest =>
    obtain ⟨fb, rb, wb, rfl, hbel, n1, n2, n3, n4, n5, n6, of, orr, ow⟩ := hcut
    have q5 := own5 of
    obtain ⟨hxl, hxm, ab, ao, haa, hxs⟩ := ha
    subst hxl
    have hbw := hb0.trans (Below.mono hbel (by omega))
    have hcc := (bcell hbw).1
    go_wp2_with (with_reducible refine wpList_copy2 rfl (.tmp 28) (.tmp 29) 23 23 rfl 2 Tryd.underlying23 Tryd.one64 _ _ _ _ _ _ rfl rfl rb 0 (Nums (List.replicate R 0)) 2 orr.out (Nums xs) ?c1 ?c2 ?c3 (Nums_one _) ?_)
    case c1 => rw [show Nat.min xs.length R = xs.length from Nat.min_eq_left hal]; simp [Nums]
    case c2 =>
      intro hpos
      obtain ⟨h1, h2⟩ := haa (by simpa [Nums] using hpos)
      refine ⟨⟨ab, ao, none⟩, h1, ?_⟩
      intro j v hv
      have hjl : j < xs.length := by have := (List.getElem?_eq_some_iff.1 hv).1; simpa [Nums] using this
      have e : (⟨ab, ao, none⟩ : Addr).add j = ⟨ab, ao + j, none⟩ := by unfold Addr.add; split <;> simp_all
      rw [e, hcc _ _ h2, (hxs j hjl).1]
      simp [Nums, hjl] at hv
      simp [List.getD_eq_getElem?_getD, hjl, hv]
    case c3 => simp [Nums]; omega
    intro w1 hw1 hch
    have hsp : splice (Nums (List.replicate R 0)) 0 (Nums xs) = Nums (xs ++ (List.replicate R 0).drop xs.length) := by simp [splice, Nums]
    rw [hsp] at hw1
    have of1 := hch.own of n4
    have ow1 := hch.own ow (Ne.symm n6)
    have hX1 := hch.own (HX.out.below hbw) (by have := HX.out.1; omega)
    have hF1 := hch.own (OF.below hbel) (by omega)
    have hlt : ∀ j, x.fr.ownBlock = some j → j < w.heap.size := fun j hj => (hrow.lt j hj).2
    have hrow1 := ownsRow_chgV hch (ownsRow_chgV (S := fun _ => False) (Chg.of hbw) hrow (fun _ _ h => h)) (fun j hj => by have := hlt j hj; omega)
    have hcg : Chg (fun j => j = rb) w w1 := (Chg.of hbw).trans2 hch (fun y hy e => e)
    have hz1 := hch.size
    have hzb := hbel.size
    have o := own11 hX1
    have fz2 := hX1.2.2 2
    have q5 := own5 of1
    have hrbl : rb < w1.heap.size := (Own.ofHeap hw1.out).1
    obtain ⟨i0, hi, iz0, iz1, iz2⟩ := info_parts Tryd.infoFr
    have HX1 := Lib.hid hX1; clear hX1
    have HF1 := Lib.hid hF1; clear hF1
    have HRw := Lib.hid hrow1; clear hrow1
    have HO := Lib.hid of1; clear of1 of
    go_wp2_with fail
    have hxl1 : xb < w1.heap.size := HX1.out.1
    have ofr : w1.cell? ⟨xb, 2, none⟩ = some x.fr := HX1.out.2.1 2 _ rfl
    have hfv2 := hfv
    have hfbl : fb < w1.heap.size := q5.1
    have q50 := HO.out.2.1 0 _ rfl
    have q51 := HO.out.2.1 1 _ rfl
    have q52 := HO.out.2.1 2 _ rfl
    have q53 := HO.out.2.1 3 _ rfl
    have q54 := HO.out.2.1 4 _ rfl
    have hfbn : x.fr.ownBlock ≠ some fb := fun e => by have := hlt _ e; omega
    have ou : w1.cell? ⟨xb, 4, none⟩ = some (.int .i64 x.use) := HX1.out.2.1 4 _ rfl
    clear o
    go_region_law
      ((refine step_append_lies _ (by rfl) _ _ _ (by rfl) 0 105 i0 _ 5 72 Tryd.underlying67 hi iz0 iz1 iz2 rfl (by decide) x.fr n ps (by rfl) ((HRw.out.alloc _).drew) ⟨w1.heap.size, 0, none⟩ 1 1 [.int .i64 k, .int .i64 0, .int .i64 into, .slice (some ⟨rb, 0, none⟩) R R, .slice (some ⟨wb, 0, none⟩) W W] (by rfl) (by rfl) (World.news_of_block (cs := #[.int .i64 k, .int .i64 0, .int .i64 into, .slice (some ⟨rb, 0, none⟩) R R, .slice (some ⟨wb, 0, none⟩) W W]) (t := 105) (fr := (0, 0)) (heap_alloc_new w1 _)) (by simp [Value.oneCell']) (by omega) (by unfold maxLen; omega) (by omega) (Nat.zero_le _) (w1.heap.size + 1) (by simp) ?_; intro gg cap w5 hown5 hgrow hat hlt5; have hkb := ((Below.refl w1.heap.size w1).alloc (Nat.le_refl _) (.cells #[.int .i64 k, .int .i64 0, .int .i64 into, .slice (some ⟨rb, 0, none⟩) R R, .slice (some ⟨wb, 0, none⟩) W W] 105)).drew; have hug5 := (hgrow.cell_far ⟨xb, 2, none⟩ (by simp; omega) (by intro e; exact hfv2 e.symm)).trans ((hkb.cell (p := ⟨xb, 2, none⟩) hxl1).trans ofr); have hfg5 := (hgrow.frozen_far ⟨xb, 2, none⟩ (by simp; omega) (by intro e; exact hfv2 e.symm)).trans ((hkb.frozen (p := ⟨xb, 2, none⟩) hxl1).trans fz2); have h50 := (hgrow.cell_far ⟨fb, 0, none⟩ (by simp; omega) (by intro e; exact hfbn e.symm)).trans ((hkb.cell (p := ⟨fb, 0, none⟩) hfbl).trans q50); have h51 := (hgrow.cell_far ⟨fb, 1, none⟩ (by simp; omega) (by intro e; exact hfbn e.symm)).trans ((hkb.cell (p := ⟨fb, 1, none⟩) hfbl).trans q51); have h52 := (hgrow.cell_far ⟨fb, 2, none⟩ (by simp; omega) (by intro e; exact hfbn e.symm)).trans ((hkb.cell (p := ⟨fb, 2, none⟩) hfbl).trans q52); have h53 := (hgrow.cell_far ⟨fb, 3, none⟩ (by simp; omega) (by intro e; exact hfbn e.symm)).trans ((hkb.cell (p := ⟨fb, 3, none⟩) hfbl).trans q53); have h54 := (hgrow.cell_far ⟨fb, 4, none⟩ (by simp; omega) (by intro e; exact hfbn e.symm)).trans ((hkb.cell (p := ⟨fb, 4, none⟩) hfbl).trans q54)))
    all_goals
      have c2 : Chg (fun j => x.fr.ownBlock = some j) w1 w5 := (((Chg.refl _ _).alloc _).drew).trans (chg_grown hgrow)
      have hsb : x.fr.ownBlock = some gg ∨ w1.heap.size ≤ gg := by rcases hat with h | h <;> first | exact .inl h | (right; omega)
      have hX5 := c2.own HX1.out hfv
      have hF5 := c2.own HF1.out (fun e => by have := hlt _ e; omega)
      have ow5 := c2.own ow1 (fun e => by have := hlt _ e; omega)
      have or5 := c2.own (Own.ofHeap hw1.out) (fun e => by have := hlt _ e; omega)
      generalize hW3 : World.setCell w5 _ _ = W3
      have hX3 : Own W3 xb { x with fr := .slice (some ⟨gg, 0, none⟩) (n + 1) cap }.cells := by rw [← hW3]; exact hX5.set 2 _ (by simp [MC.cells])
      have neb : w.heap.size ≠ xb ∧ rb ≠ xb ∧ wb ≠ xb := by have := HX.out.1; omega
      have hF3 := hF5.setOther (p := ⟨xb, 2, none⟩) (.slice (some ⟨gg, 0, none⟩) (n + 1) cap) (by simpa using neb.1.symm)
      rw [hW3] at hF3
      have or3 := or5.setOther (p := ⟨xb, 2, none⟩) (.slice (some ⟨gg, 0, none⟩) (n + 1) cap) (by simpa using neb.2.1.symm)
      rw [hW3] at or3
      have ow3 := ow5.setOther (p := ⟨xb, 2, none⟩) (.slice (some ⟨gg, 0, none⟩) (n + 1) cap) (by simpa using neb.2.2.symm)
      rw [hW3] at ow3
      have ngx : gg ≠ xb := by rcases hsb with h | h
                               · intro e; subst e; exact hfv h
                               · omega
      have n7 : gg ≠ rb ∧ gg ≠ wb := by rcases hat with h | h
                                        · have := hlt _ h; omega
                                        · have := ow1.1; omega
      have hR3 : W3.ownsRow 0 105 5 (.slice (some ⟨gg, 0, none⟩) (n + 1) cap) (n + 1) (ps ++ [.int .i64 k, .int .i64 0, .int .i64 into, .slice (some ⟨rb, 0, none⟩) R R, .slice (some ⟨wb, 0, none⟩) W W]) := by
        rw [← hW3]; exact ownsRow_setCell_other hown5 (by simpa [Value.ownBlock] using ngx) _
      have k3 : Chg (fun j => j = xb ∨ x.fr.ownBlock = some j) w W3 := by
        rw [← hW3]
        exact ((((Chg.of hbw).trans2 hch (fun y hy e => by omega)).trans2 c2 (fun y hy e => .inr e)).setCell (p := ⟨xb, 2, none⟩) (.inl (.inl rfl)) _)
      have hsb2 : x.fr.ownBlock = some gg ∨ w.heap.size ≤ gg := hsb.imp id (fun h => by have := hcg.size; omega)
      have HC := Lib.hid (fun (We : World) (M X : Int) hM hX k5 hE => menter_close (xb := xb) (k := k) (into := into) (ps := ps) (xs := xs) (We := We) M X hM hX k3 k5 hE hR3 or3 ow3 hsb2 ⟨neb.2.1, neb.2.2, ngx⟩ (by omega) (by omega) n6 n7)
      clear hR3 k3 hsb2 hsb hat hown5 hgrow c2
      have o3 := own11 hX3
      have fz3 := hX3.2.2
      have p5 := own5 hF3
      have hwa : IntKind.i64.wrap ((R : Int) + (W : Int)) = (R : Int) + (W : Int) := IntWalk.i64_in _ (by omega)
      have hwb : IntKind.i64.wrap (x.use + ((R : Int) + (W : Int))) = x.use + ((R : Int) + (W : Int)) := IntWalk.i64_in _ (by omega)
      have HX3 := Lib.hid hX3
      clear hX3 hX5 hF5 ow5 or5 hug5 hfg5 h50 h51 h52 h53 h54 q50 q51 q52 q53 q54 hkb
      dsimp only at o3
      go_wp2
      refine wp_still 12 (by kernel_rfl) (by kernel_rfl) ?_; simp only [List.take_succ_cons, List.take_zero, List.drop_succ_cons, List.drop_zero]; repeat (refine WS_step (fun K hK => ?_); go_simp; refine hK _ ?_; clear hK K)
      refine WS_nil ?_; go_wp2
      refine wp_still 10 (by kernel_rfl) (by kernel_rfl) ?_; simp only [List.take_succ_cons, List.take_zero, List.drop_succ_cons, List.drop_zero]; repeat (refine WS_step (fun K hK => ?_); go_simp; refine hK _ ?_; clear hK K)
      refine WS_nil ?_; go_wp2
      all_goals
        generalize hW5 : World.drew _ = W5
        have k5 : Chg (· = xb) W3 W5 := by rw [← hW5]; exact (by repeat (first | with_reducible exact Chg.refl _ _ | with_reducible assumption | with_reducible refine Chg.drew ?_ | with_reducible refine Chg.drewN ?_ _ | with_reducible refine Chg.alloc ?_ _ | with_reducible refine Chg.setCell ?_ (by first | with_reducible exact .inl rfl | exact .inl (.inl rfl) | exact .inl (.inr rfl) | exact .inr (by simp)) _ | (with_reducible refine Chg.trans ?_ (Chg.of (by first | with_reducible assumption | exact hF _)))))
        obtain ⟨M, hM, hE5⟩ : ∃ M, M = max x.mf ((n : Int) + 1) ∧ Own W5 xb { x with fr := .slice (some ⟨gg, 0, none⟩) (n + 1) cap, use := x.use + ((R : Int) + W), mf := M }.cells := by
          rw [← hW5]
          first
            | exact ⟨(n : Int) + 1, by go_light; omega, ((HX3.out.set 4 (.int .i64 (x.use + ((R : Int) + W))) (by simp [MC.cells])).set 8 (.int .i64 ((n : Int) + 1)) (by simp [MC.cells])).drew.drew⟩
            | exact ⟨x.mf, by go_light; omega, ((HX3.out.set 4 (.int .i64 (x.use + ((R : Int) + W))) (by simp [MC.cells]))).drew.drew⟩
        clear hW5 o3 fz3
        have o5 := own11 hE5
        have fz5 := hE5.2.2 9
        dsimp only at o5
        have HE5 := Lib.hid hE5
        clear hE5
        have HM := Lib.hid hM; clear hM
        refine wp_still 9 (by kernel_rfl) (by kernel_rfl) ?_; simp only [List.take_succ_cons, List.take_zero, List.drop_succ_cons, List.drop_zero]; repeat (refine WS_step (fun K hK => ?_); go_simp; refine hK _ ?_; clear hK K)
        refine WS_nil ?_; go_wp2
      all_goals
        go_end0
        go_light
        first
          | exact HC.out _ _ (x.use + ((R : Int) + W)) HM.out (by go_light; omega) (k5.trans (by repeat (first | with_reducible exact Chg.refl _ _ | with_reducible assumption | with_reducible refine Chg.drew ?_ | with_reducible refine Chg.drewN ?_ _ | with_reducible refine Chg.alloc ?_ _ | with_reducible refine Chg.setCell ?_ (by first | with_reducible exact .inl rfl | exact .inl (.inl rfl) | exact .inl (.inr rfl) | exact .inr (by simp)) _ | (with_reducible refine Chg.trans ?_ (Chg.of (by first | with_reducible assumption | exact hF _)))))) ((HE5.out.set 9 (.int .i64 (x.use + ((R : Int) + W))) (by simp [MC.cells])).drew)
          | exact HC.out _ _ x.mw HM.out (by go_light; omega) (k5.trans (by repeat (first | with_reducible exact Chg.refl _ _ | with_reducible assumption | with_reducible refine Chg.drew ?_ | with_reducible refine Chg.drewN ?_ _ | with_reducible refine Chg.alloc ?_ _ | with_reducible refine Chg.setCell ?_ (by first | with_reducible exact .inl rfl | exact .inl (.inl rfl) | exact .inl (.inr rfl) | exact .inr (by simp)) _ | (with_reducible refine Chg.trans ?_ (Chg.of (by first | with_reducible assumption | exact hF _)))))) (HE5.out.drew)
end Go.Proofs.YtgpdggjpbmgegaaDoor
