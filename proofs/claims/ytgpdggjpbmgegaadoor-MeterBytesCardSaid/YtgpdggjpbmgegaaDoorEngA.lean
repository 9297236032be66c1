import Derived.Test.YtgpdggjpbmgegaaDoorHeap
import Derived.Test.YtgpdggjpbmgegaaDoorMach
import Derived.RegionTactic
import Derived.BigRegion
import Derived.Deep.RegionWith
import Derived.IntWalk
import Derived.StillTailTactics
import Derived.Outline
namespace Go.Proofs.YtgpdggjpbmgegaaDoor
open Go.RowKit
set_option linter.unusedVariables false
set_option linter.unusedSimpArgs false


/-- all blocks that were there, but those of S, are as they were -/
structure Chg (S : Nat → Prop) (w w' : World) : Prop where
  os : w'.os = w.os
  tape : w'.tape = w.tape
  output : w'.output = w.output
  size : w.heap.size ≤ w'.heap.size
  block : ∀ k, k < w.heap.size → ¬ S k → w'.heap[k]? = w.heap[k]?
theorem Chg.refl (S : Nat → Prop) (w : World) : Chg S w w := ⟨rfl, rfl, rfl, Nat.le_refl _, fun _ _ _ => rfl⟩
theorem Chg.alloc {S : Nat → Prop} {a w : World} (h : Chg S a w) (o : Obj) : Chg S a (w.alloc o) :=
  ⟨h.os, h.tape, h.output, by have := h.size; simp; omega, fun k hk hs => by rw [Below.heap_alloc _ _ _ (by have := h.size; omega)]; exact h.block k hk hs⟩
theorem Chg.drew {S : Nat → Prop} {a w : World} (h : Chg S a w) : Chg S a w.drew := ⟨h.os, h.tape, h.output, h.size, h.block⟩
theorem Chg.drewN {S : Nat → Prop} {a w : World} (h : Chg S a w) (n : Nat) : Chg S a (w.drewN n) := ⟨h.os, h.tape, h.output, h.size, h.block⟩
theorem Chg.setCell {S : Nat → Prop} {a w : World} (h : Chg S a w) {p : Addr} (hp : S p.block ∨ a.heap.size ≤ p.block) (u : Value) : Chg S a (w.setCell p u) :=
  ⟨h.os, h.tape, h.output, by have := h.size; simpa using this, fun k hk hs => by rw [Below.heap_setCell _ _ _ _ (by rcases hp with hp | hp <;> intro e <;> subst e <;> first | exact hs hp | omega)]; exact h.block k hk hs⟩
theorem Chg.trans {S : Nat → Prop} {a b c : World} (h : Chg S a b) (k : Chg S b c) : Chg S a c :=
  ⟨k.os.trans h.os, k.tape.trans h.tape, k.output.trans h.output, Nat.le_trans h.size k.size, fun i hi hs => (k.block i (Nat.lt_of_lt_of_le hi h.size) hs).trans (h.block i hi hs)⟩
theorem Chg.mono {S T : Nat → Prop} {a b : World} (h : Chg S a b) (hst : ∀ k, k < a.heap.size → S k → T k) : Chg T a b := ⟨h.os, h.tape, h.output, h.size, fun i hi hs => h.block i hi (fun x => hs (hst i hi x))⟩
theorem Chg.of {S : Nat → Prop} {w w' : World} (h : Below w.heap.size w w') : Chg S w w' := ⟨h.os, h.tape, h.output, h.size, fun k hk _ => h.block k hk⟩
theorem Chg.below {S : Nat → Prop} {w w' : World} (h : Chg S w w') (B : Nat) (hB : B ≤ w.heap.size) (hs : ∀ k, k < B → ¬ S k) : Below B w w' := ⟨h.os, h.tape, h.output, h.size, fun k hk => h.block k (by omega) (hs k hk)⟩
theorem Chg.own {S : Nat → Prop} {w w' : World} (h : Chg S w w') {k : Nat} {cs : List Value} (o : Own w k cs) (hk : ¬ S k) : Own w' k cs := by
  have hb := h.block k o.1 hk
  exact ⟨Nat.lt_of_lt_of_le o.1 h.size, fun i v hv => by rw [World.cell?_of_block (w := w) hb]; exact o.2.1 i v hv, fun i => by rw [World.frozen?_of_block (w := w) hb]; exact o.2.2 i⟩
theorem Chg.same {S : Nat → Prop} {w w' : World} (h : Chg S w w') {B : Nat} (hB : B ≤ w.heap.size) (hs : ∀ k, k < B → ¬ S k) : Same B w w' := Same.of' (h.below B hB hs)

def Nums (l : List Int) : List Value := l.map (Value.int .i64)
theorem Nums_some {l : List Int} {i : Nat} {v : Int} (h : l[i]? = some v) : (Nums l)[i]? = some (.int .i64 v) := by simp [Nums, h]
theorem Own.num {w : World} {k : Nat} {l : List Int} (h : Own w k (Nums l)) {i : Nat} {v : Int} (hi : l[i]? = some v) : w.cell? ⟨k, i, none⟩ = some (.int .i64 v) := h.2.1 i _ (Nums_some hi)
theorem Own.setNum {w : World} {k : Nat} {l : List Int} (h : Own w k (Nums l)) (i : Nat) (n : Int) (hi : i < l.length) : Own (w.setCell ⟨k, i, none⟩ (.int .i64 n)) k (Nums (l.set i n)) := by
  have := h.set i (.int .i64 n) (by simpa [Nums] using hi)
  simpa [Nums] using this
theorem some_lt {l : List Int} {i : Nat} {v : Int} (h : l[i]? = some v) : i < l.length := (List.getElem?_eq_some_iff.1 h).1

set_option maxHeartbeats 400000 in
theorem set_any (eb fb rb : Nat) (p wv : Value) (at_ into : Int) (regs : List Int) (w : World) (hf : Own w fb [p, .int .i64 at_, .int .i64 into, .slice (some ⟨rb, 0, none⟩) regs.length regs.length, wv]) (hr : Own w rb (Nums regs)) (hm : regs.length ≤ 64) (op n va : Int) (a b c : Nat) (ha : regs[a]? = some va) :
    Calls Tryd.prog 62 #[.pointer (some ⟨eb, 0, none⟩), .pointer (some ⟨fb, 0, none⟩), InsVal ⟨op, a, b, c, n⟩] w fun e w' => e = .returned (.tuple #[]) ∧ Chg (· = rb) w w' ∧ Own w' rb (Nums (regs.set a n)) := by
  unfold InsVal
  dsimp only
  have f5 := own5 hf
  have r1 := fun i => hr.2.2 i
  have r2 := hr.1
  have hff : fb < w.heap.size := hf.1
  have la := some_lt ha
  have r0 := hr.num ha
  go_enter Tryd.func62, Tryd.ntmps62
  go_wp2
  go_region
  all_goals (go_end0; go_light; exact ⟨rfl, (by repeat (first | with_reducible exact Chg.refl _ _ | with_reducible assumption | with_reducible refine Chg.drew ?_ | with_reducible refine Chg.drewN ?_ _ | with_reducible refine Chg.alloc ?_ _ | with_reducible refine Chg.setCell ?_ (by first | with_reducible exact .inl rfl | exact .inl (.inl rfl) | exact .inl (.inr rfl) | exact .inr (by simp)) _ | (with_reducible refine Chg.trans ?_ (Chg.of (by first | with_reducible assumption | exact hF _))))), (by repeat (first | with_reducible assumption | with_reducible refine Own.drew ?_ | with_reducible refine Own.drewN ?_ _ | with_reducible refine Own.alloc ?_ _ | (with_reducible refine Own.setNum ?_ _ _ (by omega)) | (with_reducible refine Own.setOther ?_ _ (by simp; omega)) | (with_reducible refine Own.below ?_ (hF _))))⟩)

set_option maxHeartbeats 1000000 in
theorem move_any (eb fb rb : Nat) (p wv : Value) (at_ into : Int) (regs : List Int) (w : World) (hf : Own w fb [p, .int .i64 at_, .int .i64 into, .slice (some ⟨rb, 0, none⟩) regs.length regs.length, wv]) (hr : Own w rb (Nums regs)) (hm : regs.length ≤ 64) (op n va vb : Int) (a b c : Nat) (ha : regs[a]? = some va) (hb : regs[b]? = some vb) :
    Calls Tryd.prog 63 #[.pointer (some ⟨eb, 0, none⟩), .pointer (some ⟨fb, 0, none⟩), InsVal ⟨op, a, b, c, n⟩] w fun e w' => e = .returned (.tuple #[]) ∧ Chg (· = rb) w w' ∧ Own w' rb (Nums (regs.set a vb)) := by
  unfold InsVal
  dsimp only
  have f5 := own5 hf
  have r1 := fun i => hr.2.2 i
  have r2 := hr.1
  have hff : fb < w.heap.size := hf.1
  have la := some_lt ha
  have lb := some_lt hb
  have r0 := hr.num ha
  have r3 := hr.num hb
  go_enter Tryd.func63, Tryd.ntmps63
  go_wp2
  go_region
  all_goals (go_end0; go_light; exact ⟨rfl, (by repeat (first | with_reducible exact Chg.refl _ _ | with_reducible assumption | with_reducible refine Chg.drew ?_ | with_reducible refine Chg.drewN ?_ _ | with_reducible refine Chg.alloc ?_ _ | with_reducible refine Chg.setCell ?_ (by first | with_reducible exact .inl rfl | exact .inl (.inl rfl) | exact .inl (.inr rfl) | exact .inr (by simp)) _ | (with_reducible refine Chg.trans ?_ (Chg.of (by first | with_reducible assumption | exact hF _))))), (by repeat (first | with_reducible assumption | with_reducible refine Own.drew ?_ | with_reducible refine Own.drewN ?_ _ | with_reducible refine Own.alloc ?_ _ | (with_reducible refine Own.setNum ?_ _ _ (by omega)) | (with_reducible refine Own.setOther ?_ _ (by simp; omega)) | (with_reducible refine Own.below ?_ (hF _))))⟩)

set_option maxHeartbeats 1000000 in
theorem sum_any (eb fb rb : Nat) (p wv : Value) (at_ into : Int) (regs : List Int) (w : World) (hf : Own w fb [p, .int .i64 at_, .int .i64 into, .slice (some ⟨rb, 0, none⟩) regs.length regs.length, wv]) (hr : Own w rb (Nums regs)) (hm : regs.length ≤ 64) (op n va vb vc : Int) (a b c : Nat) (ha : regs[a]? = some va) (hb : regs[b]? = some vb) (hc : regs[c]? = some vc) (ho : op = 3 ∨ op = 4 ∨ op = 5) :
    Calls Tryd.prog 64 #[.pointer (some ⟨eb, 0, none⟩), .pointer (some ⟨fb, 0, none⟩), InsVal ⟨op, a, b, c, n⟩] w fun e w' => e = .returned (.tuple #[]) ∧ Chg (· = rb) w w' ∧ Own w' rb (Nums (regs.set a (numV op vb vc))) := by
  unfold InsVal
  dsimp only
  have f5 := own5 hf
  have r1 := fun i => hr.2.2 i
  have r2 := hr.1
  have hff : fb < w.heap.size := hf.1
  have la := some_lt ha
  have lb := some_lt hb
  have lc := some_lt hc
  have r0 := hr.num ha
  have r3 := hr.num hb
  have r4 := hr.num hc
  rcases ho with rfl | rfl | rfl
  all_goals
    go_enter Tryd.func64, Tryd.ntmps64
    go_wp2
    go_region
    all_goals (go_wp2; go_region)
    all_goals (go_wp2; go_end0; go_light; refine ⟨rfl, (by repeat (first | with_reducible exact Chg.refl _ _ | with_reducible assumption | with_reducible refine Chg.drew ?_ | with_reducible refine Chg.drewN ?_ _ | with_reducible refine Chg.alloc ?_ _ | with_reducible refine Chg.setCell ?_ (by first | with_reducible exact .inl rfl | exact .inl (.inl rfl) | exact .inl (.inr rfl) | exact .inr (by simp)) _ | (with_reducible refine Chg.trans ?_ (Chg.of (by first | with_reducible assumption | exact hF _))))), ?_⟩)
    all_goals first | rw [show numV 3 vb vc = wrap64 (vb + vc) from by simp [numV]] | rw [show numV 4 vb vc = wrap64 (vb - vc) from by simp [numV]] | rw [show numV 5 vb vc = wrap64 (vb * vc) from by simp [numV]]
    all_goals exact (by repeat (first | with_reducible assumption | with_reducible refine Own.drew ?_ | with_reducible refine Own.drewN ?_ _ | with_reducible refine Own.alloc ?_ _ | (with_reducible refine Own.setNum ?_ _ _ (by omega)) | (with_reducible refine Own.setOther ?_ _ (by simp; omega)) | (with_reducible refine Own.below ?_ (hF _))))

set_option maxHeartbeats 400000 in
theorem truth_any (b : Bool) (w : World) : Calls Tryd.prog 80 #[.bool b] w fun e w' => e = .returned (.int .i64 (truthZ b)) ∧ w = w' := by
  cases b
  all_goals
    go_enter Tryd.func80, Tryd.ntmps80
    go_wp2
    go_ret
    exact ⟨rfl, rfl⟩

set_option maxRecDepth 100000 in
set_option maxHeartbeats 1000000 in
theorem not_any (eb fb rb : Nat) (p wv : Value) (at_ into : Int) (regs : List Int) (w : World) (hf : Own w fb [p, .int .i64 at_, .int .i64 into, .slice (some ⟨rb, 0, none⟩) regs.length regs.length, wv]) (hr : Own w rb (Nums regs)) (hm : regs.length ≤ 64) (op n va vb : Int) (a b c : Nat) (ha : regs[a]? = some va) (hb : regs[b]? = some vb) :
    Calls Tryd.prog 67 #[.pointer (some ⟨eb, 0, none⟩), .pointer (some ⟨fb, 0, none⟩), InsVal ⟨op, a, b, c, n⟩] w fun e w' => e = .returned (.tuple #[]) ∧ Chg (· = rb) w w' ∧ Own w' rb (Nums (regs.set a (truthZ (vb == 0)))) := by
  unfold InsVal
  dsimp only
  have f5 := own5 hf
  have r1 := fun i => hr.2.2 i
  have r2 := hr.1
  have hff : fb < w.heap.size := hf.1
  have la := some_lt ha
  have lb := some_lt hb
  have r0 := hr.num ha
  have r3 := hr.num hb
  go_enter Tryd.func67, Tryd.ntmps67
  go_wp2
  refine wp_still 17 (by kernel_rfl) (by kernel_rfl) ?_; simp only [List.take_succ_cons, List.take_zero, List.drop_succ_cons, List.drop_zero]; repeat (refine WS_step (fun K hK => ?_); go_simp; refine hK _ ?_; clear hK K)
  refine WS_step (fun K hK => ?_); go_simp; refine ⟨_, ((truth_any _ _).mono fun e w' h => ⟨h.1, h.2.symm⟩), hK _ ?_⟩; clear hK K; repeat (refine WS_step (fun K hK => ?_); go_simp; refine hK _ ?_; clear hK K)
  refine WS_nil ?_; go_wp2
  go_end0
  go_light
  exact ⟨rfl, (by repeat (first | with_reducible exact Chg.refl _ _ | with_reducible assumption | with_reducible refine Chg.drew ?_ | with_reducible refine Chg.drewN ?_ _ | with_reducible refine Chg.alloc ?_ _ | with_reducible refine Chg.setCell ?_ (by first | with_reducible exact .inl rfl | exact .inl (.inl rfl) | exact .inl (.inr rfl) | exact .inr (by simp)) _ | (with_reducible refine Chg.trans ?_ (Chg.of (by first | with_reducible assumption | exact hF _))))), (by repeat (first | with_reducible assumption | with_reducible refine Own.drew ?_ | with_reducible refine Own.drewN ?_ _ | with_reducible refine Own.alloc ?_ _ | (with_reducible refine Own.setNum ?_ _ _ (by omega)) | (with_reducible refine Own.setOther ?_ _ (by simp; omega)) | (with_reducible refine Own.below ?_ (hF _))))⟩
end Go.Proofs.YtgpdggjpbmgegaaDoor
