/- The deferred end of a run: Stopped, and the closure that recovers, in both modes of the frame below. -/
import Derived.Test.YtgpdggjpbmgegaaDoorEngC
import Derived.Defers
import Derived.Recover
namespace Go.Proofs.YtgpdggjpbmgegaaDoor
open Go.RowKit
set_option linter.unusedVariables false
set_option linter.unusedSimpArgs false


/-- all orders in which a region may be run -/
def allOrders (md : Region.Mode) (ops : Array Oper) : Nat → Array Bool → List (List Nat)
  | 0, _ => [[]]
  | n + 1, l => match Region.ready md ops l with
    | [] => [[]]
    | r :: rs => (r :: rs).flatMap fun i => (allOrders md ops n (l.setIfInBounds i true)).map (i :: ·)
theorem linearise_mem (md : Region.Mode) (ops : Array Oper) : ∀ (fuel t : Nat) (listed : Array Bool), Region.linearise.go md ops fuel t listed [] ∈ allOrders md ops fuel listed := by
  intro fuel
  induction fuel with
  | zero => intro t listed; simp [Region.linearise.go, allOrders]
  | succ fuel ih =>
    intro t listed
    simp only [Region.linearise.go]
    change (match (Region.ready md ops listed)[t % (Region.ready md ops listed).length]? with
      | some i => Region.linearise.go md ops fuel (t / (Region.ready md ops listed).length) (listed.setIfInBounds i true) [i]
      | none => [].reverse) ∈ _
    unfold allOrders
    cases hr : Region.ready md ops listed with
    | nil => simp
    | cons x xs =>
      have hlt : t % (x :: xs).length < (x :: xs).length := Nat.mod_lt _ (by simp)
      rw [List.getElem?_eq_getElem hlt]
      simp only []
      rw [linearise_go_acc, List.reverse_singleton, List.singleton_append]
      exact List.mem_flatMap.2 ⟨_, List.getElem_mem hlt, List.mem_map.2 ⟨_, ih _ _, rfl⟩⟩
theorem wpS_region_drawn {P : Program} {Q : Exit → Act → List Frame → World → Prop} {a : Act} {cs : List Frame} {w : World} {id : Nat} {ops : Array Oper} (hm : P.follows .mixedOrders = true) (L : List (List Nat))
    (hL : allOrders .any ops ops.size (Array.replicate ops.size false) = L) (h : ∀ l ∈ L, wpOpsS P ops Q l a cs w.drew) : (Code.region id ops true).wpS P Q a cs w := fun b k hb hr => by
  have hmem : Region.schedule (P.follows .mixedOrders) ops (w.tape w.drawn (.order b.fn id)) ∈ L := by
    rw [← hL]
    simp only [Region.schedule, hm, Bool.true_or, if_true]
    exact linearise_mem .any ops _ _ _
  obtain ⟨e, a', cs', w', q, r⟩ := wp_opsS _ a cs _ (h _ hmem) b k hb hr
  exact ⟨e, a', cs', w', q, .of_steps (.one step_region_draw) r⟩

set_option maxHeartbeats 400000 in
theorem stopped_nil (eb : Nat) (w : World) : Calls Tryd.prog 40 #[.pointer (some ⟨eb, 0, none⟩), .nilIface] w fun e w' => e = .returned (.tuple #[]) ∧ w = w' := by
  go_enter Tryd.func40, Tryd.ntmps40
  go_wp2
  refine bodyPost_ret (results_none rfl _ _ _) rfl ?_
  exact ⟨rfl, rfl⟩

set_option maxRecDepth 100000 in
set_option maxHeartbeats 1000000 in
theorem stopped_trap (eb : Nat) (E V t : Int) (cs : List Value) (w : World) (h : Own w eb (.int .i64 E :: .int .i64 V :: cs)) :
    Calls Tryd.prog 40 #[.pointer (some ⟨eb, 0, none⟩), .iface 95 (.agg #[.int .i64 t])] w fun e w' =>
      e = .returned (.tuple #[]) ∧ Chg (· = eb) w w' ∧ Own w' eb (.int .i64 t :: .int .i64 0 :: cs) := by
  have h0 := h.2.1 0 _ rfl
  have h1 := h.2.1 1 _ rfl
  have hf := h.2.2
  have hl := h.1
  have H := Lib.hid h; clear h
  have hta : ∀ w : World, (Instr.typeAssert (.iface 95 (.agg #[.int .i64 t])) 20 95 true).run Tryd.prog w = .ok (.tuple #[.agg #[.int .i64 t], .bool true]) w := fun _ => rfl
  go_enter Tryd.func40, Tryd.ntmps40
  go_wp2
  go_end0
  go_light
  exact ⟨rfl, (by repeat (first | with_reducible exact Chg.refl _ _ | with_reducible assumption | with_reducible refine Chg.drew ?_ | with_reducible refine Chg.drewN ?_ _ | with_reducible refine Chg.alloc ?_ _ | with_reducible refine Chg.setCell ?_ (by first | with_reducible exact .inl rfl | exact .inl (.inl rfl) | exact .inl (.inr rfl) | exact .inr (by simp)) _ | (with_reducible refine Chg.trans ?_ (Chg.of (by first | with_reducible assumption | exact hF _))))), ((H.out.set 0 _ (by simp)).set 1 _ (by simp)).alloc _⟩

set_option maxRecDepth 100000 in
set_option maxHeartbeats 1000000 in
theorem stop_idle (eb cb : Nat) (w : World) (hc : w.cell? ⟨cb, 0, none⟩ = some (.pointer (some ⟨eb, 0, none⟩))) :
    CallsD Tryd.prog 39 #[.pointer (some ⟨cb, 0, none⟩)] .returning w fun e u w' => e = .returned (.tuple #[]) ∧ u = .returning ∧ Below w.heap.size w w' := by
  refine callsD_of_wpS Tryd.func39 rfl fun c₀ cs hu => ?_
  refine wpS_region_drawn (by kernel_rfl) [[0, 1, 2, 3, 4], [0, 1, 3, 2, 4], [0, 3, 1, 2, 4], [3, 0, 1, 2, 4]] (by kernel_rfl) ?_
  intro l hl
  simp only [List.mem_cons, List.not_mem_nil, or_false] at hl
  rcases hl with rfl | rfl | rfl | rfl
  all_goals simp [wpOpsS, go_sem, recoverD, hu, hc, Tryd.ntmps39, Exit.thenS]
  all_goals
    refine (stopped_nil eb _).mono ?_
    rintro e w1 ⟨rfl, rfl⟩
    cases c₀
    simp_all [bodyPostS, results, Tryd.results39]
    exact (by repeat (first | with_reducible exact Below.refl _ _ | with_reducible assumption | with_reducible refine Below.drew ?_ | with_reducible refine Below.drewN ?_ _ | with_reducible refine Below.alloc ?_ (by first | omega | (simp <;> omega) | (simp at * <;> omega)) _ | with_reducible refine Below.setCell ?_ (by first | omega | (simp <;> omega) | (simp at * <;> omega)) _ | (with_reducible refine Below.trans ?_ (Below.mono (by first | with_reducible assumption | exact hF _) (by first | omega | (simp <;> omega) | (simp at * <;> omega))))))

set_option maxRecDepth 100000 in
set_option maxHeartbeats 1000000 in
theorem stop_trap (eb cb : Nat) (E V t : Int) (cl : List Value) (older : List PanicEntry) (w : World) (h : Own w eb (.int .i64 E :: .int .i64 V :: cl)) (hc : w.cell? ⟨cb, 0, none⟩ = some (.pointer (some ⟨eb, 0, none⟩))) :
    CallsD Tryd.prog 39 #[.pointer (some ⟨cb, 0, none⟩)] (.panicking ({ v := .iface 95 (.agg #[.int .i64 t]), recovered := false } :: older)) w fun e u w' =>
      e = .returned (.tuple #[]) ∧ u = .panicking ({ v := .iface 95 (.agg #[.int .i64 t]), recovered := true } :: older) ∧ Chg (· = eb) w w' ∧ Own w' eb (.int .i64 t :: .int .i64 0 :: cl) := by
  refine callsD_of_wpS Tryd.func39 rfl fun c₀ cs hu => ?_
  refine wpS_region_drawn (by kernel_rfl) [[0, 1, 2, 3, 4], [0, 1, 3, 2, 4], [0, 3, 1, 2, 4], [3, 0, 1, 2, 4]] (by kernel_rfl) ?_
  intro l hl
  simp only [List.mem_cons, List.not_mem_nil, or_false] at hl
  rcases hl with rfl | rfl | rfl | rfl
  all_goals simp [wpOpsS, go_sem, recoverD, hu, hc, Tryd.ntmps39, Exit.thenS]
  all_goals
    refine (stopped_trap eb E V t cl _ h.drew).mono ?_
    rintro e w1 ⟨rfl, hk, ho⟩
    cases c₀
    simp_all [bodyPostS, results, Tryd.results39]
    exact ((Chg.refl _ _).drew).trans hk
end Go.Proofs.YtgpdggjpbmgegaaDoor
