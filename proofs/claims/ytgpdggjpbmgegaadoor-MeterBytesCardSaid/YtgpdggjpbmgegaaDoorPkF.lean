/- Package pack: reading of a function (under way). -/
import Derived.Test.YtgpdggjpbmgegaaDoorPkE
import Derived.Laws.IdiomStrings
import Derived.Deep.RegionLawGrows
namespace Go.Proofs.YtgpdggjpbmgegaaDoor
open Go.RowKit
set_option linter.unusedVariables false
set_option linter.unusedSimpArgs false


/-- a call of a Go function, as a step of a region that draws its order -/
theorem step_callF {P : Program} {ops : Array Oper} {o : Oper} {a : Act} {w : World} {K : Act → World → Prop} {Q : Exit → Act → World → Prop} {E : Prop} (hg : o.guard = none) (f : FuncId) (ops2 : List Operand) (ts : Array TypeId) (ho : o.op = .call { callee := .value (.func f), args := ops2.toArray, argTypes := ts })
    (hcf : ∀ args w, (callFunc f args).run P w = .ok (.enter f args) w) (vs : List Value) (hv : ops2.map a.eval = vs) (R : Value → World → Prop) (hc : Calls P f vs.toArray w fun e w' => ∃ v, e = .returned v ∧ R v w') (h : ∀ v w', R v w' → K (a.put o.dst v) w') : if Region.wanted o (yielded ops a.tmps) = true then o.wp P a w K Q else E := by
  have hw : Region.wanted o (yielded ops a.tmps) = true := by simp [Region.wanted, hg]
  rw [if_pos hw]
  subst hv
  have hr : (execOp a.eval o).run P w = .ok (.enter f (ops2.map a.eval).toArray) w := by
    simp [execOp, ho, resolve, invoke, Deferred.ofValue, Act.eval, hcf]
  unfold Oper.wp
  rw [hr, Oper.upon_enter]
  refine hc.mono ?_
  rintro e w' ⟨v, rfl, hR⟩
  exact h v w' hR

/-- the bytes from a place on -/
def Reads (bs : List Int) (p : Nat) (l : List Int) : Prop := p + l.length ≤ bs.length ∧ ∀ i, i < l.length → bs.getD (p + i) 0 = l.getD i 0
theorem Reads.left {bs : List Int} {p : Nat} {a b : List Int} (h : Reads bs p (a ++ b)) : Reads bs p a := by
  obtain ⟨h1, h2⟩ := h
  rw [List.length_append] at h1
  refine ⟨by omega, fun i hi => ?_⟩
  rw [h2 i (by rw [List.length_append]; omega), List.getD_eq_getElem?_getD, List.getElem?_append_left hi, ← List.getD_eq_getElem?_getD]
theorem Reads.right {bs : List Int} {p : Nat} {a b : List Int} (h : Reads bs p (a ++ b)) : Reads bs (p + a.length) b := by
  obtain ⟨h1, h2⟩ := h
  rw [List.length_append] at h1
  refine ⟨by omega, fun i hi => ?_⟩
  rw [Nat.add_assoc, h2 (a.length + i) (by rw [List.length_append]; omega), List.getD_eq_getElem?_getD, List.getElem?_append_right (by omega), Nat.add_sub_cancel_left, ← List.getD_eq_getElem?_getD]
theorem Reads.num {bs : List Int} {p k : Nat} {n : Int} (h : Reads bs p (numB n k)) : ∀ i, i < k → bs.getD (p + i) 0 = byteZ n i := by
  intro i hi
  rw [h.2 i (by rw [numB_len]; exact hi)]
  simp [numB, List.getD_eq_getElem?_getD, hi]
theorem Reads.one {bs : List Int} {p : Nat} {x : Int} (h : Reads bs p [x]) (h0 : 0 ≤ x) (h1 : x < 256) : ∀ i, i < 1 → bs.getD (p + i) 0 = byteZ x i := by
  intro i hi
  rw [h.2 i hi]
  have : i = 0 := by omega
  subst this
  simp [byteZ]; omega
theorem Reads.flat {α : Type} [Inhabited α] {bs : List Int} {p : Nat} {F : α → List Int} {l : List α} (h : Reads bs p (l.flatMap F)) (j : Nat) (hj : j < l.length) : Reads bs (p + ((l.take j).flatMap F).length) (F (l.getD j default)) := by
  have e : l = l.take j ++ (l.getD j default :: l.drop (j + 1)) := by
    rw [getD_eq l j hj, ← List.drop_eq_getElem_cons hj, List.take_append_drop]
  rw [e, List.flatMap_append, List.flatMap_cons] at h
  have h2 := h.right.left
  exact h2

theorem row_form {w : World} {e size n : Nat} {v : Value} {xs : List Value} (h : w.ownsRow 0 e size v n xs) : ∃ a c, v = .slice a n c := by
  rcases h.2 with ⟨h1, h2⟩ | ⟨g, cap, cur, h1, _⟩
  · exact ⟨none, 0, by rw [h1, h2]⟩
  · exact ⟨_, _, h1⟩
theorem fun_end (Q : Ending → World → Prop) (T : Array Value) (W : World) (k : Nat) (s : ByteArray) (pa ca : Option Addr) (pl pc cl cc : Nat) (r wd : Int) (ho : Own W k [.string s, .slice pa pl pc, .int .i64 r, .int .i64 wd, .slice ca cl cc]) (hT : T[2]? = some (.pointer (some ⟨k, 0, none⟩))) (ex : Exit) (hx : ex = .ret ∨ ex = .normal)
    (hq : Q (.returned (.agg #[.string s, .slice pa pl pc, .int .i64 r, .int .i64 wd, .slice ca cl cc])) W) : bodyPost Tryd.prog Tryd.f32 Q ex { tmps := T, defers := [] } W := by
  obtain ⟨_, r0, r1, r2, r3, r4, _⟩ := own5 ho
  have hr : (results Tryd.f32 T).run Tryd.prog W = .ok (.agg #[.string s, .slice pa pl pc, .int .i64 r, .int .i64 wd, .slice ca cl cc]) W := by
    simp [results, Tryd.results32, go_sem, hT, r0, r1, r2, r3, r4]
  rcases hx with rfl | rfl
  · exact bodyPost_ret hr rfl hq
  · exact ⟨rfl, _, hr, hq⟩
theorem flat_const {α : Type} (F : α → List Int) (c : Nat) (h : ∀ x, (F x).length = c) : ∀ l : List α, (l.flatMap F).length = c * l.length
  | [] => by simp
  | x :: l => by rw [List.flatMap_cons, List.length_append, h, flat_const F c h l, List.length_cons, Nat.mul_add]; omega
theorem calls_val {P : Program} {f : FuncId} {args : Array Value} {w : World} {v : Value} {R : World → Prop} (h : Calls P f args w fun e w' => e = .returned v ∧ R w') : Calls P f args w fun e w' => ∃ u, e = .returned u ∧ (u = v ∧ R w') := h.mono fun e w' q => ⟨v, q.1, rfl, q.2⟩
theorem name_conv {w : World} {rk bb cap : Nat} {bs : List Int} {at_ p c : Nat} {s : ByteArray} (h : RdAt w rk bb cap bs at_) (hr : Reads bs p (nameZ s)) : (convert 41 9 (.slice (some ⟨bb, p, none⟩) s.size c)).run Tryd.prog w = .ok (.string s) w := by
  have hl : s.data.toList.length = s.size := by simp
  have := run_convert_bytes_back (P := Tryd.prog) w 41 9 5 ⟨bb, p, none⟩ c s.data.toList Tryd.underlying41 Tryd.underlying5 Tryd.underlying9 (fun j hj => by
    have hj2 : j < (nameZ s).length := by rw [nameZ_len]; omega
    have e : (⟨bb, p, none⟩ : Addr).add j = ⟨bb, p + j, none⟩ := by unfold Addr.add; split <;> simp_all
    have h1 := hr.1
    rw [e, h.byte _ (by omega), hr.2 j hj2]
    have hjs : j < s.data.size := by simpa using hj
    simp only [nameZ, List.getD_eq_getElem?_getD, List.getElem?_map, Array.getElem?_toList, Array.getElem_toList]
    rw [Array.getElem?_eq_getElem hjs]; rfl)
  rw [hl] at this
  simpa using this

set_option maxRecDepth 100000 in
set_option maxHeartbeats 4000000 in
theorem rfun_any (w : World) (rk bb cap : Nat) (bs : List Int) (p : Nat) (f : PFunc) (h : RdAt w rk bb cap bs p) (hr : Reads bs p (funB f)) (hf : FnPk f) (h64 : (∀ i, i < f.params.length → In64 (f.params.getD i default).lo ∧ In64 (f.params.getD i default).hi) ∧ ∀ i, i < f.code.length → In64 (f.code.getD i default).n) :
    Calls Tryd.prog 32 #[.pointer (some ⟨rk, 0, none⟩)] w fun e w' => ∃ pv cv, e = .returned (.agg #[.string f.name, pv, .int .i64 f.regs, .int .i64 f.words, cv]) ∧ Chg (· = rk) w w' ∧ RdAt w' rk bb cap bs (p + (funB f).length) ∧
      w'.ownsRow 0 74 2 pv f.params.length (f.params.flatMap spanC) ∧ w'.ownsRow 0 47 5 cv f.code.length (f.code.flatMap insC) ∧ (∀ k, pv.ownBlock = some k → w.heap.size ≤ k) ∧ (∀ k, cv.ownBlock = some k → w.heap.size ≤ k) := by
  obtain ⟨i0, hi, iz0, iz1, iz2⟩ := info_parts Tryd.info74
  obtain ⟨j0, gi, gz0, gz1, gz2⟩ := info_parts Tryd.info47
  have n1 := hf.n1; have n2 := hf.n2; have n3 := hf.p; have n4 := hf.r1; have n5 := hf.r2; have n6 := hf.w1; have n7 := hf.w2; have n8 := hf.c1; have n9 := hf.c2
  have hr0 := hr
  unfold funB funH funM at hr0
  have R1 := hr0.left.left.left.left.left
  have R2 := hr0.left.left.left.left.right
  have R3 := hr0.left.left.left.right
  have R4 := hr0.left.left.right
  have R5 := hr0.left.right.left.left
  have R6 := hr0.left.right.left.right
  have R7 := hr0.left.right.right
  have R8 := hr0.right
  simp only [List.length_append, List.length_cons, List.length_nil, nameZ_len, numB_len] at R1 R2 R3 R4 R5 R6 R7 R8
  have hlen := hr.1
  have hrk := h.own.1
  have hbl := h.bl
  have hL := h.len
  have HC1 := Lib.hid (fun (w1 : World) (hb : Below w.heap.size w w1) => count_any w1 rk bb cap bs p 1 (f.name.size : Int) 1 16 8 rfl (h.keep hb) (by omega) (by omega) (by have := R1.1; simp at this; omega) (R1.one (by omega) (by omega)) (by omega) (by omega) (by omega) (by omega))
  have HT1 := Lib.hid (fun (w1 : World) (h1 : RdAt w1 rk bb cap bs (p + 1)) => take_any w1 rk bb cap bs (p + 1) f.name.size h1 (by have := R2.1; rw [nameZ_len] at this; omega) (by omega) f.name.size rfl)
  have HCV := Lib.hid (fun (w1 : World) (k : Nat) (h1 : RdAt w1 rk bb cap bs k) (c : Nat) => name_conv (c := c) (p := p + 1) (s := f.name) h1 (by simpa using R2))
  have HR3 := Lib.hid R3; have HR4 := Lib.hid R4; have HR5 := Lib.hid R5; have HR6 := Lib.hid R6; have HR7 := Lib.hid R7; have HR8 := Lib.hid R8
  clear R1 R2 R3 R4 R5 R6 R7 R8 hr0
  have HR := Lib.hid hr; clear hr
  have H := Lib.hid h; clear h
  have HF := Lib.hid hf; clear hf
  have H64 := Lib.hid h64; clear h64
  have hcf56 : ∀ (args : Array Value) (w : World), (callFunc 56 args).run Tryd.prog w = .ok (.enter 56 args) w := fun _ _ => rfl
  have hcf31 : ∀ (args : Array Value) (w : World), (callFunc 31 args).run Tryd.prog w = .ok (.enter 31 args) w := fun _ _ => rfl
  go_enter Tryd.func32, Tryd.ntmps32
  go_upto_region 1 with (fail)
  generalize hW0 : World.alloc _ _ = W0
  have hb0 : Below w.heap.size w W0 := by rw [← hW0]; exact (by repeat (first | with_reducible exact Below.refl _ _ | with_reducible assumption | with_reducible refine Below.drew ?_ | with_reducible refine Below.drewN ?_ _ | with_reducible refine Below.alloc ?_ (by first | omega | (simp <;> omega) | (simp at * <;> omega)) _ | with_reducible refine Below.setCell ?_ (by first | omega | (simp <;> omega) | (simp at * <;> omega)) _ | (with_reducible refine Below.trans ?_ (Below.mono (by first | with_reducible assumption | exact hF _) (by first | omega | (simp <;> omega) | (simp at * <;> omega))))))
  have OR0 : Own W0 w.heap.size [.string ⟨#[]⟩, .slice none 0 0, .int .i64 0, .int .i64 0, .slice none 0 0] := by rw [← hW0]; exact Own.new _ _ _
  clear hW0
  have hz0 := hb0.size
  go_cut [3] (fun v wx => ∃ fx : Nat, v = .pointer (some ⟨fx, 0, none⟩) ∧ W0.heap.size ≤ fx ∧ Chg (· = rk) W0 wx ∧ RdAt wx rk bb cap bs (p + 1 + f.name.size) ∧ Own wx fx [.string f.name, .slice none 0 0, .int .i64 0, .int .i64 0, .slice none 0 0])
  case first =>
    go_region_with (first
      | (go_at_call 30; refine (HC1.out _ (by repeat (first | with_reducible exact Below.refl _ _ | with_reducible assumption | with_reducible refine Below.drew ?_ | with_reducible refine Below.drewN ?_ _ | with_reducible refine Below.alloc ?_ (by first | omega | (simp <;> omega) | (simp at * <;> omega)) _ | with_reducible refine Below.setCell ?_ (by first | omega | (simp <;> omega) | (simp at * <;> omega)) _ | (with_reducible refine Below.trans ?_ (Below.mono (by first | with_reducible assumption | exact hF _) (by first | omega | (simp <;> omega) | (simp at * <;> omega))))))).mono ?_; rintro e w1 ⟨rfl, hc1, hr1⟩; first | (have OF1 := hc1.own (show Own (W0.alloc (.cells #[.string ⟨#[]⟩, .slice none 0 0, .int .i64 0, .int .i64 0, .slice none 0 0] 51)).drew W0.heap.size [.string ⟨#[]⟩, .slice none 0 0, .int .i64 0, .int .i64 0, .slice none 0 0] from (Own.new W0 _ _).drew) (by omega); have q1 := own5 OF1; have s1 := set5 OF1) | skip)
      | (go_at_call 28; refine (HT1.out _ (hr1.keep (by repeat (first | with_reducible exact Below.refl _ _ | with_reducible assumption | with_reducible refine Below.drew ?_ | with_reducible refine Below.drewN ?_ _ | with_reducible refine Below.alloc ?_ (by first | omega | (simp <;> omega) | (simp at * <;> omega)) _ | with_reducible refine Below.setCell ?_ (by first | omega | (simp <;> omega) | (simp at * <;> omega)) _ | (with_reducible refine Below.trans ?_ (Below.mono (by first | with_reducible assumption | exact hF _) (by first | omega | (simp <;> omega) | (simp at * <;> omega)))))))).mono ?_; rintro e w2 ⟨rfl, hc2, hr2⟩; have hcv := HCV.out w2 _ hr2 (cap - (p + 1)); have hcv2 := HCV.out (w2.alloc (.cells #[.string ⟨#[]⟩, .slice none 0 0, .int .i64 0, .int .i64 0, .slice none 0 0] 51)) _ (hr2.keep (by repeat (first | with_reducible exact Below.refl _ _ | with_reducible assumption | with_reducible refine Below.drew ?_ | with_reducible refine Below.drewN ?_ _ | with_reducible refine Below.alloc ?_ (by first | omega | (simp <;> omega) | (simp at * <;> omega)) _ | with_reducible refine Below.setCell ?_ (by first | omega | (simp <;> omega) | (simp at * <;> omega)) _ | (with_reducible refine Below.trans ?_ (Below.mono (by first | with_reducible assumption | exact hF _) (by first | omega | (simp <;> omega) | (simp at * <;> omega))))))) (cap - (p + 1)); first | (have OF2 := hc2.own OF1 (by omega); have q2 := own5 OF2; have s2 := set5 OF2) | (have OF2 := hc2.own (show Own (w1.alloc (.cells #[.string ⟨#[]⟩, .slice none 0 0, .int .i64 0, .int .i64 0, .slice none 0 0] 51)) w1.heap.size [.string ⟨#[]⟩, .slice none 0 0, .int .i64 0, .int .i64 0, .slice none 0 0] from Own.new w1 _ _) (by have := hc1.size; simp at this; omega); have q2 := own5 OF2; have s2 := set5 OF2) | skip))
    all_goals
      go_wp2_with fail
      have hA : Chg (· = rk) W0 w1 := by first | exact (Chg.refl _ _).drew.trans hc1 | exact ((Chg.refl _ _).alloc _).drew.trans hc1
      have hB : Chg (· = rk) W0 w2 := by first | exact hA.trans hc2 | exact (hA.alloc _).trans hc2
      have hz1 := hA.size
      have hz2 := hB.size
      go_meet
      case rel =>
        first
          | exact ⟨w2.heap.size, rfl, hz2, hB.alloc _, hr2.keep (by repeat (first | with_reducible exact Below.refl _ _ | with_reducible assumption | with_reducible refine Below.drew ?_ | with_reducible refine Below.drewN ?_ _ | with_reducible refine Below.alloc ?_ (by first | omega | (simp <;> omega) | (simp at * <;> omega)) _ | with_reducible refine Below.setCell ?_ (by first | omega | (simp <;> omega) | (simp at * <;> omega)) _ | (with_reducible refine Below.trans ?_ (Below.mono (by first | with_reducible assumption | exact hF _) (by first | omega | (simp <;> omega) | (simp at * <;> omega)))))), Own.new _ _ _⟩
          | (refine ⟨w1.heap.size, rfl, hz1, ?_, ?_, own5_set OF2 _ _ _ _ _⟩
             · exact ((((hB.setCell (p := ⟨w1.heap.size, 0, none⟩) (.inr hz1) _).setCell (p := ⟨w1.heap.size, 1, none⟩) (.inr hz1) _).setCell (p := ⟨w1.heap.size, 2, none⟩) (.inr hz1) _).setCell (p := ⟨w1.heap.size, 3, none⟩) (.inr hz1) _).setCell (p := ⟨w1.heap.size, 4, none⟩) (.inr hz1) _
             · exact hr2.chg (S := fun x => x = w1.heap.size) ((((((Chg.refl (fun x => x = w1.heap.size) w2).setCell (p := ⟨w1.heap.size, 0, none⟩) (.inl rfl) _).setCell (p := ⟨w1.heap.size, 1, none⟩) (.inl rfl) _).setCell (p := ⟨w1.heap.size, 2, none⟩) (.inl rfl) _).setCell (p := ⟨w1.heap.size, 3, none⟩) (.inl rfl) _).setCell (p := ⟨w1.heap.size, 4, none⟩) (.inl rfl) _) (by omega) (by omega))
          | (refine ⟨W0.heap.size, rfl, Nat.le_refl _, ?_, ?_, own5_set OF2 _ _ _ _ _⟩
             · exact ((((hB.setCell (p := ⟨W0.heap.size, 0, none⟩) (.inr (Nat.le_refl _)) _).setCell (p := ⟨W0.heap.size, 1, none⟩) (.inr (Nat.le_refl _)) _).setCell (p := ⟨W0.heap.size, 2, none⟩) (.inr (Nat.le_refl _)) _).setCell (p := ⟨W0.heap.size, 3, none⟩) (.inr (Nat.le_refl _)) _).setCell (p := ⟨W0.heap.size, 4, none⟩) (.inr (Nat.le_refl _)) _
             · exact hr2.chg (S := fun x => x = W0.heap.size) ((((((Chg.refl (fun x => x = W0.heap.size) w2).setCell (p := ⟨W0.heap.size, 0, none⟩) (.inl rfl) _).setCell (p := ⟨W0.heap.size, 1, none⟩) (.inl rfl) _).setCell (p := ⟨W0.heap.size, 2, none⟩) (.inl rfl) _).setCell (p := ⟨W0.heap.size, 3, none⟩) (.inl rfl) _).setCell (p := ⟨W0.heap.size, 4, none⟩) (.inl rfl) _) (by omega) (by omega))
  case rest =>
    obtain ⟨fx, rfl, hfx, hcW, hrW, hfW⟩ := hcut
    obtain ⟨q2, hq2⟩ : ∃ q2, q2 = p + 1 + f.name.size + 1 := ⟨_, rfl⟩
    have hpl := flat_const spanB 16 spanB_len f.params
    have hcl := flat_const insB 12 insB_len f.code
    have R3 : Reads bs (p + 1 + f.name.size) [(f.params.length : Int)] := by have := HR3.out; rwa [show p + (0 + 1 + f.name.size) = p + 1 + f.name.size by omega] at this
    have R4 : Reads bs q2 (f.params.flatMap spanB) := by have := HR4.out; rwa [show p + (0 + 1 + f.name.size + (0 + 1)) = q2 by omega] at this
    have R5 : Reads bs (q2 + 16 * f.params.length) [f.regs] := by have := HR5.out; rwa [hpl, show p + (0 + 1 + f.name.size + (0 + 1) + 16 * f.params.length) = q2 + 16 * f.params.length by omega] at this
    have R6 : Reads bs (q2 + 16 * f.params.length + 1) (numB f.words 2) := by have := HR6.out; rwa [hpl, show p + (0 + 1 + f.name.size + (0 + 1) + 16 * f.params.length) + (0 + 1) = q2 + 16 * f.params.length + 1 by omega] at this
    have R7 : Reads bs (q2 + 16 * f.params.length + 1 + 2) (numB f.code.length 2) := by have := HR7.out; rwa [hpl, show p + (0 + 1 + f.name.size + (0 + 1) + 16 * f.params.length) + (0 + 1 + 2) = q2 + 16 * f.params.length + 1 + 2 by omega] at this
    have R8 : Reads bs (q2 + 16 * f.params.length + 1 + 2 + 2) (f.code.flatMap insB) := by have := HR8.out; rwa [hpl, show p + (0 + 1 + f.name.size + (0 + 1) + 16 * f.params.length + (0 + 1 + 2 + 2)) = q2 + 16 * f.params.length + 1 + 2 + 2 by omega] at this
    have b8 := R8.1
    rw [hcl] at b8
    have hend : p + (funB f).length = q2 + 16 * f.params.length + 1 + 2 + 2 + 12 * f.code.length := by
      simp only [funB, funH, funM, List.length_append, List.length_cons, List.length_nil, nameZ_len, numB_len, hpl, hcl]; omega
    have HC2 := Lib.hid (count_any wc rk bb cap bs (p + 1 + f.name.size) 1 (f.params.length : Int) 1 8 3 rfl hrW (by omega) (by omega) (by omega) (R3.one (by omega) (by omega)) (by omega) (by omega) (by omega) (by omega))
    have HR4' := Lib.hid R4; have HR5' := Lib.hid R5; have HR6' := Lib.hid R6; have HR7' := Lib.hid R7; have HR8' := Lib.hid R8
    have HEND := Lib.hid hend
    have HHW := Lib.hid hrW
    have HFW := Lib.hid hfW
    have HCW := Lib.hid hcW
    have HQ2 := Lib.hid hq2
    have hfxl := hfW.1
    have hq2b : q2 + 16 * f.params.length + 1 + 2 + 2 + 12 * f.code.length ≤ bs.length := b8
    clear R3 R4 R5 R6 R7 R8 hpl hcl hend hrW hfW hcW b8 HR3 HR4 HR5 HR6 HR7 HR8 HC1 HT1 HCV HR H
    have hq2' : p + 1 + f.name.size + 1 = q2 := hq2.symm
    go_wp2_with (go_at_call 30; refine HC2.out.mono ?_; rintro e w3 ⟨rfl, hc3, hr3⟩)
    rw [hq2'] at hr3
    clear hq2 hq2'
    have hf3 := hc3.own HFW.out (by omega)
    have hc03 := HCW.out.trans hc3
    have HR3 := Lib.hid hr3; have HF3 := Lib.hid hf3; have HC03 := Lib.hid hc03
    clear hr3 hf3 hc03 hc3
    go_loopw [19] (fun i wr => ∃ (j : Nat) (pv : Value), j ≤ f.params.length ∧ i = .int .i64 j ∧ Hid (Chg (· = rk) W0 wr) ∧ Hid (RdAt wr rk bb cap bs (q2 + 16 * j)) ∧ Hid (Own wr fx [.string f.name, pv, .int .i64 0, .int .i64 0, .slice none 0 0]) ∧ Hid (wr.ownsRow 0 74 2 pv j ((f.params.take j).flatMap spanC)) ∧ (∀ k, pv.ownBlock = some k → W0.heap.size ≤ k ∧ k ≠ fx)) (fun i _ => f.params.length - (intOf i).toNat)
    case atStart => exact ⟨0, .slice none 0 0, Nat.zero_le _, rfl, HC03, HR3, HF3, Lib.hid (World.ownsRow_nil _ _ _ _), fun k h => by cases h⟩
    case round =>
      obtain ⟨j, pv, hj, rfl, hcr, hrr, hfr, hrow, hpv⟩ := hrel
      by_cases hlt : j < f.params.length
      · have d2 : (j : Int) < (f.params.length : Int) := by omega
        have hwk : IntKind.i64.wrap ((j : Int) + 1) = (j : Int) + 1 := IntWalk.i64_in _ (by omega)
        have hwk0 : IntKind.i64.wrap (j : Int) = (j : Int) := IntWalk.i64_in _ (by omega)
        have hrd := HR4'.out.flat j hlt
        rw [flat_const spanB 16 spanB_len, List.length_take, Nat.min_eq_left hj] at hrd
        have h64 := H64.out.1 j hlt
        have hge : f.params[j]? = some (f.params.getD j default) := by simp [List.getD_eq_getElem?_getD, List.getElem?_eq_getElem hlt]
        have HGE := Lib.hid hge; clear hge
        generalize f.params.getD j default = sp at *
        obtain ⟨lo, hi'⟩ := sp
        have HN1 := Lib.hid (rnumber_any wr rk bb cap bs (q2 + 16 * j) 8 lo 8 rfl hrr.out (by omega) (by omega) (by omega) (hrd.left.num) (.inl ⟨rfl, h64.1⟩))
        have hrd2 := hrd.right
        rw [numB_len] at hrd2
        have HN2 := Lib.hid (fun (w1 : World) (h1 : RdAt w1 rk bb cap bs (q2 + 16 * j + 8)) => rnumber_any w1 rk bb cap bs (q2 + 16 * j + 8) 8 hi' 8 rfl h1 (by omega) (by omega) (by omega) (hrd2.num) (.inl ⟨rfl, h64.2⟩))
        clear hrd hrd2 h64
        have q5 := own5 hfr.out
        go_wp2_with (go_at_call 31; refine HN1.out.mono ?_; rintro e w4 ⟨rfl, hc4, hr4⟩)
        have hf4 := hc4.own hfr.out (by omega)
        have hrow4 := ownsRow_chgV hc4 hrow.out (fun k hk => by have := (hpv k hk).1; omega)
        have q54 := own5 hf4
        have hz4 := hc4.size
        have HR4b := Lib.hid hr4
        have hrow4' := fun k hk => (show ¬ k = rk by have := (hpv k hk).1; omega)
        go_region_law (first
          | (refine step_callF rfl 31 [.tmp 30, .const (.int .i64 8)] #[78, 3] rfl hcf31 [.pointer (some ⟨rk, 0, none⟩), .int .i64 8] rfl _ (calls_val (HN2.out _ (HR4b.out.keep (Below.refl _ _).drew))) ?_; rintro v w5 ⟨rfl, hc5, hr5⟩; have hc45 : Chg (· = rk) w4 w5 := (Chg.refl _ _).drew.trans hc5; have hrow5 := ownsRow_chgV hc45 hrow4 hrow4'; have hf5 := hc45.own hf4 (by omega); have q55 := own5 hf5)
          | (refine step_append_lies _ (by rfl) _ _ _ (by rfl) 0 74 i0 _ 2 16 Tryd.underlying49 hi iz0 iz1 iz2 rfl (by decide) pv j _ (by rfl) (hrow5.alloc _) ⟨w5.heap.size, 0, none⟩ 1 1 [.int .i64 lo, .int .i64 hi'] (by rfl) (by rfl) (World.news_of_block (cs := #[.int .i64 lo, .int .i64 hi']) (t := 74) (fr := (0, 0)) (heap_alloc_new w5 _)) (by simp [Value.oneCell']) (by omega) (by unfold maxLen; omega) (by omega) (Nat.zero_le _) (w5.heap.size + 1) (by simp) ?_; intro gg cap2 w6 hown6 hgrow hat hlt6; have k6 : Chg (fun k => pv.ownBlock = some k) w5 w6 := ((Chg.refl _ _).alloc _).trans (chg_grown hgrow); have hf6 := k6.own hf5 (fun e => (hpv _ e).2 rfl); have q56 := own5 hf6))
        all_goals
          have hc6 : Chg (· = rk) W0 w6 := ((hcr.out.trans hc4).trans hc45).trans2 k6 (fun y hy e => by have := (hpv y e).1; omega)
          have hrk5 := hr5.own.1
          have hr6 : RdAt w6 rk bb cap bs (q2 + 16 * j + 8 + 8) := hr5.chg k6 (fun e => by have := (hpv _ e).1; omega) (fun e => by have := (hpv _ e).1; omega)
          have hz5 := hc45.size
          have hz04 := (hcr.out.trans hc4).size
          have hfxl5 := hf5.1
          have ngf : gg ≠ fx := by rcases hat with h | h
                                   · exact (hpv _ h).2
                                   · omega
          have ngW : W0.heap.size ≤ gg := by rcases hat with h | h
                                             · exact (hpv _ h).1
                                             · omega
          have HC6 := Lib.hid hc6; have HR6b := Lib.hid hr6; have HF6 := Lib.hid hf6; have HO6 := Lib.hid hown6
          clear hown6 hgrow hat hlt6 k6 hf6 hc6 hr6 q55 q5 q54 hrow4 hrow5 hf4 hf5 hr4 hr5 hc4 hc5 hc45 hrow hfr hrr hcr hrow4'
          go_wp2
          go_roundw
          case rel =>
            refine ⟨j + 1, .slice (some ⟨gg, 0, none⟩) (j + 1) cap2, by omega, by simp, Lib.hid (HC6.out.setCell (.inr hfx) _), Lib.hid ?_, Lib.hid (HF6.out.set 1 _ (by simp)), Lib.hid ?_, fun k hk => by simp [Value.ownBlock] at hk; subst hk; exact ⟨ngW, ngf⟩⟩
            · rw [show q2 + 16 * (j + 1) = q2 + 16 * j + 8 + 8 by omega]
              exact HR6b.out.chg (S := fun x => x = fx) (Chg.setCell (S := fun x => x = fx) (Chg.refl _ _) (p := ⟨fx, 1, none⟩) (.inl rfl) _) (by omega) (by omega)
            · have e : (f.params.take (j + 1)).flatMap spanC = (f.params.take j).flatMap spanC ++ [.int .i64 lo, .int .i64 hi'] := by
                rw [List.take_add_one, HGE.out, List.flatMap_append]; rfl
              rw [e]
              exact ownsRow_setCell_other HO6.out (by simpa [Value.ownBlock] using ngf) _
          case measure => go_light; first | omega | (simp only [intOf]; omega)
      · have hjn : j = f.params.length := by omega
        subst hjn
        have d2 : ¬ (f.params.length : Int) < (f.params.length : Int) := by omega
        rw [List.take_length] at hrow
        have HN5 := Lib.hid (rnumber_any wr rk bb cap bs (q2 + 16 * f.params.length) 1 f.regs 1 rfl hrr.out (by omega) (by omega) (by omega) (HR5'.out.one (by omega) (by omega)) (.inr ⟨by omega, n4, by omega⟩))
        have q5 := own5 hfr.out
        have HN6 := Lib.hid (fun (w1 : World) (h1 : RdAt w1 rk bb cap bs (q2 + 16 * f.params.length + 1)) => rnumber_any w1 rk bb cap bs (q2 + 16 * f.params.length + 1) 2 f.words 2 rfl h1 (by omega) (by omega) (by omega) (HR6'.out.num) (.inr ⟨by omega, n6, by omega⟩))
        have HC7 := Lib.hid (fun (w1 : World) (h1 : RdAt w1 rk bb cap bs (q2 + 16 * f.params.length + 1 + 2)) => count_any w1 rk bb cap bs (q2 + 16 * f.params.length + 1 + 2) 2 (f.code.length : Int) 2 1024 97 rfl h1 (by omega) (by omega) (by omega) (HR7'.out.num) (by omega) (by omega) (by omega) (by omega))
        go_wp2_with (first
          | (go_at_call 31; refine HN5.out.mono ?_; rintro e w4 ⟨rfl, hc4, hr4⟩; have hf4 := hc4.own hfr.out (by omega); have q54 := own5 hf4; have hr4' := hr4.chg (S := fun x => x = fx) (Chg.setCell (S := fun x => x = fx) (Chg.refl _ _) (p := ⟨fx, 2, none⟩) (.inl rfl) (.int .i64 f.regs)) (by omega) (by omega); clear HN5)
          | (go_at_call 31; refine (HN6.out _ hr4').mono ?_; rintro e w5 ⟨rfl, hc5, hr5⟩; have hf5 : Own w5 fx [.string f.name, pv, .int .i64 f.regs, .int .i64 0, .slice none 0 0] := hc5.own (hf4.set 2 (.int .i64 f.regs) (by simp)) (by omega); have q55 := own5 hf5; have hr5' := hr5.chg (S := fun x => x = fx) (Chg.setCell (S := fun x => x = fx) (Chg.refl _ _) (p := ⟨fx, 3, none⟩) (.inl rfl) (.int .i64 f.words)) (by omega) (by omega))
          | (go_at_call 30; refine (HC7.out _ hr5').mono ?_; rintro e w6 ⟨rfl, hc6, hr6⟩; have hf6 : Own w6 fx [.string f.name, pv, .int .i64 f.regs, .int .i64 f.words, .slice none 0 0] := hc6.own (hf5.set 3 (.int .i64 f.words) (by simp)) (by omega)))
        have hc06 : Chg (· = rk) W0 w6 := ((((hcr.out.trans hc4).setCell (p := ⟨fx, 2, none⟩) (.inr hfx) _).trans hc5).setCell (p := ⟨fx, 3, none⟩) (.inr hfx) _).trans hc6
        have hrow6 : w6.ownsRow 0 74 2 pv f.params.length (f.params.flatMap spanC) := by
          have a1 := ownsRow_chgV hc4 hrow.out (fun k hk => by have := (hpv k hk).1; omega)
          have a2 := ownsRow_chgV (S := fun x => x = fx) (Chg.setCell (S := fun x => x = fx) (Chg.refl _ _) (p := ⟨fx, 2, none⟩) (.inl rfl) (.int .i64 f.regs)) a1 (fun k hk => (hpv k hk).2)
          have a3 := ownsRow_chgV hc5 a2 (fun k hk => by have := (hpv k hk).1; omega)
          have a4 := ownsRow_chgV (S := fun x => x = fx) (Chg.setCell (S := fun x => x = fx) (Chg.refl _ _) (p := ⟨fx, 3, none⟩) (.inl rfl) (.int .i64 f.words)) a3 (fun k hk => (hpv k hk).2)
          exact ownsRow_chgV hc6 a4 (fun k hk => by have := (hpv k hk).1; omega)
        obtain ⟨q6, hq6⟩ : ∃ q6, q6 = q2 + 16 * f.params.length + 1 + 2 + 2 := ⟨_, rfl⟩
        rw [← hq6] at hr6
        have hq6b : q6 + 12 * f.code.length ≤ bs.length := by omega
        have HC06 := Lib.hid hc06; have HR6c := Lib.hid hr6; have HF6 := Lib.hid hf6; have HROW6 := Lib.hid hrow6; have HQ6 := Lib.hid hq6
        clear hc06 hr6 hf6 hrow6 hc4 hc5 hc6 hr4 hr4' hr5 hr5' hf4 hf5 q54 q55 q5 hrow hfr hrr hcr HN6 HC7 HC03 HR3 HF3
        have hR8 := HR8'.out
        rw [← hq6] at hR8
        have HR8c := Lib.hid hR8
        clear hR8 hq6
        obtain ⟨wA, rfl⟩ : ∃ wo : World, wo = w6 := ⟨_, rfl⟩
        go_loopw [51] (fun i wr => ∃ (j : Nat) (cv : Value), j ≤ f.code.length ∧ i = .int .i64 j ∧ Hid (Chg (· = rk) W0 wr) ∧ Hid (RdAt wr rk bb cap bs (q6 + 12 * j)) ∧ Hid (Own wr fx [.string f.name, pv, .int .i64 f.regs, .int .i64 f.words, cv]) ∧ Hid (wr.ownsRow 0 74 2 pv f.params.length (f.params.flatMap spanC)) ∧ Hid (wr.ownsRow 0 47 5 cv j ((f.code.take j).flatMap insC)) ∧ (∀ k, cv.ownBlock = some k → W0.heap.size ≤ k ∧ k ≠ fx ∧ pv.ownBlock ≠ some k)) (fun i _ => f.code.length - (intOf i).toNat)
        case atStart => exact ⟨0, .slice none 0 0, Nat.zero_le _, rfl, HC06, HR6c, HF6, HROW6, Lib.hid (World.ownsRow_nil _ _ _ _), fun k h => by cases h⟩
        case round =>
          obtain ⟨j, cv, hj, rfl, hcr, hrr, hfr, hpr, hrow, hcv⟩ := hrel
          by_cases hlt : j < f.code.length
          · have d3 : (j : Int) < (f.code.length : Int) := by omega
            have hwk : IntKind.i64.wrap ((j : Int) + 1) = (j : Int) + 1 := IntWalk.i64_in _ (by omega)
            have hwk0 : IntKind.i64.wrap (j : Int) = (j : Int) := IntWalk.i64_in _ (by omega)
            have hrd := HR8c.out.flat j hlt
            rw [flat_const insB 12 insB_len, List.length_take, Nat.min_eq_left hj] at hrd
            have h64 := H64.out.2 j hlt
            have hib := HF.out.ins j hlt
            have hge : f.code[j]? = some (f.code.getD j default) := by simp [List.getD_eq_getElem?_getD, List.getElem?_eq_getElem hlt]
            have HGE := Lib.hid hge; clear hge
            generalize f.code.getD j default = ix at *
            have hbyte := fun i (hi : i < 4) => hrd.left.2 i hi
            have HI := Lib.hid (fun (w1 : World) (h1 : RdAt w1 rk bb cap bs (q6 + 12 * j)) => rins_any w1 rk bb cap bs (q6 + 12 * j) ix h1 (by omega) (by simpa using hbyte 0 (by omega)) (by simpa using hbyte 1 (by omega)) (by simpa using hbyte 2 (by omega)) (by simpa using hbyte 3 (by omega)) (by have := hrd.right.num; simpa using this) h64 (by omega))
            clear hrd h64 hib hbyte
            obtain ⟨op, xa, xb, xc, xn⟩ := ix
            unfold InsVal at HI
            dsimp only at HI
            have q5 := own5 hfr.out
            have hfr' := hfr.out
            have hrk5 := hrr.out.own.1
            have hrow' := fun k hk => (show ¬ k = rk by have := (hcv k hk).1; omega)
            go_wp2
            go_region_law (first
              | (refine step_callF rfl 56 [.tmp 55] #[76] rfl hcf56 [.pointer (some ⟨rk, 0, none⟩)] rfl _ (calls_val (HI.out _ (hrr.out.keep (Below.refl _ _).drew))) ?_; rintro v w5 ⟨rfl, hc5, hr5⟩; have hc45 : Chg (· = rk) wr w5 := (Chg.refl _ _).drew.trans hc5; have hrow5 := ownsRow_chgV hc45 hrow.out hrow'; have hf5 := hc45.own hfr' (by omega); have q55 := own5 hf5)
              | (refine step_append_lies _ (by rfl) _ _ _ (by rfl) 0 47 j0 _ 5 40 Tryd.underlying48 gi gz0 gz1 gz2 rfl (by decide) cv j _ (by rfl) (hrow5.alloc _) ⟨w5.heap.size, 0, none⟩ 1 1 [.int .i64 op, .int .i64 xa, .int .i64 xb, .int .i64 xc, .int .i64 xn] (by rfl) (by rfl) (World.news_of_block (cs := #[.int .i64 op, .int .i64 xa, .int .i64 xb, .int .i64 xc, .int .i64 xn]) (t := 47) (fr := (0, 0)) (heap_alloc_new w5 _)) (by simp [Value.oneCell']) (by omega) (by unfold maxLen; omega) (by omega) (Nat.zero_le _) (w5.heap.size + 1) (by simp) ?_; intro gg cap2 w6 hown6 hgrow hat hlt6; have k6 : Chg (fun k => cv.ownBlock = some k) w5 w6 := ((Chg.refl _ _).alloc _).trans (chg_grown hgrow); have hf6 := k6.own hf5 (fun e => (hcv _ e).2.1 rfl); have q56 := own5 hf6))
            all_goals
              have hc6 : Chg (· = rk) W0 w6 := (hcr.out.trans hc45).trans2 k6 (fun y hy e => by have := (hcv y e).1; omega)
              have hrk5 := hr5.own.1
              have hr6 : RdAt w6 rk bb cap bs (q6 + 12 * j + 12) := hr5.chg k6 (fun e => by have := (hcv _ e).1; omega) (fun e => by have := (hcv _ e).1; omega)
              have hp6 : w6.ownsRow 0 74 2 pv f.params.length (f.params.flatMap spanC) := ownsRow_chgV k6 (ownsRow_chgV hc45 hpr.out (fun k hk => by have := (hpv k hk).1; omega)) (fun k hk e => (hcv k e).2.2 hk)
              have hz5 := hc45.size
              have hz04 := hcr.out.size
              have hfxl5 := hf5.1
              have ngf : gg ≠ fx := by rcases hat with h | h
                                       · exact (hcv _ h).2.1
                                       · omega
              have ngW : W0.heap.size ≤ gg := by rcases hat with h | h
                                                 · exact (hcv _ h).1
                                                 · omega
              have ngP : pv.ownBlock ≠ some gg := by rcases hat with h | h
                                                     · exact (hcv _ h).2.2
                                                     · intro e
                                                       have := (hpr.out.lt gg e).2
                                                       omega
              have HC6 := Lib.hid hc6; have HR6b := Lib.hid hr6; have HF6b := Lib.hid hf6; have HO6 := Lib.hid hown6; have HP6 := Lib.hid hp6
              clear hown6 hgrow hat hlt6 k6 hf6 hc6 hr6 q55 q5 hrow5 hf5 hr5 hc5 hc45 hrow hfr hrr hcr hrow' hpr hp6 hfr'
              go_wp2
              go_roundw
              case rel =>
                refine ⟨j + 1, .slice (some ⟨gg, 0, none⟩) (j + 1) cap2, by omega, by simp, Lib.hid (HC6.out.setCell (.inr hfx) _), Lib.hid ?_, Lib.hid (HF6b.out.set 4 _ (by simp)), Lib.hid ?_, Lib.hid ?_, fun k hk => by simp [Value.ownBlock] at hk; subst hk; exact ⟨ngW, ngf, ngP⟩⟩
                · rw [show q6 + 12 * (j + 1) = q6 + 12 * j + 12 by omega]
                  exact HR6b.out.chg (S := fun x => x = fx) (Chg.setCell (S := fun x => x = fx) (Chg.refl _ _) (p := ⟨fx, 4, none⟩) (.inl rfl) _) (by omega) (by omega)
                · exact ownsRow_chgV (S := fun x => x = fx) (Chg.setCell (S := fun x => x = fx) (Chg.refl _ _) (p := ⟨fx, 4, none⟩) (.inl rfl) _) HP6.out (fun k hk => (hpv k hk).2)
                · have e : (f.code.take (j + 1)).flatMap insC = (f.code.take j).flatMap insC ++ [.int .i64 op, .int .i64 xa, .int .i64 xb, .int .i64 xc, .int .i64 xn] := by
                    rw [List.take_add_one, HGE.out, List.flatMap_append]; rfl
                  rw [e]
                  exact ownsRow_setCell_other HO6.out (by simpa [Value.ownBlock] using ngf) _
              case measure => go_light; first | omega | (simp only [intOf]; omega)
          · have hjn : j = f.code.length := by omega
            subst hjn
            have d3 : ¬ (f.code.length : Int) < (f.code.length : Int) := by omega
            rw [List.take_length] at hrow
            obtain ⟨pa, pc, rfl⟩ := row_form hpr.out
            obtain ⟨ca, cc, rfl⟩ := row_form hrow.out
            have q5 := own5 hfr.out
            have hres := hcr.out.own OR0 (by omega)
            have r5 := own5 hres
            have s5 := set5 hres
            have hzr := hcr.out.size
            have hrk5 := hrr.out.own.1
            have hend := HEND.out
            have hq6 := HQ6.out
            go_wp2
            have hset : Chg (fun x => x = w.heap.size) wr (((((wr.setCell ⟨w.heap.size, 0, none⟩ (.string f.name)).setCell ⟨w.heap.size, 1, none⟩ (.slice pa f.params.length pc)).setCell ⟨w.heap.size, 2, none⟩ (.int .i64 f.regs)).setCell ⟨w.heap.size, 3, none⟩ (.int .i64 f.words)).setCell ⟨w.heap.size, 4, none⟩ (.slice ca f.code.length cc)) :=
              ((((((Chg.refl (fun x => x = w.heap.size) wr).setCell (p := ⟨w.heap.size, 0, none⟩) (.inl rfl) _).setCell (p := ⟨w.heap.size, 1, none⟩) (.inl rfl) _).setCell (p := ⟨w.heap.size, 2, none⟩) (.inl rfl) _).setCell (p := ⟨w.heap.size, 3, none⟩) (.inl rfl) _).setCell (p := ⟨w.heap.size, 4, none⟩) (.inl rfl) _)
            have hcw : Chg (· = rk) w wr := (Chg.of hb0).trans2 hcr.out (fun y _ e => e)
            refine fun_end _ _ _ w.heap.size f.name pa ca f.params.length pc f.code.length cc f.regs f.words (own5_set hres _ _ _ _ _) rfl _ (by simp) ⟨.slice pa f.params.length pc, .slice ca f.code.length cc, rfl, ?_, ?_, ?_, ?_, fun k hk => by have := (hpv k hk).1; omega, fun k hk => by have := (hcv k hk).1; omega⟩
            · exact ((((hcw.setCell (p := ⟨w.heap.size, 0, none⟩) (.inr (Nat.le_refl _)) _).setCell (p := ⟨w.heap.size, 1, none⟩) (.inr (Nat.le_refl _)) _).setCell (p := ⟨w.heap.size, 2, none⟩) (.inr (Nat.le_refl _)) _).setCell (p := ⟨w.heap.size, 3, none⟩) (.inr (Nat.le_refl _)) _).setCell (p := ⟨w.heap.size, 4, none⟩) (.inr (Nat.le_refl _)) _
            · try rw [hend]
              rw [show q2 + 16 * f.params.length + 1 + 2 + 2 + 12 * f.code.length = q6 + 12 * f.code.length by omega]
              exact hrr.out.chg hset (by omega) (by omega)
            · exact ownsRow_chgV hset hpr.out (fun k hk => by have := (hpv k hk).1; have := OR0.1; omega)
            · exact ownsRow_chgV hset hrow.out (fun k hk => by have := (hcv k hk).1; have := OR0.1; omega)
end Go.Proofs.YtgpdggjpbmgegaaDoor
