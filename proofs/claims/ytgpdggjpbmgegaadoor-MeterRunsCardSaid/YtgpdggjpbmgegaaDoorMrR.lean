/- The reference machine (R20): one step of the loop. The reference machine (R20): the start of a run. The reference machine (R20): Go, for any run that comes to an end. -/
import Derived.Test.YtgpdggjpbmgegaaDoorMrO
import Derived.Test.YtgpdggjpbmgegaaDoorMeter
namespace Go.Proofs.YtgpdggjpbmgegaaDoor
open Go.RowKit
set_option linter.unusedVariables false
set_option linter.unusedSimpArgs false

theorem RefIs.keep {N xb : Nat} {x : MC} {s : PSt} {w w' : World} (h : RefIs N w xb x s) (hb : Below w.heap.size w w') : RefIs N w' xb x s := by
  obtain ⟨yb, cap, zr, z, hr, g⟩ := h
  exact ⟨yb, cap, zr, z, hr.keep hb, g⟩
theorem RefIs.setSt {N xb : Nat} {x : MC} {s : PSt} {w : World} (h : RefIs N w xb x s) (n : Int) : RefIs N (w.setCell ⟨xb, 7, none⟩ (.int .i64 n)) xb { x with st := n } s := by
  obtain ⟨yb, cap, zr, z, hr, g⟩ := h
  exact ⟨yb, cap, zr, z, hr.setX (x' := { x with st := n }) (Chg.setCell (S := (· = xb)) (Chg.refl _ _) (p := ⟨xb, 7, none⟩) (.inl rfl) _) (hr.own.set 7 (.int .i64 n) (by simp [MC.cells])) rfl, g⟩
theorem RefIs.nx {N xb : Nat} {x : MC} {s : PSt} {w : World} (h : RefIs N w xb x s) : N ≤ xb ∧ Own w xb x.cells := by
  obtain ⟨yb, cap, zr, z, hr, g⟩ := h
  exact ⟨hr.nx, hr.own⟩

/-- what one round of the loop makes -/
def NextPost (N xb : Nat) (x : MC) (m : PMod) (s : PSt) (fuel : Int) (w w' : World) : Prop :=
  (0 ≤ fuel ∧ fuel - x.st < weightZ (insAt m s.top).op → Chg (fun j => N ≤ j) w w' ∧ Own w' xb { x with e := 90, v := 0, en := true }.cells) ∧
  (¬ (0 ≤ fuel ∧ fuel - x.st < weightZ (insAt m s.top).op) → MStep N xb { x with st := x.st + weightZ (insAt m s.top).op } (doP m x.most s.pass (insAt m s.top)) w w')

set_option maxRecDepth 100000 in
set_option maxHeartbeats 4000000 in
theorem mnext_any {N B : Nat} {m : PMod} (hm : Fine m) (h64 : ∀ k i, k < m.funcs.length → i < (fnAt m k).code.length → InsOk ((fnAt m k).code.getD i default)) (xb : Nat) (x : MC) (s : PSt) (w : World) (hBN : B ≤ N) (hN : N ≤ w.heap.size) (hf : FuncsAt B w x.fa x.fl m.funcs) (h : RefIs N w xb x s) (hs : StOk m s) (hd : s.rest.length ≤ 1000000)
    (fuel : Int) (hfu : -1099511627776 ≤ fuel ∧ fuel ≤ 1099511627776) (hst : 0 ≤ x.st ∧ x.st ≤ 1099511627776) :
    Calls Tryd.prog 24 #[.pointer (some ⟨xb, 0, none⟩), .int .i64 fuel] w (fun e w' => e = .returned (.tuple #[]) ∧ NextPost N xb x m s fuel w w') := by
  have HDO := Lib.hid (fun (w1 : World) (hz : w.heap.size ≤ w1.heap.size) (hb : Same B w w1) (n : Int) (h1 : RefIs N w1 xb { x with st := n } s) => mdo_any hm h64 xb { x with st := n } s w1 hBN (by omega) (hf.same hb) h1 hs hd)
  have H0 := Lib.hid h
  have hwt := (insAt_fine hm hs.top)
  have hkn : knownB (insAt m s.top).op = true := by have := hwt.op0; have := hwt.op1; unfold knownB; simp; omega
  have hwb := weight_bd hwt.op0 hwt.op1
  obtain ⟨yb, cap, zr, z, hr, g1, g2, g3, g4, g5⟩ := h
  have hft := hs.top
  rw [g2] at hft
  have hzl : zr.length ≤ 1000000 := by rw [g1] at hd; simpa using hd
  have HW := Lib.hid (fun w1 => mweight_any (insAt m s.top).op w1 hkn)
  unfold NextPost
  have hins : InsVal (insAt m s.top) = InsVal (insAt m s.top) := rfl
  have hat0 := hft.at0
  have hat1 := hft.at1
  have hfn := hft.fn
  obtain ⟨at_, hat⟩ := Int.eq_ofNat_of_zero_le hat0
  obtain ⟨f1, f2, fsb, fso, f3, H, f4⟩ := hf
  obtain ⟨hfa, hfb⟩ := f3 (by omega)
  obtain ⟨q1, q2⟩ := f4 z.1.fn (by omega)
  obtain ⟨_, _, ⟨cl, cm, cb, co, c3, c4⟩, _, _⟩ := q2
  have hcl : at_ < (m.funcs.getD z.1.fn default).code.length := by unfold fnAt at hat1; omega
  obtain ⟨hca, hcb⟩ := c3 (by omega)
  obtain ⟨⟨i0, i1, i2, i3, i4⟩, _⟩ := c4 at_ (by omega)
  have hy : (m.funcs.getD z.1.fn default).code.getD at_ default = insAt m s.top := by unfold insAt fnAt; rw [g2, hat]; rfl
  rw [hy] at i0 i1 i2 i3 i4
  have q4 := q1.2.2.2.2
  have q0 := q1.1
  have qq1 := q1.2.1
  have qq2 := q1.2.2.1
  have qq3 := q1.2.2.2.1
  rw [hca] at q4
  unfold InsVal at HDO
  generalize insAt m s.top = y at *
  have Hy := Lib.hid hy; clear hy hins hwt
  have o := own11 hr.own
  rw [hr.fr, hfa] at o
  have k0 : w.cell? ⟨yb, zr.length * 5, none⟩ = some (.int .i64 z.1.fn) := own_cells hr.row ((frCells_top zr z 0 (by omega)).trans rfl)
  have k1 : w.cell? ⟨yb, zr.length * 5 + 1, none⟩ = some (.int .i64 z.1.at_) := own_cells hr.row ((frCells_top zr z 1 (by omega)).trans rfl)
  have k2 : w.cell? ⟨yb, zr.length * 5 + 2, none⟩ = some (.int .i64 z.1.into) := own_cells hr.row ((frCells_top zr z 2 (by omega)).trans rfl)
  have k3 : w.cell? ⟨yb, zr.length * 5 + 3, none⟩ = some (.slice (some ⟨z.2.rb, 0, none⟩) z.1.regs.length z.1.regs.length) := own_cells hr.row ((frCells_top zr z 3 (by omega)).trans rfl)
  have k4 : w.cell? ⟨yb, zr.length * 5 + 4, none⟩ = some (.slice (some ⟨z.2.wb, 0, none⟩) z.1.words.length z.1.words.length) := own_cells hr.row ((frCells_top zr z 4 (by omega)).trans rfl)
  rw [hat] at k1
  have hyl : yb < w.heap.size := hr.lt.2.1
  have fz7 := hr.own.2.2 7
  have hNX := hr.nx
  have w3 : IntKind.i64.wrap ((zr.length : Int) + 1 - 1) = (zr.length : Int) := by rw [IntWalk.i64_in _ (by omega)]; omega
  have w5 : IntKind.i64.wrap (zr.length : Int) = (zr.length : Int) := IntWalk.i64_in _ (by omega)
  have w6 : IntKind.i64.wrap (fuel - x.st) = fuel - x.st := IntWalk.i64_in _ (by omega)
  have w7 : IntKind.i64.wrap (x.st + weightZ y.op) = x.st + weightZ y.op := IntWalk.i64_in _ (by omega)
  have j1 : (z.1.fn : Int) < (x.fl : Int) := by omega
  have j2 : (at_ : Int) < ((H z.1.fn).cl : Int) := by omega
  have i9 : (zr.length : Int) < (zr.length : Int) + 1 := by omega
  have hfbw : fsb < w.heap.size ∧ cb < w.heap.size := by omega
  generalize H z.1.fn = hh at *
  generalize weightZ y.op = wt at *
  have HR := Lib.hid hr; clear hr
  clear c4 f4 c3 f3 q1 hft hs hkn hat hat0 hat1 cl hcl hwb
  by_cases h1 : 0 ≤ fuel
  · have d1 : decide (0 ≤ fuel) = true := by simpa using h1
    by_cases h2 : fuel - x.st < wt
    · have d2 : decide (fuel - x.st < wt) = true := by simpa using h2
      go_enter Tryd.func24, Tryd.ntmps24
      go_wp2
      go_region
      go_wp2
      go_region
      go_wp2_with (first | (go_at_call 53; refine (HW.out _).mono ?_; rintro e w2 ⟨rfl, rfl⟩) | (go_at_call 54; refine (mends_any xb x 90 0 _ (HR.out.own.below (by repeat (first | with_reducible exact Below.refl _ _ | with_reducible assumption | with_reducible refine Below.drew ?_ | with_reducible refine Below.drewN ?_ _ | with_reducible refine Below.alloc ?_ (by first | omega | (simp <;> omega) | (simp at * <;> omega)) _ | with_reducible refine Below.setCell ?_ (by first | omega | (simp <;> omega) | (simp at * <;> omega)) _ | (with_reducible refine Below.trans ?_ (Below.mono (by first | with_reducible assumption | exact hF _) (by first | omega | (simp <;> omega) | (simp at * <;> omega)))))))).mono ?_; rintro e w3 ⟨rfl, hc1, ho1⟩))
      refine bodyPost_ret (results_none rfl _ _ _) rfl ?_
      exact ⟨rfl, fun _ => ⟨chg_xb (by repeat (first | with_reducible exact Chg.refl _ _ | with_reducible assumption | with_reducible refine Chg.drew ?_ | with_reducible refine Chg.drewN ?_ _ | with_reducible refine Chg.alloc ?_ _ | with_reducible refine Chg.setCell ?_ (by first | with_reducible exact .inl rfl | exact .inl (.inl rfl) | exact .inl (.inr rfl) | exact .inr (by simp)) _ | (with_reducible refine Chg.trans ?_ (Chg.of (by first | with_reducible assumption | exact hF _))))) hNX hc1, ho1⟩, fun h => absurd ⟨h1, h2⟩ h⟩
    · have d2 : decide (fuel - x.st < wt) = false := by simpa using h2
      go_enter Tryd.func24, Tryd.ntmps24
      go_wp2
      go_region
      go_wp2
      go_region
      go_wp2_with (first | (go_at_call 53; refine (HW.out _).mono ?_; rintro e w2 ⟨rfl, rfl⟩) | (go_at_call 55; refine (HDO.out _ (by first | omega | (simp <;> omega) | (simp at * <;> omega)) (by repeat (first | with_reducible exact Same.refl _ _ | with_reducible assumption | with_reducible refine Same.drew ?_ | with_reducible refine Same.drewN ?_ _ | with_reducible refine Same.alloc ?_ (by first | omega | (simp <;> omega) | (simp at * <;> omega)) _ | with_reducible refine Same.setCell ?_ (by first | omega | (simp <;> omega) | (simp at * <;> omega)) _ | (with_reducible refine Same.trans ?_ (Same.of (by assumption) (by first | omega | (simp <;> omega) | (simp at * <;> omega)))))) (x.st + wt) ((H0.out.setSt (x.st + wt)).keep (by repeat (first | with_reducible exact Below.refl _ _ | with_reducible assumption | with_reducible refine Below.drew ?_ | with_reducible refine Below.drewN ?_ _ | with_reducible refine Below.alloc ?_ (by first | omega | (simp <;> omega) | (simp at * <;> omega)) _ | with_reducible refine Below.setCell ?_ (by first | omega | (simp <;> omega) | (simp at * <;> omega)) _ | (with_reducible refine Below.trans ?_ (Below.mono (by first | with_reducible assumption | exact hF _) (by first | omega | (simp <;> omega) | (simp at * <;> omega)))))))).mono ?_; rintro e w3 ⟨rfl, hc3, hp3⟩))
      go_end0
      go_light
      exact ⟨rfl, fun h => absurd h.2 (by omega), fun _ => ⟨(((((Chg.refl (fun j => N ≤ j) w).setCell (p := ⟨xb, 7, none⟩) (.inl hNX) _).alloc _).alloc _).drew.drew).trans hc3, hp3⟩⟩
  · have d1 : decide (0 ≤ fuel) = false := by simpa using h1
    go_enter Tryd.func24, Tryd.ntmps24
    go_wp2
    go_region
    go_wp2
    go_region
    go_wp2_with (first | (go_at_call 53; refine (HW.out _).mono ?_; rintro e w2 ⟨rfl, rfl⟩) | (go_at_call 55; refine (HDO.out _ (by first | omega | (simp <;> omega) | (simp at * <;> omega)) (by repeat (first | with_reducible exact Same.refl _ _ | with_reducible assumption | with_reducible refine Same.drew ?_ | with_reducible refine Same.drewN ?_ _ | with_reducible refine Same.alloc ?_ (by first | omega | (simp <;> omega) | (simp at * <;> omega)) _ | with_reducible refine Same.setCell ?_ (by first | omega | (simp <;> omega) | (simp at * <;> omega)) _ | (with_reducible refine Same.trans ?_ (Same.of (by assumption) (by first | omega | (simp <;> omega) | (simp at * <;> omega)))))) (x.st + wt) ((H0.out.setSt (x.st + wt)).keep (by repeat (first | with_reducible exact Below.refl _ _ | with_reducible assumption | with_reducible refine Below.drew ?_ | with_reducible refine Below.drewN ?_ _ | with_reducible refine Below.alloc ?_ (by first | omega | (simp <;> omega) | (simp at * <;> omega)) _ | with_reducible refine Below.setCell ?_ (by first | omega | (simp <;> omega) | (simp at * <;> omega)) _ | (with_reducible refine Below.trans ?_ (Below.mono (by first | with_reducible assumption | exact hF _) (by first | omega | (simp <;> omega) | (simp at * <;> omega)))))))).mono ?_; rintro e w3 ⟨rfl, hc3, hp3⟩))
    go_end0
    go_light
    exact ⟨rfl, fun h => absurd h.1 (by omega), fun _ => ⟨(((((Chg.refl (fun j => N ≤ j) w).setCell (p := ⟨xb, 7, none⟩) (.inl hNX) _).alloc _).alloc _).drew.drew).trans hc3, hp3⟩⟩

theorem RefIs.first {N xb k R W : Nat} {xs : List Int} {x0 : MC} {m : PMod} {w1 w' : World} {e : Ending} (h : EnterPost xb k 0 x0 0 [] xs R W w1 e w') (hx0 : x0.fr = .slice none 0 0 ∧ x0.use = 0 ∧ x0.mf = 0 ∧ x0.mw = 0) (hN : N ≤ xb) (hxl : xb < w1.heap.size) (hR : (fnAt m k).regs = R) (hW : (fnAt m k).words = W) (hxs : xs.length ≤ R) :
    Below N w1 w' ∧ ∃ fr, RefIs N w' xb { x0 with fr := fr, use := (beginP m k xs).use, mf := (beginP m k xs).mf, mw := (beginP m k xs).mw } (beginP m k xs) := by
  obtain ⟨rb, wb, sb, cap, rfl, hc, ho, hrow, hsb, q1, q2, q3, q4, q5, hor, how⟩ := h
  obtain ⟨a1, a2, a3, a4⟩ := hx0
  rw [a1] at hsb hc
  have hsb2 : w1.heap.size ≤ sb := by rcases hsb with h | h; · cases h
                                      · exact h
  have e1 : (frameOf m k 0 xs).regs = xs ++ (List.replicate R 0).drop xs.length := by unfold frameOf zeros; rw [hR]; rfl
  have e2 : (frameOf m k 0 xs).words = List.replicate W 0 := by unfold frameOf zeros; rw [hW]; rfl
  have e4 : (frameOf m k 0 xs).regs.length = R := by rw [e1]; simp; omega
  have e5 : (frameOf m k 0 xs).words.length = W := by rw [e2]; simp
  have e6 : frCells (frameOf m k 0 xs, ⟨rb, wb⟩) = [.int .i64 k, .int .i64 0, .int .i64 0, .slice (some ⟨rb, 0, none⟩) R R, .slice (some ⟨wb, 0, none⟩) W W] := by unfold frCells; rw [e4, e5]; rfl
  refine ⟨hc.below N (by omega) (fun j hj e => by rcases e with e | e; · omega
                                                  · cases e), .slice (some ⟨sb, 0, none⟩) 1 cap, sb, cap, [], (frameOf m k 0 xs, ⟨rb, wb⟩), ?_, rfl, rfl, rfl, rfl, rfl⟩
  refine ⟨?_, rfl, ?_, fun y hy => ?_, hN, by omega, ?_⟩
  · have e7 : sizeOfFn m k = (R : Int) + W := by unfold sizeOfFn; rw [hR, hW]
    simp only [beginP, enterP, e7]
    rw [a2, a3, a4] at ho
    exact ho
  · show w'.ownsRow 0 _ 5 _ 1 _
    simp only [List.nil_append, List.flatMap_cons, List.flatMap_nil, List.append_nil, e6]
    exact hrow
  · simp only [List.nil_append, List.mem_singleton] at hy
    subst hy
    exact ⟨by dsimp only; omega, by dsimp only; omega, by rw [e1]; exact hor, by rw [e2]; exact how⟩
  · simp only [List.nil_append, List.flatMap_cons, List.flatMap_nil, List.append_nil, frBs, List.nodup_cons, List.mem_cons, List.not_mem_nil, or_false, not_or]
    refine ⟨⟨by omega, by omega, by omega⟩, ⟨q4, q5⟩, q3, fun h => h, List.nodup_nil⟩

def BeginPost (m : PMod) (name : ByteArray) (xs : List Int) (most : Int) (ta : Option Addr) (tl tc : Nat) (fa : Option Addr) (fl fc : Nat) (w : World) (e : Ending) (w' : World) : Prop :=
  Below w.heap.size w w' ∧
  if findZ m.funcs name < 0 then e = .returned (.tuple #[.pointer none, .int .i64 8]) else
  if fitsB (fnAt m (findZ m.funcs name).toNat).params xs = false then e = .returned (.tuple #[.pointer none, .int .i64 2]) else
  ∃ xb fr, e = .returned (.tuple #[.pointer (some ⟨xb, 0, none⟩), .int .i64 0]) ∧ RefIs w.heap.size w' xb ⟨ta, tl, tc, fa, fl, fc, fr, most, (beginP m (findZ m.funcs name).toNat xs).use, 0, 0, 0, (beginP m (findZ m.funcs name).toNat xs).mf, (beginP m (findZ m.funcs name).toNat xs).mw, false⟩ (beginP m (findZ m.funcs name).toNat xs)

set_option maxRecDepth 100000 in
set_option maxHeartbeats 4000000 in
theorem mbegin_any {B : Nat} {m : PMod} (hm : Fine m) (ta : Option Addr) (tl tc : Nat) (fa : Option Addr) (fl fc : Nat) (w : World) (hB : B ≤ w.heap.size) (hma : ModAt B w (.agg #[.slice ta tl tc, .slice fa fl fc]) m) (name : ByteArray) (aa : Option Addr) (al ac : Nat) (xs : List Int) (ha : NumsAt B w aa al xs) (most : Int) :
    Calls Tryd.prog 23 #[.agg #[.slice ta tl tc, .slice fa fl fc], .string name, .slice aa al ac, .int .i64 most] w (BeginPost m name xs most ta tl tc fa fl fc w) := by
  have HFIND := Lib.hid (fun (w1 : World) (hz : w.heap.size ≤ w1.heap.size) (hs : Same B w w1) => mfind_any B _ m name w1 (by omega) (hma.same hs))
  have hbd := findZ_bd m.funcs name
  obtain ⟨ta', tl', tc', fa', fl', fc', e, ht, hf⟩ := hma
  injection e with e
  injection e with e
  injection e with e1 e2
  injection e1 with a1 a2 a3
  injection e2 with e3 _
  injection e3 with b1 b2 b3
  subst a1 a2 a3 b1 b2 b3
  have HA := Lib.hid (fun (w1 : World) (hz : w.heap.size ≤ w1.heap.size) (hs : Same B w w1) => ha.up (B' := w1.heap.size) hs (by omega))
  unfold BeginPost
  by_cases h1 : findZ m.funcs name < 0
  · simp only [if_pos h1]
    have d1 : decide (findZ m.funcs name < 0) = true := by simpa using h1
    generalize findZ m.funcs name = k at *
    go_enter Tryd.func23, Tryd.ntmps23
    go_wp2_with (go_at_call 50; refine (HFIND.out _ (by first | omega | (simp <;> omega) | (simp at * <;> omega)) (by repeat (first | with_reducible exact Same.refl _ _ | with_reducible assumption | with_reducible refine Same.drew ?_ | with_reducible refine Same.drewN ?_ _ | with_reducible refine Same.alloc ?_ (by first | omega | (simp <;> omega) | (simp at * <;> omega)) _ | with_reducible refine Same.setCell ?_ (by first | omega | (simp <;> omega) | (simp at * <;> omega)) _ | (with_reducible refine Same.trans ?_ (Same.of (by assumption) (by first | omega | (simp <;> omega) | (simp at * <;> omega))))))).mono ?_; rintro e w1 ⟨rfl, hb1⟩)
    refine bodyPost_ret (v := .tuple #[.pointer none, .int .i64 8]) (by simp [results, Tryd.results23, go_sem]) rfl ⟨(by repeat (first | with_reducible exact Below.refl _ _ | with_reducible assumption | with_reducible refine Below.drew ?_ | with_reducible refine Below.drewN ?_ _ | with_reducible refine Below.alloc ?_ (by first | omega | (simp <;> omega) | (simp at * <;> omega)) _ | with_reducible refine Below.setCell ?_ (by first | omega | (simp <;> omega) | (simp at * <;> omega)) _ | (with_reducible refine Below.trans ?_ (Below.mono (by first | with_reducible assumption | exact hF _) (by first | omega | (simp <;> omega) | (simp at * <;> omega)))))), rfl⟩
  · simp only [if_neg h1]
    have d1 : decide (findZ m.funcs name < 0) = false := by simpa using h1
    obtain ⟨k, hk⟩ := Int.eq_ofNat_of_zero_le (show 0 ≤ findZ m.funcs name by omega)
    rw [hk] at hbd d1 HFIND ⊢
    rw [Int.toNat_natCast]
    have hkl : k < m.funcs.length := by omega
    have fk := hm.fn k hkl
    obtain ⟨f1, f2, fsb, fso, f3, H, f4⟩ := hf
    obtain ⟨hfa, hfb⟩ := f3 (by omega)
    obtain ⟨q1, q2⟩ := f4 k (by omega)
    obtain ⟨_, q3, _⟩ := q2
    have e0 : m.funcs.getD k default = fnAt m k := rfl
    rw [e0] at q1 q3
    obtain ⟨R, hR⟩ := Int.eq_ofNat_of_zero_le (show 0 ≤ (fnAt m k).regs by have := fk.r1; omega)
    obtain ⟨W, hW⟩ := Int.eq_ofNat_of_zero_le fk.w0
    have HFN := Lib.hid (fun (w1 : World) (hs : Same B w w1) => q1.same hs hfb)
    have HFIT := Lib.hid (fun (w1 : World) (hz : w.heap.size ≤ w1.heap.size) (hs : Same B w w1) (u : NumsAt w1.heap.size w1 aa al xs) => mfits_any B (fnAt m k).name (H k).pa (H k).ca (H k).pl (H k).pc (H k).cl (H k).cc (fnAt m k).regs (fnAt m k).words (fnAt m k).params aa al ac xs w1 (by omega) (q3.same hs) u)
    have hfa2 := hfa
    subst hfa2
    have g4 := fk.np
    have g5 := fk.r2
    have g6 := fk.w1
    rw [hR] at g4 g5
    rw [hW] at g6
    have HENT := Lib.hid (fun (w1 : World) (hz : w.heap.size ≤ w1.heap.size) (hs : Same B w w1) (xb : Nat) (hxb : w.heap.size ≤ xb) (hxl : xb < w1.heap.size) (hx : Own w1 xb (MC.cells ⟨ta, tl, tc, some ⟨fsb, fso, none⟩, fl, fc, .slice none 0 0, most, 0, 0, 0, 0, 0, 0, false⟩)) (u : NumsAt w1.heap.size w1 aa al xs) (hal : al ≤ R) =>
      (menters_any fsb fso k fl fc (H k) (fnAt m k) xb ⟨ta, tl, tc, some ⟨fsb, fso, none⟩, fl, fc, .slice none 0 0, most, 0, 0, 0, 0, 0, 0, false⟩ w1 (q1.same hs hfb) (by omega) rfl (by show k < fl; omega) aa al ac xs u 0 R W hR hW (by omega) (by omega) hal hx f2 0 [] (World.ownsRow_nil _ _ _ _) (by simp [Value.ownBlock]) (by omega) (by omega) (by simp [Value.ownBlock]) (by simp)).mono
      (fun e w' h => show e = .returned (.tuple #[]) ∧ EnterPost xb k 0 ⟨ta, tl, tc, some ⟨fsb, fso, none⟩, fl, fc, .slice none 0 0, most, 0, 0, 0, 0, 0, 0, false⟩ 0 [] xs R W w1 (.returned (.tuple #[])) w' from ⟨h.ret.1, by have h2 := h; rw [h2.ret.1] at h2; exact h2⟩))
    have hlen := ha.1
    unfold maxLen at f2
    unfold FuncCells at HFN
    rw [hR, hW] at HFN HFIT
    generalize (fnAt m k).name = nm at HFN HFIT
    generalize H k = hh at HFN HFIT HENT
    have hwk : IntKind.i64.wrap (k : Int) = (k : Int) := IntWalk.i64_in _ (by omega)
    have j1 : (k : Int) < (fl : Int) := by omega
    clear q1 q3 f3 f4
    cases hF' : fitsB (fnAt m k).params xs with
    | false =>
      have hF := Lib.hid hF'; clear hF'
      simp only [if_true]
      go_enter Tryd.func23, Tryd.ntmps23
      go_wp2_with (first
        | (go_at_call 50; refine (HFIND.out _ (by first | omega | (simp <;> omega) | (simp at * <;> omega)) (by repeat (first | with_reducible exact Same.refl _ _ | with_reducible assumption | with_reducible refine Same.drew ?_ | with_reducible refine Same.drewN ?_ _ | with_reducible refine Same.alloc ?_ (by first | omega | (simp <;> omega) | (simp at * <;> omega)) _ | with_reducible refine Same.setCell ?_ (by first | omega | (simp <;> omega) | (simp at * <;> omega)) _ | (with_reducible refine Same.trans ?_ (Same.of (by assumption) (by first | omega | (simp <;> omega) | (simp at * <;> omega))))))).mono ?_; rintro e w1 ⟨rfl, hb1⟩; have hz1 := hb1.size; have om1 := own2 ((Own.new w [.slice ta tl tc, .slice (some ⟨fsb, fso, none⟩) fl fc] 26).below hb1); obtain ⟨c0, c1, c2, c3, c4⟩ := HFN.out w1 (by repeat (first | with_reducible exact Same.refl _ _ | with_reducible assumption | with_reducible refine Same.drew ?_ | with_reducible refine Same.drewN ?_ _ | with_reducible refine Same.alloc ?_ (by first | omega | (simp <;> omega) | (simp at * <;> omega)) _ | with_reducible refine Same.setCell ?_ (by first | omega | (simp <;> omega) | (simp at * <;> omega)) _ | (with_reducible refine Same.trans ?_ (Same.of (by assumption) (by first | omega | (simp <;> omega) | (simp at * <;> omega)))))))
        | (go_at_call 51; refine (HFIT.out _ (by first | omega | (simp <;> omega) | (simp at * <;> omega)) (by repeat (first | with_reducible exact Same.refl _ _ | with_reducible assumption | with_reducible refine Same.drew ?_ | with_reducible refine Same.drewN ?_ _ | with_reducible refine Same.alloc ?_ (by first | omega | (simp <;> omega) | (simp at * <;> omega)) _ | with_reducible refine Same.setCell ?_ (by first | omega | (simp <;> omega) | (simp at * <;> omega)) _ | (with_reducible refine Same.trans ?_ (Same.of (by assumption) (by first | omega | (simp <;> omega) | (simp at * <;> omega)))))) (HA.out _ (by first | omega | (simp <;> omega) | (simp at * <;> omega)) (by repeat (first | with_reducible exact Same.refl _ _ | with_reducible assumption | with_reducible refine Same.drew ?_ | with_reducible refine Same.drewN ?_ _ | with_reducible refine Same.alloc ?_ (by first | omega | (simp <;> omega) | (simp at * <;> omega)) _ | with_reducible refine Same.setCell ?_ (by first | omega | (simp <;> omega) | (simp at * <;> omega)) _ | (with_reducible refine Same.trans ?_ (Same.of (by assumption) (by first | omega | (simp <;> omega) | (simp at * <;> omega)))))))).mono ?_; rintro e w2 ⟨rfl, hb2⟩; rw [hF.out]))
      refine bodyPost_ret (v := .tuple #[.pointer none, .int .i64 2]) (by simp [results, Tryd.results23, go_sem]) rfl ⟨(by repeat (first | with_reducible exact Below.refl _ _ | with_reducible assumption | with_reducible refine Below.drew ?_ | with_reducible refine Below.drewN ?_ _ | with_reducible refine Below.alloc ?_ (by first | omega | (simp <;> omega) | (simp at * <;> omega)) _ | with_reducible refine Below.setCell ?_ (by first | omega | (simp <;> omega) | (simp at * <;> omega)) _ | (with_reducible refine Below.trans ?_ (Below.mono (by first | with_reducible assumption | exact hF _) (by first | omega | (simp <;> omega) | (simp at * <;> omega)))))), rfl⟩
    | true =>
      have hxl := fitsB_length (ps := (fnAt m k).params) (xs := xs) (by rw [hF']; simp)
      have hal : al ≤ R := by omega
      have hF := Lib.hid hF'; clear hF'
      simp only [Bool.true_eq_false, if_false]
      have HFIRST := Lib.hid (fun (w1 w' : World) (xb : Nat) (hN : w.heap.size ≤ xb) (hl : xb < w1.heap.size) h => RefIs.first (N := w.heap.size) (xb := xb) (k := k) (R := R) (W := W) (xs := xs) (x0 := ⟨ta, tl, tc, some ⟨fsb, fso, none⟩, fl, fc, .slice none 0 0, most, 0, 0, 0, 0, 0, 0, false⟩) (m := m) (w1 := w1) (w' := w') (e := .returned (.tuple #[])) h ⟨rfl, rfl, rfl, rfl⟩ hN hl hR hW (by omega))
      clear hR hW
      go_enter Tryd.func23, Tryd.ntmps23
      go_wp2_with (first
        | (go_at_call 50; refine (HFIND.out _ (by first | omega | (simp <;> omega) | (simp at * <;> omega)) (by repeat (first | with_reducible exact Same.refl _ _ | with_reducible assumption | with_reducible refine Same.drew ?_ | with_reducible refine Same.drewN ?_ _ | with_reducible refine Same.alloc ?_ (by first | omega | (simp <;> omega) | (simp at * <;> omega)) _ | with_reducible refine Same.setCell ?_ (by first | omega | (simp <;> omega) | (simp at * <;> omega)) _ | (with_reducible refine Same.trans ?_ (Same.of (by assumption) (by first | omega | (simp <;> omega) | (simp at * <;> omega))))))).mono ?_; rintro e w1 ⟨rfl, hb1⟩; have hz1 := hb1.size; have om1 := own2 ((Own.new w [.slice ta tl tc, .slice (some ⟨fsb, fso, none⟩) fl fc] 26).below hb1); obtain ⟨c0, c1, c2, c3, c4⟩ := HFN.out w1 (by repeat (first | with_reducible exact Same.refl _ _ | with_reducible assumption | with_reducible refine Same.drew ?_ | with_reducible refine Same.drewN ?_ _ | with_reducible refine Same.alloc ?_ (by first | omega | (simp <;> omega) | (simp at * <;> omega)) _ | with_reducible refine Same.setCell ?_ (by first | omega | (simp <;> omega) | (simp at * <;> omega)) _ | (with_reducible refine Same.trans ?_ (Same.of (by assumption) (by first | omega | (simp <;> omega) | (simp at * <;> omega)))))))
        | (go_at_call 51; refine (HFIT.out _ (by first | omega | (simp <;> omega) | (simp at * <;> omega)) (by repeat (first | with_reducible exact Same.refl _ _ | with_reducible assumption | with_reducible refine Same.drew ?_ | with_reducible refine Same.drewN ?_ _ | with_reducible refine Same.alloc ?_ (by first | omega | (simp <;> omega) | (simp at * <;> omega)) _ | with_reducible refine Same.setCell ?_ (by first | omega | (simp <;> omega) | (simp at * <;> omega)) _ | (with_reducible refine Same.trans ?_ (Same.of (by assumption) (by first | omega | (simp <;> omega) | (simp at * <;> omega)))))) (HA.out _ (by first | omega | (simp <;> omega) | (simp at * <;> omega)) (by repeat (first | with_reducible exact Same.refl _ _ | with_reducible assumption | with_reducible refine Same.drew ?_ | with_reducible refine Same.drewN ?_ _ | with_reducible refine Same.alloc ?_ (by first | omega | (simp <;> omega) | (simp at * <;> omega)) _ | with_reducible refine Same.setCell ?_ (by first | omega | (simp <;> omega) | (simp at * <;> omega)) _ | (with_reducible refine Same.trans ?_ (Same.of (by assumption) (by first | omega | (simp <;> omega) | (simp at * <;> omega)))))))).mono ?_; rintro e w2 ⟨rfl, hb2⟩; rw [hF.out]; have om2 := own2 (((Own.new w [.slice ta tl tc, .slice (some ⟨fsb, fso, none⟩) fl fc] 26).below hb1).below hb2); have hz2 := hb2.size)
        | (go_at_call 52; refine (HENT.out _ (by first | omega | (simp <;> omega) | (simp at * <;> omega)) (by repeat (first | with_reducible exact Same.refl _ _ | with_reducible assumption | with_reducible refine Same.drew ?_ | with_reducible refine Same.drewN ?_ _ | with_reducible refine Same.alloc ?_ (by first | omega | (simp <;> omega) | (simp at * <;> omega)) _ | with_reducible refine Same.setCell ?_ (by first | omega | (simp <;> omega) | (simp at * <;> omega)) _ | (with_reducible refine Same.trans ?_ (Same.of (by assumption) (by first | omega | (simp <;> omega) | (simp at * <;> omega)))))) w2.heap.size (by first | omega | (simp <;> omega) | (simp at * <;> omega)) (by first | omega | (simp <;> omega) | (simp at * <;> omega)) (Own.new w2 (MC.cells ⟨ta, tl, tc, some ⟨fsb, fso, none⟩, fl, fc, .slice none 0 0, most, 0, 0, 0, 0, 0, 0, false⟩) _) (HA.out _ (by first | omega | (simp <;> omega) | (simp at * <;> omega)) (by repeat (first | with_reducible exact Same.refl _ _ | with_reducible assumption | with_reducible refine Same.drew ?_ | with_reducible refine Same.drewN ?_ _ | with_reducible refine Same.alloc ?_ (by first | omega | (simp <;> omega) | (simp at * <;> omega)) _ | with_reducible refine Same.setCell ?_ (by first | omega | (simp <;> omega) | (simp at * <;> omega)) _ | (with_reducible refine Same.trans ?_ (Same.of (by assumption) (by first | omega | (simp <;> omega) | (simp at * <;> omega))))))) hal).mono ?_; rintro e w3 ⟨rfl, hp3⟩))
      have hwz : w.heap.size ≤ w1.heap.size := by have := hb1.size; simp at this; omega
      obtain ⟨hb3, fr, hri⟩ := HFIRST.out _ _ w2.heap.size (by omega) (by simp) hp3
      have hb4 : Below w.heap.size w (w2.alloc (.cells (MC.cells ⟨ta, tl, tc, some ⟨fsb, fso, none⟩, fl, fc, .slice none 0 0, most, 0, 0, 0, 0, 0, 0, false⟩).toArray 69)) := (by repeat (first | with_reducible exact Below.refl _ _ | with_reducible assumption | with_reducible refine Below.drew ?_ | with_reducible refine Below.drewN ?_ _ | with_reducible refine Below.alloc ?_ (by first | omega | (simp <;> omega) | (simp at * <;> omega)) _ | with_reducible refine Below.setCell ?_ (by first | omega | (simp <;> omega) | (simp at * <;> omega)) _ | (with_reducible refine Below.trans ?_ (Below.mono (by first | with_reducible assumption | exact hF _) (by first | omega | (simp <;> omega) | (simp at * <;> omega))))))
      refine bodyPost_ret (v := .tuple #[.pointer (some ⟨w2.heap.size, 0, none⟩), .int .i64 0]) (by simp [results, Tryd.results23, go_sem]) rfl ⟨hb4.trans hb3, w2.heap.size, fr, rfl, hri⟩

/-- a run that comes to an end: what is true of its states (a number that falls, the steps so far, the state), and what it answers -/
structure GoInv (m : PMod) (lim fuel : Int) (R : POut) (I : Nat → Int → PSt → Prop) : Prop where
  bd : ∀ k st s, I k st s → StOk m s ∧ s.rest.length ≤ 1000000 ∧ 0 ≤ st ∧ st ≤ 1099511627776
  out : ∀ k st s, I k st s → 0 ≤ fuel ∧ fuel - st < weightZ (insAt m s.top).op → R = ⟨90, 0, st, s.mf, s.mw⟩
  next : ∀ k st s, I k st s → ¬ (0 ≤ fuel ∧ fuel - st < weightZ (insAt m s.top).op) → ∀ s', doP m lim s.pass (insAt m s.top) = .next s' → ∃ k', k' < k ∧ I k' (st + weightZ (insAt m s.top).op) s'
  done : ∀ k st s, I k st s → ¬ (0 ≤ fuel ∧ fuel - st < weightZ (insAt m s.top).op) → ∀ v u mf mw, doP m lim s.pass (insAt m s.top) = .done v u mf mw → R = ⟨0, v, st + weightZ (insAt m s.top).op, mf, mw⟩
  trap : ∀ k st s, I k st s → ¬ (0 ≤ fuel ∧ fuel - st < weightZ (insAt m s.top).op) → ∀ e, doP m lim s.pass (insAt m s.top) = .trap e → R = ⟨e, 0, st + weightZ (insAt m s.top).op, s.mf, s.mw⟩

/-- what is true at the loop's head -/
def GoRel (N : Nat) (xb : Nat) (ta : Option Addr) (tl tc : Nat) (fa : Option Addr) (fl fc : Nat) (most : Int) (I : Nat → Int → PSt → Prop) (R : POut) (w : World) (k : Nat) (wr : World) : Prop :=
  Below N w wr ∧ ((∃ kk st s fr, k = kk + 1 ∧ RefIs N wr xb ⟨ta, tl, tc, fa, fl, fc, fr, most, s.use, 0, 0, st, s.mf, s.mw, false⟩ s ∧ I kk st s) ∨
    (k = 0 ∧ ∃ fr use, Own wr xb (MC.cells ⟨ta, tl, tc, fa, fl, fc, fr, most, use, R.e, R.v, R.steps, R.mf, R.mw, true⟩)))

theorem go_end (Q : Ending → World → Prop) (T : Array Value) (W : World) (k : Nat) (e v st mf mw : Int) (ho : Own W k [.int .i64 e, .int .i64 v, .int .i64 st, .int .i64 mf, .int .i64 mw]) (hT : T[10]? = some (.pointer (some ⟨k, 0, none⟩))) (x : Exit) (hx : x = .ret ∨ x = .normal)
    (hq : Q (.returned (outV ⟨e, v, st, mf, mw⟩)) W) : bodyPost Tryd.prog Tryd.f11 Q x { tmps := T, defers := [] } W := by
  obtain ⟨_, r0, r1, r2, r3, r4, _⟩ := own5 ho
  have hr : (results Tryd.f11 T).run Tryd.prog W = .ok (outV ⟨e, v, st, mf, mw⟩) W := by
    simp [outV, results, Tryd.results11, go_sem, hT, r0, r1, r2, r3, r4]
  rcases hx with rfl | rfl
  · exact bodyPost_ret hr rfl hq
  · exact ⟨rfl, _, hr, hq⟩

set_option maxRecDepth 100000 in
set_option maxHeartbeats 4000000 in
theorem mGo_any {B : Nat} {m : PMod} (hm : Fine m) (h64 : ∀ k i, k < m.funcs.length → i < (fnAt m k).code.length → InsOk ((fnAt m k).code.getD i default)) (ta : Option Addr) (tl tc : Nat) (fa : Option Addr) (fl fc : Nat) (w : World) (hB : B ≤ w.heap.size) (hma : ModAt B w (.agg #[.slice ta tl tc, .slice fa fl fc]) m) (name : ByteArray) (aa : Option Addr) (al ac : Nat) (xs : List Int) (ha : NumsAt B w aa al xs)
    (fuel most : Int) (hfu : -1099511627776 ≤ fuel ∧ fuel ≤ 1099511627776) (R : POut) (hR1 : findZ m.funcs name < 0 → R = ⟨8, 0, 0, 0, 0⟩) (hR2 : ¬ findZ m.funcs name < 0 → fitsB (fnAt m (findZ m.funcs name).toNat).params xs = false → R = ⟨2, 0, 0, 0, 0⟩)
    (I : Nat → Int → PSt → Prop) (k0 : Nat) (hI0 : ¬ findZ m.funcs name < 0 → ¬ fitsB (fnAt m (findZ m.funcs name).toNat).params xs = false → GoInv m most fuel R I ∧ I k0 0 (beginP m (findZ m.funcs name).toNat xs)) :
    Calls Tryd.prog 11 #[.agg #[.slice ta tl tc, .slice fa fl fc], .string name, .slice aa al ac, .int .i64 fuel, .int .i64 most] w fun e w' => e = .returned (outV R) ∧ Below w.heap.size w w' := by
  have HBEG := Lib.hid (fun (w1 : World) (hz : w.heap.size ≤ w1.heap.size) (hs : Same B w w1) => mbegin_any (B := B) hm ta tl tc fa fl fc w1 (by omega) (hma.same hs) name aa al ac xs (ha.same hs) most)
  have hf := hma
  obtain ⟨ta', tl', tc', fa', fl', fc', e, ht, hf⟩ := hma
  injection e with e
  injection e with e
  injection e with e1 e2
  injection e1 with a1 a2 a3
  injection e2 with e3 _
  injection e3 with b1 b2 b3
  subst a1 a2 a3 b1 b2 b3
  unfold BeginPost at HBEG
  by_cases h1 : findZ m.funcs name < 0
  · simp only [if_pos h1] at HBEG
    have HR := Lib.hid (hR1 h1)
    clear hR1 hR2 hI0 h1
    go_enter Tryd.func11, Tryd.ntmps11
    go_wp2_with (go_at_call 23; refine (HBEG.out _ (by first | omega | (simp <;> omega) | (simp at * <;> omega)) (by repeat (first | with_reducible exact Same.refl _ _ | with_reducible assumption | with_reducible refine Same.drew ?_ | with_reducible refine Same.drewN ?_ _ | with_reducible refine Same.alloc ?_ (by first | omega | (simp <;> omega) | (simp at * <;> omega)) _ | with_reducible refine Same.setCell ?_ (by first | omega | (simp <;> omega) | (simp at * <;> omega)) _ | (with_reducible refine Same.trans ?_ (Same.of (by assumption) (by first | omega | (simp <;> omega) | (simp at * <;> omega))))))).mono ?_; rintro e w1 ⟨hb1, rfl⟩; have hz1 := hb1.size; have ore : Own w1 (w.heap.size + 1) [.int .i64 0, .int .i64 0, .int .i64 0, .int .i64 0, .int .i64 0] := (Own.new' _ _ _ _ (by simp)).below hb1; have o5 := own5 ore; have s5 := set5 ore; have Ore := Lib.hid ore; clear ore)
    refine go_end _ _ _ (w.heap.size + 1) 8 0 0 0 0 ((own5_set Ore.out _ _ _ _ _)) rfl _ (by simp) ⟨?_, (by repeat (first | with_reducible exact Below.refl _ _ | with_reducible assumption | with_reducible refine Below.drew ?_ | with_reducible refine Below.drewN ?_ _ | with_reducible refine Below.alloc ?_ (by first | omega | (simp <;> omega) | (simp at * <;> omega)) _ | with_reducible refine Below.setCell ?_ (by first | omega | (simp <;> omega) | (simp at * <;> omega)) _ | (with_reducible refine Below.trans ?_ (Below.mono (by first | with_reducible assumption | exact hF _) (by first | omega | (simp <;> omega) | (simp at * <;> omega))))))⟩
    rw [HR.out]
  · by_cases h2 : fitsB (fnAt m (findZ m.funcs name).toNat).params xs = false
    · simp only [if_neg h1, if_pos h2] at HBEG
      have HR := Lib.hid (hR2 h1 h2)
      clear hR1 hR2 hI0 h1 h2
      go_enter Tryd.func11, Tryd.ntmps11
      go_wp2_with (go_at_call 23; refine (HBEG.out _ (by first | omega | (simp <;> omega) | (simp at * <;> omega)) (by repeat (first | with_reducible exact Same.refl _ _ | with_reducible assumption | with_reducible refine Same.drew ?_ | with_reducible refine Same.drewN ?_ _ | with_reducible refine Same.alloc ?_ (by first | omega | (simp <;> omega) | (simp at * <;> omega)) _ | with_reducible refine Same.setCell ?_ (by first | omega | (simp <;> omega) | (simp at * <;> omega)) _ | (with_reducible refine Same.trans ?_ (Same.of (by assumption) (by first | omega | (simp <;> omega) | (simp at * <;> omega))))))).mono ?_; rintro e w1 ⟨hb1, rfl⟩; have hz1 := hb1.size; have ore : Own w1 (w.heap.size + 1) [.int .i64 0, .int .i64 0, .int .i64 0, .int .i64 0, .int .i64 0] := (Own.new' _ _ _ _ (by simp)).below hb1; have o5 := own5 ore; have s5 := set5 ore; have Ore := Lib.hid ore; clear ore)
      refine go_end _ _ _ (w.heap.size + 1) 2 0 0 0 0 ((own5_set Ore.out _ _ _ _ _)) rfl _ (by simp) ⟨?_, (by repeat (first | with_reducible exact Below.refl _ _ | with_reducible assumption | with_reducible refine Below.drew ?_ | with_reducible refine Below.drewN ?_ _ | with_reducible refine Below.alloc ?_ (by first | omega | (simp <;> omega) | (simp at * <;> omega)) _ | with_reducible refine Below.setCell ?_ (by first | omega | (simp <;> omega) | (simp at * <;> omega)) _ | (with_reducible refine Below.trans ?_ (Below.mono (by first | with_reducible assumption | exact hF _) (by first | omega | (simp <;> omega) | (simp at * <;> omega))))))⟩
      rw [HR.out]
    · simp only [if_neg h1, if_neg h2] at HBEG
      obtain ⟨hG, hI⟩ := hI0 h1 h2
      have HI := Lib.hid hI
      have HG := Lib.hid hG
      clear hR1 hR2 hI0 h1 h2 hG hI
      generalize beginP m (findZ m.funcs name).toNat xs = s0 at *
      go_enter Tryd.func11, Tryd.ntmps11
      go_wp2_with (go_at_call 23; refine (HBEG.out _ (by first | omega | (simp <;> omega) | (simp at * <;> omega)) (by repeat (first | with_reducible exact Same.refl _ _ | with_reducible assumption | with_reducible refine Same.drew ?_ | with_reducible refine Same.drewN ?_ _ | with_reducible refine Same.alloc ?_ (by first | omega | (simp <;> omega) | (simp at * <;> omega)) _ | with_reducible refine Same.setCell ?_ (by first | omega | (simp <;> omega) | (simp at * <;> omega)) _ | (with_reducible refine Same.trans ?_ (Same.of (by assumption) (by first | omega | (simp <;> omega) | (simp at * <;> omega))))))).mono ?_; rintro e w1 ⟨hb1, xb, fr0, rfl, hri⟩; have hz1 := hb1.size; have ore : Own w1 (w.heap.size + 1) [.int .i64 0, .int .i64 0, .int .i64 0, .int .i64 0, .int .i64 0] := (Own.new' _ _ _ _ (by simp)).below hb1; have o5 := own5 ore; have s5 := set5 ore; have Ore := Lib.hid ore; clear ore)
      generalize hN : Array.size (World.heap (World.alloc _ _)) = N at hri
      have hN2 : N = w.heap.size + 2 := by rw [← hN]; simp
      have hbw1 : Below w.heap.size w w1 := (by repeat (first | with_reducible exact Below.refl _ _ | with_reducible assumption | with_reducible refine Below.drew ?_ | with_reducible refine Below.drewN ?_ _ | with_reducible refine Below.alloc ?_ (by first | omega | (simp <;> omega) | (simp at * <;> omega)) _ | with_reducible refine Below.setCell ?_ (by first | omega | (simp <;> omega) | (simp at * <;> omega)) _ | (with_reducible refine Below.trans ?_ (Below.mono (by first | with_reducible assumption | exact hF _) (by first | omega | (simp <;> omega) | (simp at * <;> omega))))))
      clear hN hb1
      have HRI := Lib.hid hri; clear hri
      have HF := Lib.hid hf; clear hf
      go_loopg [] (k0 + 1) (fun k wr => GoRel N xb ta tl tc fa fl fc most I R w1 k wr)
      case atStart => exact ⟨Below.refl _ _, .inl ⟨k0, 0, s0, fr0, rfl, HRI.out, HI.out⟩⟩
      case round =>
        obtain ⟨hbel, hA | hA⟩ := hrel
        · obtain ⟨kk, st, s, fr, rfl, hR, hIk⟩ := hA
          obtain ⟨b1, b2, b3, b4⟩ := HG.out.bd kk st s hIk
          have hz := hbel.size
          have hs1 : Same B w wr := (Same.of hbw1 hB).trans (fun b o hb => Same.of' hbel b o (by omega))
          have hNX := hR.nx
          have o := own11 hNX.2
          have hn := mnext_any hm h64 xb _ s wr (show B ≤ N by omega) (by omega) (show FuncsAt B wr fa fl m.funcs from HF.out.same hs1) hR b1 b2 fuel hfu ⟨b3, b4⟩
          have HN := Lib.hid hn; clear hn
          have HR := Lib.hid hR; clear hR
          have hxl : xb < wr.heap.size := o.1
          by_cases hq : 0 ≤ fuel ∧ fuel - st < weightZ (insAt m s.top).op
          · have e1 := HG.out.out kk st s hIk hq
            go_wp2_with (go_at_call 24; refine HN.out.mono ?_; rintro e w2 ⟨rfl, hp⟩)
            obtain ⟨hc, ho⟩ := hp.1 hq
            go_roundg 0
            case measure => go_light; omega
            case rel =>
              refine ⟨hbel.trans (hc.below N (by omega) (fun j hj e => by omega)), .inr ⟨rfl, fr, s.use, ?_⟩⟩
              rw [e1]
              exact ho
          · have e2 := HG.out.next kk st s hIk hq
            have e3 := HG.out.done kk st s hIk hq
            have e4 := HG.out.trap kk st s hIk hq
            have E2 := Lib.hid e2; clear e2
            have E3 := Lib.hid e3; clear e3
            have E4 := Lib.hid e4; clear e4
            go_wp2_with (go_at_call 24; refine HN.out.mono ?_; rintro e w2 ⟨rfl, hp⟩)
            obtain ⟨hc, hm2⟩ := hp.2 hq
            have hbel2 : Below N w1 w2 := hbel.trans (hc.below N (by omega) (fun j hj e => by omega))
            cases hd : doP m most s.pass (insAt m s.top) with
            | next s' =>
              rw [hd] at hm2
              obtain ⟨fr', hri'⟩ := hm2
              obtain ⟨k', hk', hi'⟩ := E2.out s' hd
              go_roundg (k' + 1)
              case measure => go_light; omega
              case rel => exact ⟨hbel2, .inl ⟨k', _, s', fr', rfl, hri', hi'⟩⟩
            | done v u mf mw =>
              rw [hd] at hm2
              obtain ⟨u', fr', ho⟩ := hm2
              have e5 := E3.out v u mf mw hd
              go_roundg 0
              case measure => go_light; omega
              case rel =>
                refine ⟨hbel2, .inr ⟨rfl, fr', u', ?_⟩⟩
                rw [e5]
                exact ho
            | trap t =>
              rw [hd] at hm2
              have e5 := E4.out t hd
              go_roundg 0
              case measure => go_light; omega
              case rel =>
                refine ⟨hbel2, .inr ⟨rfl, fr, s.use, ?_⟩⟩
                rw [e5]
                exact hm2
        · obtain ⟨rfl, fr, use, hO⟩ := hA
          have hz := hbel.size
          have o := own11 hO
          have ore := Ore.out.of_below hbel (by omega)
          have o5' := own5 ore
          have s5' := set5 ore
          have HO := Lib.hid hO; clear hO
          have Ore2 := Lib.hid ore; clear ore
          dsimp only at o
          go_wp2
          refine go_end _ _ _ (w.heap.size + 1) R.e R.v R.steps R.mf R.mw (own5_set Ore2.out _ _ _ _ _) rfl _ (by simp) ⟨rfl, ?_⟩
          exact Below.trans hbw1 (Below.trans (Below.mono hbel (by omega)) (by repeat (first | with_reducible exact Below.refl _ _ | with_reducible assumption | with_reducible refine Below.drew ?_ | with_reducible refine Below.drewN ?_ _ | with_reducible refine Below.alloc ?_ (by first | omega | (simp <;> omega) | (simp at * <;> omega)) _ | with_reducible refine Below.setCell ?_ (by first | omega | (simp <;> omega) | (simp at * <;> omega)) _ | (with_reducible refine Below.trans ?_ (Below.mono (by first | with_reducible assumption | exact hF _) (by first | omega | (simp <;> omega) | (simp at * <;> omega)))))))
end Go.Proofs.YtgpdggjpbmgegaaDoor
