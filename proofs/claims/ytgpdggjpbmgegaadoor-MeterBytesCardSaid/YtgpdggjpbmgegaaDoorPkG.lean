/- Package pack: Decode of a module's bytes (under way). -/
import Derived.Test.YtgpdggjpbmgegaaDoorPkF
namespace Go.Proofs.YtgpdggjpbmgegaaDoor
open Go.RowKit
set_option linter.unusedVariables false
set_option linter.unusedSimpArgs false


theorem spans_of_row {w : World} {v : Value} {ps : List PSpan} (h : w.ownsRow 0 74 2 v ps.length (ps.flatMap spanC)) (h64 : ∀ i, i < ps.length → In64 (ps.getD i default).lo ∧ In64 (ps.getD i default).hi) (hm : ps.length ≤ maxLen) : ∃ a c, v = .slice a ps.length c ∧ SpansAt w.heap.size w a ps.length ps := by
  rcases h.2 with ⟨h1, h2⟩ | ⟨g, cap, cur, h1, _⟩
  · refine ⟨none, 0, by rw [h1, h2], rfl, hm, 0, 0, fun h0 => by omega, fun i hi => by omega⟩
  · refine ⟨some ⟨g, 0, none⟩, cap, h1, rfl, hm, g, 0, fun _ => ⟨rfl, (h.lt g (by rw [h1]; rfl)).2⟩, fun i hi => ?_⟩
    have e : ps.getD i default = ps[i] := getD_eq _ i hi
    rw [h1] at h
    have c0 := flat_at spanC 2 (fun _ => rfl) ps i 0 hi (by omega)
    have c1 := flat_at spanC 2 (fun _ => rfl) ps i 1 hi (by omega)
    have q := h64 i hi
    rw [e] at q ⊢
    refine ⟨?_, ?_, q⟩
    · have := own_cells h (j := i * 2 + 0) (u := .int .i64 ps[i].lo) (by rw [c0]; rfl)
      simpa using this
    · have := own_cells h (j := i * 2 + 1) (u := .int .i64 ps[i].hi) (by rw [c1]; rfl)
      simpa using this
theorem code_of_row {w : World} {v : Value} {xs : List PIns} (h : w.ownsRow 0 47 5 v xs.length (xs.flatMap insC)) (h64 : ∀ i, i < xs.length → InsOk (xs.getD i default)) (hm : xs.length ≤ maxLen) : ∃ a c, v = .slice a xs.length c ∧ CodeAt w.heap.size w a xs.length xs := by
  rcases h.2 with ⟨h1, h2⟩ | ⟨g, cap, cur, h1, _⟩
  · refine ⟨none, 0, by rw [h1, h2], rfl, hm, 0, 0, fun h0 => by omega, fun i hi => by omega⟩
  · refine ⟨some ⟨g, 0, none⟩, cap, h1, rfl, hm, g, 0, fun _ => ⟨rfl, (h.lt g (by rw [h1]; rfl)).2⟩, fun i hi => ?_⟩
    have e : xs.getD i default = xs[i] := getD_eq _ i hi
    rw [h1] at h
    have cc : ∀ r u, r < 5 → (insC xs[i])[r]? = some u → w.cell? ⟨g, 0 + i * 5 + r, none⟩ = some u := fun r u hr hu => by
      have := own_cells h (j := i * 5 + r) (u := u) (by rw [flat_at insC 5 (fun _ => rfl) xs i r hi hr]; exact hu)
      simpa using this
    have q := h64 i hi
    rw [e] at q ⊢
    exact ⟨⟨cc 0 _ (by omega) rfl, cc 1 _ (by omega) rfl, cc 2 _ (by omega) rfl, cc 3 _ (by omega) rfl, cc 4 _ (by omega) rfl⟩, q⟩
theorem nums_of_row {w : World} {v : Value} {zs : List Int} (h : w.ownsRow 0 2 1 v zs.length (Nums zs)) (h64 : ∀ i, i < zs.length → In64 (zs.getD i 0)) (hm : zs.length ≤ maxLen) : ∃ a c, v = .slice a zs.length c ∧ NumsAt w.heap.size w a zs.length zs := by
  rcases h.2 with ⟨h1, h2⟩ | ⟨g, cap, cur, h1, _⟩
  · refine ⟨none, 0, by rw [h1, h2], rfl, hm, 0, 0, fun h0 => by omega, fun i hi => by omega⟩
  · refine ⟨some ⟨g, 0, none⟩, cap, h1, rfl, hm, g, 0, fun _ => ⟨rfl, (h.lt g (by rw [h1]; rfl)).2⟩, fun i hi => ⟨?_, h64 i hi⟩⟩
    rw [h1] at h
    rw [Nat.zero_add]
    exact own_cells h (Nums_some (getD_some hi))

/-- a function that has been read: its lists lie in rows of their own -/
structure DFn (w : World) (N : Nat) (fv : Value) (z : PFunc × Value × Value) : Prop where
  pr : w.ownsRow 0 74 2 z.2.1 z.1.params.length (z.1.params.flatMap spanC)
  cr : w.ownsRow 0 47 5 z.2.2 z.1.code.length (z.1.code.flatMap insC)
  pN : ∀ k, z.2.1.ownBlock = some k → N ≤ k ∧ fv.ownBlock ≠ some k
  cN : ∀ k, z.2.2.ownBlock = some k → N ≤ k ∧ fv.ownBlock ≠ some k
def dcells (z : PFunc × Value × Value) : List Value := [.string z.1.name, z.2.1, .int .i64 z.1.regs, .int .i64 z.1.words, z.2.2]
theorem DFn.chg {S : Nat → Prop} {w w' : World} {N : Nat} {fv : Value} {z : PFunc × Value × Value} (h : DFn w N fv z) (c : Chg S w w') (hS : ∀ k, N ≤ k → S k → fv.ownBlock = some k) : DFn w' N fv z :=
  ⟨ownsRow_chgV c h.pr (fun k hk hs => (h.pN k hk).2 (hS k (h.pN k hk).1 hs)), ownsRow_chgV c h.cr (fun k hk hs => (h.cN k hk).2 (hS k (h.cN k hk).1 hs)), h.pN, h.cN⟩
/-- the functions that have been read -/
structure DRow (w : World) (N : Nat) (fv : Value) (zs : List (PFunc × Value × Value)) : Prop where
  row : w.ownsRow 0 51 5 fv zs.length (zs.flatMap dcells)
  far : ∀ k, fv.ownBlock = some k → N ≤ k
  each : ∀ z ∈ zs, DFn w N fv z
theorem DRow.chg {S : Nat → Prop} {w w' : World} {N : Nat} {fv : Value} {zs : List (PFunc × Value × Value)} (h : DRow w N fv zs) (c : Chg S w w') (hS : ∀ k, N ≤ k → ¬ S k) : DRow w' N fv zs :=
  ⟨ownsRow_chgV c h.row (fun k hk => hS k (h.far k hk)), h.far, fun z hz => (h.each z hz).chg c (fun k hk hs => absurd hs (hS k hk))⟩
theorem dcells_len (zs : List (PFunc × Value × Value)) : (zs.flatMap dcells).length = zs.length * 5 := by
  induction zs with
  | nil => rfl
  | cons z zs ih => rw [List.flatMap_cons, List.length_append, ih]; simp [dcells]; omega
theorem drow_funcs {w : World} {N : Nat} {fv : Value} {zs : List (PFunc × Value × Value)} {fs : List PFunc} (h : DRow w N fv zs) (hz : zs.map (·.1) = fs) (hm : fs.length ≤ maxLen) (hok : ∀ i, i < fs.length → (fs.getD i default).name.size ≤ maxLen ∧ (fs.getD i default).params.length ≤ maxLen ∧ (fs.getD i default).code.length ≤ maxLen ∧ In64 (fs.getD i default).regs ∧ In64 (fs.getD i default).words ∧
    (∀ j, j < (fs.getD i default).params.length → In64 ((fs.getD i default).params.getD j default).lo ∧ In64 ((fs.getD i default).params.getD j default).hi) ∧ ∀ j, j < (fs.getD i default).code.length → InsOk ((fs.getD i default).code.getD j default)) : ∃ a c, fv = .slice a fs.length c ∧ FuncsAt w.heap.size w a fs.length fs := by
  have hl : zs.length = fs.length := by rw [← hz]; simp
  have hex : ∀ i, i < fs.length → ∃ hh : HF, (∀ g cap, fv = .slice (some ⟨g, 0, none⟩) zs.length cap → FuncCells w g (0 + i * 5) hh (fs.getD i default)) ∧ FuncOk w.heap.size w hh (fs.getD i default) := by
    intro i hi
    have hi2 : i < zs.length := by omega
    have e : fs.getD i default = zs[i].1 := by rw [getD_eq fs i hi]; subst hz; simp
    obtain ⟨k1, k2, k3, k4, k5, k6, k7⟩ := hok i hi
    rw [e] at k1 k2 k3 k4 k5 k6 k7 ⊢
    have hd := h.each zs[i] (List.getElem_mem hi2)
    obtain ⟨pa, pc, hp, hps⟩ := spans_of_row hd.pr k6 k2
    obtain ⟨ca, cc, hc, hcs⟩ := code_of_row hd.cr k7 k3
    refine ⟨⟨pa, zs[i].1.params.length, pc, ca, zs[i].1.code.length, cc⟩, fun g cap hg => ?_, k1, hps, hcs, k4, k5⟩
    have hrow := h.row
    rw [hg] at hrow
    have cl : ∀ r u, r < 5 → (dcells zs[i])[r]? = some u → w.cell? ⟨g, 0 + i * 5 + r, none⟩ = some u := fun r u hr hu => by
      have := own_cells hrow (j := i * 5 + r) (u := u) (by rw [flat_at dcells 5 (fun _ => rfl) zs i r hi2 hr]; exact hu)
      simpa using this
    exact ⟨cl 0 _ (by omega) rfl, cl 1 _ (by omega) (by simp [dcells, hp]), cl 2 _ (by omega) rfl, cl 3 _ (by omega) rfl, cl 4 _ (by omega) (by simp [dcells, hc])⟩
  have hH : ∃ H : Nat → HF, ∀ i, i < fs.length → (∀ g cap, fv = .slice (some ⟨g, 0, none⟩) zs.length cap → FuncCells w g (0 + i * 5) (H i) (fs.getD i default)) ∧ FuncOk w.heap.size w (H i) (fs.getD i default) := by
    refine ⟨fun i => if hi : i < fs.length then (hex i hi).choose else default, fun i hi => ?_⟩
    simp only [dif_pos hi]
    exact (hex i hi).choose_spec
  obtain ⟨H, hH⟩ := hH
  rcases h.row.2 with ⟨h1, h2⟩ | ⟨g, cap, cur, h1, _⟩
  · exact ⟨none, 0, by rw [h1, ← hl, h2], rfl, hm, 0, 0, fun h0 => by omega, H, fun i hi => by omega⟩
  · refine ⟨some ⟨g, 0, none⟩, cap, by rw [h1, hl], rfl, hm, g, 0, fun _ => ⟨rfl, (h.row.lt g (by rw [h1]; rfl)).2⟩, H, fun i hi => ⟨(hH i hi).1 g cap h1, (hH i hi).2⟩⟩

theorem Tryd.infoFnc : (Tryd.prog.info? 51).map (fun i => (i.zero, i.size, i.bytes)) = some (some (.agg #[.string ⟨#[]⟩, .slice none 0 0, .int .i64 0, .int .i64 0, .slice none 0 0]), 5, 80) := by kernel_rfl
theorem Reads.self (l : List Int) : Reads l 0 l := ⟨by omega, fun i _ => by rw [Nat.zero_add]⟩
theorem DRow.push {wr w5 w6 : World} {N rk gg cap2 : Nat} {fv : Value} {zs : List (PFunc × Value × Value)} {z : PFunc × Value × Value} (h : DRow wr N fv zs) (hN : N ≤ wr.heap.size) (hrk : rk < N) (c45 : Chg (· = rk) wr w5) (k6 : Chg (fun k => fv.ownBlock = some k) w5 w6) (hp : w5.ownsRow 0 74 2 z.2.1 z.1.params.length (z.1.params.flatMap spanC)) (hc : w5.ownsRow 0 47 5 z.2.2 z.1.code.length (z.1.code.flatMap insC))
    (hpb : ∀ k, z.2.1.ownBlock = some k → wr.heap.size ≤ k) (hcb : ∀ k, z.2.2.ownBlock = some k → wr.heap.size ≤ k) (hrow : w6.ownsRow 0 51 5 (.slice (some ⟨gg, 0, none⟩) (zs.length + 1) cap2) (zs.length + 1) (zs.flatMap dcells ++ dcells z)) (hat : fv.ownBlock = some gg ∨ gg = w5.heap.size + 1) : DRow w6 N (.slice (some ⟨gg, 0, none⟩) (zs.length + 1) cap2) (zs ++ [z]) := by
  have hz := c45.size
  have hgf : ∀ k, k < w5.heap.size → fv.ownBlock ≠ some k → (Value.slice (some ⟨gg, 0, none⟩) (zs.length + 1) cap2).ownBlock ≠ some k := by
    intro k hk hne e
    have e' : gg = k := by simpa [Value.ownBlock] using e
    rcases hat with q | q
    · exact hne (by rw [q, e'])
    · omega
  have hfr : ∀ k, fv.ownBlock = some k → k < wr.heap.size := fun k hk => (h.row.lt k hk).2
  refine ⟨by simpa [List.flatMap_append] using hrow, fun k hk => ?_, fun y hy => ?_⟩
  · have e' : gg = k := by simpa [Value.ownBlock] using hk
    subst e'
    rcases hat with q | q
    · exact h.far _ q
    · omega
  · rcases List.mem_append.1 hy with q | q
    · have h5 := (h.each y q).chg c45 (fun k hk e => by omega)
      have h6 := h5.chg k6 (fun k _ e => e)
      exact ⟨h6.pr, h6.cr, fun k hk => ⟨(h5.pN k hk).1, hgf k (h5.pr.lt k hk).2 (h5.pN k hk).2⟩, fun k hk => ⟨(h5.cN k hk).1, hgf k (h5.cr.lt k hk).2 (h5.cN k hk).2⟩⟩
    · rw [List.mem_singleton.1 q]
      have f1 : ∀ k, z.2.1.ownBlock = some k → fv.ownBlock ≠ some k := fun k hk e => by have := hpb k hk; have := hfr k e; omega
      have f2 : ∀ k, z.2.2.ownBlock = some k → fv.ownBlock ≠ some k := fun k hk e => by have := hcb k hk; have := hfr k e; omega
      exact ⟨ownsRow_chgV k6 hp f1, ownsRow_chgV k6 hc f2, fun k hk => ⟨by have := hpb k hk; omega, hgf k (hp.lt k hk).2 (f1 k hk)⟩, fun k hk => ⟨by have := hcb k hk; omega, hgf k (hc.lt k hk).2 (f2 k hk)⟩⟩
theorem set2 {w : World} {k : Nat} {a b : Value} (h : Own w k [a, b]) (x y : Value) : (w.setCell ⟨k, 0, none⟩ x).cell? ⟨k, 0, none⟩ = some x ∧ ((w.setCell ⟨k, 0, none⟩ x).setCell ⟨k, 1, none⟩ y).cell? ⟨k, 1, none⟩ = some y :=
  ⟨(h.set 0 x (by simp)).2.1 0 _ rfl, ((h.set 0 x (by simp)).set 1 y (by simp)).2.1 1 _ rfl⟩
theorem dec_end (Q : Ending → World → Prop) (T : Array Value) (W : World) (k : Nat) (ta fa : Option Addr) (tl tc fl fc : Nat) (ho : Own W k [.slice ta tl tc, .slice fa fl fc]) (hT : T[2]? = some (.pointer (some ⟨k, 0, none⟩))) (hT3 : T[3]? = some (.int .i64 0)) (hT4 : T[4]? = some (.int .i64 0)) (ex : Exit) (hx : ex = .ret ∨ ex = .normal)
    (hq : Q (.returned (.tuple #[.agg #[.slice ta tl tc, .slice fa fl fc], .int .i64 0, .int .i64 0])) W) : bodyPost Tryd.prog Tryd.f17 Q ex { tmps := T, defers := [] } W := by
  obtain ⟨_, r0, r1, _⟩ := own2 ho
  have hr : (results Tryd.f17 T).run Tryd.prog W = .ok (.tuple #[.agg #[.slice ta tl tc, .slice fa fl fc], .int .i64 0, .int .i64 0]) W := by
    simp [results, Tryd.results17, go_sem, hT, hT3, hT4, r0, r1]
  rcases hx with rfl | rfl
  · exact bodyPost_ret hr rfl hq
  · exact ⟨rfl, _, hr, hq⟩
theorem calls_fun {P : Program} {f : FuncId} {args : Array Value} {w : World} (ff : PFunc) {R : Value → Value → World → Prop} (h : Calls P f args w fun e w' => ∃ pv cv, e = .returned (.agg #[.string ff.name, pv, .int .i64 ff.regs, .int .i64 ff.words, cv]) ∧ R pv cv w') :
    Calls P f args w fun e w' => ∃ v, e = .returned v ∧ ∃ pv cv, v = .agg #[.string ff.name, pv, .int .i64 ff.regs, .int .i64 ff.words, cv] ∧ R pv cv w' := h.mono fun e w' ⟨pv, cv, h1, h2⟩ => ⟨_, h1, pv, cv, rfl, h2⟩
theorem enc_reads (m : PMod) : Reads (encP m) 0 [83, 70, 84, 1] ∧ Reads (encP m) 4 [(m.thr.length : Int)] ∧ Reads (encP m) 5 (m.thr.flatMap (numB · 8)) ∧ Reads (encP m) (5 + 8 * m.thr.length) [(m.funcs.length : Int)] ∧ Reads (encP m) (6 + 8 * m.thr.length) (m.funcs.flatMap funB) ∧ (encP m).length = 6 + 8 * m.thr.length + (m.funcs.flatMap funB).length := by
  have htl := flat_const (numB · 8) 8 (fun x => numB_len x 8) m.thr
  have hh : (headB m).length = 5 := rfl
  have hR : Reads (encP m) 0 ((([83, 70, 84, 1] ++ [(m.thr.length : Int)]) ++ m.thr.flatMap (numB · 8) ++ [(m.funcs.length : Int)]) ++ m.funcs.flatMap funB) := Reads.self (encP m)
  have R0 := hR.left.left.left.left
  have R1 := hR.left.left.left.right
  have R2 := hR.left.left.right
  have R3 := hR.left.right
  have R4 := hR.right
  have hlen : (encP m).length = (headB m ++ m.thr.flatMap (numB · 8) ++ [(m.funcs.length : Int)] ++ m.funcs.flatMap funB).length := rfl
  generalize encP m = bs at *
  simp only [List.length_append, List.length_cons, List.length_nil, htl, hh] at R1 R2 R3 R4 hlen
  refine ⟨R0, R1, R2, ?_, ?_, by omega⟩
  · rwa [show 0 + (0 + 1 + 1 + 1 + 1 + (0 + 1) + 8 * m.thr.length) = 5 + 8 * m.thr.length by omega] at R3
  · rwa [show 0 + (0 + 1 + 1 + 1 + 1 + (0 + 1) + 8 * m.thr.length + (0 + 1)) = 6 + 8 * m.thr.length by omega] at R4
structure M64 (m : PMod) : Prop where
  thr : ∀ i, i < m.thr.length → In64 (m.thr.getD i 0)
  par : ∀ k, k < m.funcs.length → ∀ j, j < (m.funcs.getD k default).params.length → In64 ((m.funcs.getD k default).params.getD j default).lo ∧ In64 ((m.funcs.getD k default).params.getD j default).hi
  ins : ∀ k, k < m.funcs.length → ∀ j, j < (m.funcs.getD k default).code.length → InsOk ((m.funcs.getD k default).code.getD j default)

set_option maxRecDepth 100000 in
set_option maxHeartbeats 4000000 in
theorem decode_any (w : World) (m : PMod) (bb cap : Nat) (hPK : ModPk m) (h64 : M64 m) (hbl : bb < w.heap.size) (hby : ∀ j, j < (encP m).length → w.cell? ⟨bb, j, none⟩ = some (.int .u8 ((encP m).getD j 0))) (hcap : (encP m).length ≤ cap) (hlen : (encP m).length ≤ 1048576) :
    Calls Tryd.prog 17 #[.slice (some ⟨bb, 0, none⟩) (encP m).length cap] w fun e w' => ∃ v, e = .returned (.tuple #[v, .int .i64 0, .int .i64 0]) ∧ Below w.heap.size w w' ∧ ModAt w'.heap.size w' v m := by
  obtain ⟨i0, hi, iz0, iz1, iz2⟩ := info_parts Tryd.info64
  obtain ⟨j0, gi, gz0, gz1, gz2⟩ := info_parts Tryd.infoFnc
  obtain ⟨R0, R1, R2, R3, R4, hL2⟩ := enc_reads m
  generalize hbs : encP m = bs at *
  clear hbs
  have hP1 := hPK.thr
  have hP2 := hPK.few
  have HPK := Lib.hid hPK; clear hPK
  have H64 := Lib.hid h64; clear h64
  have HBY := Lib.hid hby; clear hby
  have HR0 := Lib.hid R0; have HR1 := Lib.hid R1; have HR2 := Lib.hid R2; have HR3 := Lib.hid R3; have HR4 := Lib.hid R4
  have b0 := R0.1; have b1 := R1.1; have b2 := R2.1; have b3 := R3.1
  rw [flat_const (numB · 8) 8 (fun x => numB_len x 8)] at b2
  simp only [List.length_cons, List.length_nil] at b0 b1 b3
  have HL2 := Lib.hid hL2
  clear R0 R1 R2 R3 R4 hL2
  have d0 : decide ((1048576 : Int) < bs.length) = false := by simp; omega
  have hcf31 : ∀ (args : Array Value) (w : World), (callFunc 31 args).run Tryd.prog w = .ok (.enter 31 args) w := fun _ _ => rfl
  have hcf32 : ∀ (args : Array Value) (w : World), (callFunc 32 args).run Tryd.prog w = .ok (.enter 32 args) w := fun _ _ => rfl
  go_enter Tryd.func17, Tryd.ntmps17
  go_wp2
  generalize hW0 : World.alloc _ _ = W0
  have hb0 : Below w.heap.size w W0 := by rw [← hW0]; exact (by repeat (first | with_reducible exact Below.refl _ _ | with_reducible assumption | with_reducible refine Below.drew ?_ | with_reducible refine Below.drewN ?_ _ | with_reducible refine Below.alloc ?_ (by first | omega | (simp <;> omega) | (simp at * <;> omega)) _ | with_reducible refine Below.setCell ?_ (by first | omega | (simp <;> omega) | (simp at * <;> omega)) _ | (with_reducible refine Below.trans ?_ (Below.mono (by first | with_reducible assumption | exact hF _) (by first | omega | (simp <;> omega) | (simp at * <;> omega))))))
  have OR0 : Own W0 w.heap.size [.slice none 0 0, .slice none 0 0] := by rw [← hW0]; exact (Own.new _ _ _).alloc _
  have hz0 : w.heap.size + 2 ≤ W0.heap.size := by rw [← hW0]; simp
  have hrd : RdAt W0 (w.heap.size + 1) bb cap bs 0 := by
    refine ⟨by rw [← hW0]; exact Own.new' _ _ _ _ (by simp), fun j hj => by rw [(bcell hb0).1 bb j hbl]; exact HBY.out j hj, by omega, by omega, hcap, hlen⟩
  clear hW0
  generalize hrk : w.heap.size + 1 = rk at *
  have HRD := Lib.hid hrd; clear hrd
  go_loopw [17] (fun i wr => ∃ j : Nat, j ≤ 4 ∧ i = .int .i64 j ∧ Hid (Chg (· = rk) W0 wr) ∧ Hid (RdAt wr rk bb cap bs j)) (fun i _ => 4 - (intOf i).toNat)
  case atStart => exact ⟨0, by omega, rfl, Lib.hid (Chg.refl _ _), HRD⟩
  case round =>
    obtain ⟨j, hj, rfl, hcr, hrr⟩ := hrel
    by_cases hlt : j < 4
    · have HT := Lib.hid (take_any wr rk bb cap bs j 1 hrr.out (by omega) (by omega) 1 rfl)
      have hbj := HR0.out.2 j (by simpa using hlt)
      rw [Nat.zero_add] at hbj
      have HB := Lib.hid (fun (w1 : World) (k : Nat) (h1 : RdAt w1 rk bb cap bs k) => (h1.byte j (by omega)).trans (by rw [hbj]))
      clear hbj
      have hr5 : rk < wr.heap.size := hrr.out.own.1
      rcases (show j = 0 ∨ j = 1 ∨ j = 2 ∨ j = 3 by omega) with rfl | rfl | rfl | rfl
      all_goals
        go_wp2_with (go_at_call 28; refine HT.out.mono ?_; rintro e w1 ⟨rfl, hc1, hr1⟩; have t0 := HB.out w1 _ hr1; simp at t0)
        refine wp_still 5 (by kernel_rfl) (by kernel_rfl) ?_; simp only [List.take_succ_cons, List.take_zero, List.drop_succ_cons, List.drop_zero]; repeat (refine WS_step (fun K hK => ?_); go_simp; refine hK _ ?_; clear hK K)
        refine WS_nil ?_; go_wp2
        go_roundw
        case rel => exact ⟨_ + 1, by omega, by simp, Lib.hid (hcr.out.trans (hc1.trans (by repeat (first | with_reducible exact Chg.refl _ _ | with_reducible assumption | with_reducible refine Chg.drew ?_ | with_reducible refine Chg.drewN ?_ _ | with_reducible refine Chg.alloc ?_ _ | with_reducible refine Chg.setCell ?_ (by first | with_reducible exact .inl rfl | exact .inl (.inl rfl) | exact .inl (.inr rfl) | exact .inr (by simp)) _ | (with_reducible refine Chg.trans ?_ (Chg.of (by first | with_reducible assumption | exact hF _))))))), Lib.hid (hr1.keep (by repeat (first | with_reducible exact Below.refl _ _ | with_reducible assumption | with_reducible refine Below.drew ?_ | with_reducible refine Below.drewN ?_ _ | with_reducible refine Below.alloc ?_ (by first | omega | (simp <;> omega) | (simp at * <;> omega)) _ | with_reducible refine Below.setCell ?_ (by first | omega | (simp <;> omega) | (simp at * <;> omega)) _ | (with_reducible refine Below.trans ?_ (Below.mono (by first | with_reducible assumption | exact hF _) (by first | omega | (simp <;> omega) | (simp at * <;> omega)))))))⟩
        case measure => go_light; first | omega | (simp only [intOf]; omega)
    · have hj4 : j = 4 := by omega
      subst hj4
      have HC1 := Lib.hid (fun (w1 : World) (h1 : RdAt w1 rk bb cap bs 4) => count_any w1 rk bb cap bs 4 1 (m.thr.length : Int) 1 16 3 rfl h1 (by omega) (by omega) (by omega) (HR1.out.one (by omega) (by omega)) (by omega) (by omega) (by omega) (by omega))
      have hzr := hcr.out.size
      go_wp2_with (go_at_call 30; refine (HC1.out _ (hrr.out.keep (by repeat (first | with_reducible exact Below.refl _ _ | with_reducible assumption | with_reducible refine Below.drew ?_ | with_reducible refine Below.drewN ?_ _ | with_reducible refine Below.alloc ?_ (by first | omega | (simp <;> omega) | (simp at * <;> omega)) _ | with_reducible refine Below.setCell ?_ (by first | omega | (simp <;> omega) | (simp at * <;> omega)) _ | (with_reducible refine Below.trans ?_ (Below.mono (by first | with_reducible assumption | exact hF _) (by first | omega | (simp <;> omega) | (simp at * <;> omega)))))))).mono ?_; rintro e w1 ⟨rfl, hc1, hr1⟩)
      have hcA : Chg (· = rk) W0 w1 := (hcr.out.alloc _).trans hc1
      have hmb : Own w1 wr.heap.size [.slice none 0 0, .slice none 0 0] := hc1.own (Own.new _ _ _) (by have := hrr.out.own.1; omega)
      have hmbn : wr.heap.size ≠ rk := by have := hrr.out.own.1; omega
      generalize wr.heap.size = mb at *
      have HCA := Lib.hid hcA; have HR1b := Lib.hid hr1; have HMB := Lib.hid hmb
      clear hcA hr1 hmb hc1 hcr hrr
      obtain ⟨wA, rfl⟩ : ∃ wo : World, wo = w1 := ⟨_, rfl⟩
      go_loopw [40] (fun i wr => ∃ (j : Nat) (tv : Value), j ≤ m.thr.length ∧ i = .int .i64 j ∧ Hid (Chg (· = rk) W0 wr) ∧ Hid (RdAt wr rk bb cap bs (5 + 8 * j)) ∧ Hid (Own wr mb [tv, .slice none 0 0]) ∧ Hid (wr.ownsRow 0 2 1 tv j (Nums (m.thr.take j))) ∧ (∀ k, tv.ownBlock = some k → W0.heap.size ≤ k ∧ k ≠ mb)) (fun i _ => m.thr.length - (intOf i).toNat)
      case atStart => exact ⟨0, .slice none 0 0, Nat.zero_le _, rfl, HCA, HR1b, HMB, Lib.hid (World.ownsRow_nil _ _ _ _), fun k h => by cases h⟩
      case round =>
        obtain ⟨j, tv, hj, rfl, hcr, hrr, hmr, hrow, htv⟩ := hrel
        have q2 := own2 hmr.out
        by_cases hlt : j < m.thr.length
        · have d2 : (j : Int) < (m.thr.length : Int) := by omega
          have hwk : IntKind.i64.wrap ((j : Int) + 1) = (j : Int) + 1 := IntWalk.i64_in _ (by omega)
          have hwk0 : IntKind.i64.wrap (j : Int) = (j : Int) := IntWalk.i64_in _ (by omega)
          have hrd := HR2.out.flat j hlt
          rw [flat_const (numB · 8) 8 (fun x => numB_len x 8), List.length_take, Nat.min_eq_left hj] at hrd
          have h64 := H64.out.thr j hlt
          have hge : m.thr[j]? = some (m.thr.getD j 0) := getD_some hlt
          have e0 : m.thr.getD j default = m.thr.getD j 0 := rfl
          rw [e0] at hrd
          have HGE := Lib.hid hge; clear hge e0
          generalize m.thr.getD j 0 = tn at *
          have HN1 := Lib.hid (fun (w1 : World) (h1 : RdAt w1 rk bb cap bs (5 + 8 * j)) => rnumber_any w1 rk bb cap bs (5 + 8 * j) 8 tn 8 rfl h1 (by omega) (by omega) (by omega) hrd.num (.inl ⟨rfl, h64⟩))
          clear hrd h64
          have hmr' := hmr.out
          have hrow' := fun k hk => (show ¬ k = rk by have := (htv k hk).1; omega)
          have hz := hcr.out.size
          go_wp2
          go_region_law (first
            | (refine step_callF rfl 31 [.tmp 46, .const (.int .i64 8)] #[78, 3] rfl hcf31 [.pointer (some ⟨rk, 0, none⟩), .int .i64 8] rfl _ (calls_val (HN1.out _ (hrr.out.keep (Below.refl _ _).drew))) ?_; rintro v w5 ⟨rfl, hc5, hr5⟩; have hc45 : Chg (· = rk) wr w5 := (Chg.refl _ _).drew.trans hc5; have hrow5 := ownsRow_chgV hc45 hrow.out hrow'; have hm5 := hc45.own hmr' (by omega); have q52 := own2 hm5)
            | (refine step_append_lies _ (by rfl) _ _ _ (by rfl) 0 2 i0 _ 1 8 Tryd.underlying23 hi iz0 iz1 iz2 rfl (by decide) tv j _ (by rfl) (hrow5.alloc _) ⟨w5.heap.size, 0, none⟩ 1 1 [.int .i64 tn] (by rfl) (by rfl) (World.news_of_block (cs := #[.int .i64 tn]) (t := 2) (fr := (0, 0)) (heap_alloc_new w5 _)) (by simp [Value.oneCell']) (by omega) (by unfold maxLen; omega) (by omega) (Nat.zero_le _) (w5.heap.size + 1) (by simp) ?_; intro gg cap2 w6 hown6 hgrow hat hlt6; have k6 : Chg (fun k => tv.ownBlock = some k) w5 w6 := ((Chg.refl _ _).alloc _).trans (chg_grown hgrow); have hm6 := k6.own hm5 (fun e => (htv _ e).2 rfl); have q62 := own2 hm6))
          all_goals
            have hc6 : Chg (· = rk) W0 w6 := (hcr.out.trans hc45).trans2 k6 (fun y hy e => by have := (htv y e).1; omega)
            have hrk5 := hr5.own.1
            have hr6 : RdAt w6 rk bb cap bs (5 + 8 * j + 8) := hr5.chg k6 (fun e => by have := (htv _ e).1; omega) (fun e => by have := (htv _ e).1; omega)
            have hz5 := hc45.size
            have hmbl := hm5.1
            have ngf : gg ≠ mb := by rcases hat with h | h
                                     · exact (htv _ h).2
                                     · omega
            have ngW : W0.heap.size ≤ gg := by rcases hat with h | h
                                               · exact (htv _ h).1
                                               · omega
            have HC6 := Lib.hid hc6; have HR6b := Lib.hid hr6; have HM6 := Lib.hid hm6; have HO6 := Lib.hid hown6
            clear hown6 hgrow hat hlt6 k6 hm6 hc6 hr6 q52 q2 hrow5 hm5 hr5 hc5 hc45 hrow hmr hrr hcr hrow' hmr'
            go_wp2
            go_roundw
            case rel =>
              refine ⟨j + 1, .slice (some ⟨gg, 0, none⟩) (j + 1) cap2, by omega, by simp, Lib.hid (HC6.out.setCell (.inr hzr) _), Lib.hid ?_, Lib.hid (HM6.out.set 0 _ (by simp)), Lib.hid ?_, fun k hk => by simp [Value.ownBlock] at hk; subst hk; exact ⟨ngW, ngf⟩⟩
              · rw [show 5 + 8 * (j + 1) = 5 + 8 * j + 8 by omega]
                exact HR6b.out.chg (S := fun x => x = mb) (Chg.setCell (S := fun x => x = mb) (Chg.refl _ _) (p := ⟨mb, 0, none⟩) (.inl rfl) _) (by omega) (by omega)
              · have e : Nums (m.thr.take (j + 1)) = Nums (m.thr.take j) ++ [.int .i64 tn] := by
                  rw [List.take_add_one, HGE.out]; simp [Nums]
                rw [e]
                exact ownsRow_setCell_other HO6.out (by simpa [Value.ownBlock] using ngf) _
            case measure => go_light; first | omega | (simp only [intOf]; omega)
        · have hjn : j = m.thr.length := by omega
          subst hjn
          have d2 : ¬ (m.thr.length : Int) < (m.thr.length : Int) := by omega
          rw [List.take_length] at hrow
          have HC3 := Lib.hid (count_any wr rk bb cap bs (5 + 8 * m.thr.length) 1 (m.funcs.length : Int) 1 32 3 rfl hrr.out (by omega) (by omega) (by omega) (HR3.out.one (by omega) (by omega)) (by omega) (by omega) (by omega) (by omega))
          have hrkW := hrr.out.own.1
          go_wp2_with (go_at_call 30; refine HC3.out.mono ?_; rintro e w2 ⟨rfl, hc2, hr2⟩)
          have hcB : Chg (· = rk) W0 w2 := hcr.out.trans hc2
          have hm2 := hc2.own hmr.out (by omega)
          have hrow2 := ownsRow_chgV hc2 hrow.out (fun k hk => by have := (htv k hk).1; omega)
          have hmbl2 := hm2.1
          rw [show 5 + 8 * m.thr.length + 1 = 6 + 8 * m.thr.length by omega] at hr2
          obtain ⟨N, hN⟩ : ∃ N, N = w2.heap.size := ⟨_, rfl⟩
          have hNW := hcB.size
          have htvN : ∀ k, tv.ownBlock = some k → W0.heap.size ≤ k ∧ k ≠ mb ∧ k < N := fun k hk => ⟨(htv k hk).1, (htv k hk).2, by rw [hN]; exact (hrow2.lt k hk).2⟩
          have HCB := Lib.hid hcB; have HR2b := Lib.hid hr2; have HM2 := Lib.hid hm2; have HT2 := Lib.hid hrow2
          clear hcB hr2 hm2 hrow2 hc2 hcr hrr hmr hrow q2 HC3 HCA HR1b HMB htv
          obtain ⟨wB, rfl⟩ : ∃ wo : World, wo = w2 := ⟨_, rfl⟩
          go_loopw [56] (fun i wr => ∃ (j : Nat) (fv : Value) (zs : List (PFunc × Value × Value)), j ≤ m.funcs.length ∧ i = .int .i64 j ∧ zs.length = j ∧ N ≤ wr.heap.size ∧ Hid (zs.map (·.1) = m.funcs.take j) ∧ Hid (Chg (· = rk) W0 wr) ∧ Hid (RdAt wr rk bb cap bs (6 + 8 * m.thr.length + ((m.funcs.take j).flatMap funB).length)) ∧ Hid (Own wr mb [tv, fv]) ∧ Hid (wr.ownsRow 0 2 1 tv m.thr.length (Nums m.thr)) ∧ Hid (DRow wr N fv zs)) (fun i _ => m.funcs.length - (intOf i).toNat)
          case atStart => exact ⟨0, .slice none 0 0, [], Nat.zero_le _, rfl, rfl, by omega, Lib.hid rfl, HCB, Lib.hid (by simpa using HR2b.out), HM2, HT2, Lib.hid ⟨World.ownsRow_nil _ _ _ _, fun k h => (by cases h), fun z hz => (by cases hz)⟩⟩
          case round =>
            obtain ⟨j, fv, zs, hj, rfl, hzl, hNr, hzm, hcr, hrr, hmr, htr, hdr⟩ := hrel
            have hzlb : zs.length ≤ 32 := by omega
            have HZL := Lib.hid hzl; clear hzl
            have q2 := own2 hmr.out
            by_cases hlt : j < m.funcs.length
            · have d3 : (j : Int) < (m.funcs.length : Int) := by omega
              have hwk : IntKind.i64.wrap ((j : Int) + 1) = (j : Int) + 1 := IntWalk.i64_in _ (by omega)
              have hwk0 : IntKind.i64.wrap (j : Int) = (j : Int) := IntWalk.i64_in _ (by omega)
              have hrd := HR4.out.flat j hlt
              have hsucc := flatMap_take_succ funB m.funcs j hlt
              have hge : m.funcs[j]? = some (m.funcs.getD j default) := by simp [List.getD_eq_getElem?_getD, List.getElem?_eq_getElem hlt]
              have hpk := HPK.out.fn j hlt
              have hpar := H64.out.par j hlt
              have hins := H64.out.ins j hlt
              generalize m.funcs.getD j default = ff at *
              have HF1 := Lib.hid (fun (w1 : World) (h1 : RdAt w1 rk bb cap bs (6 + 8 * m.thr.length + ((m.funcs.take j).flatMap funB).length)) => rfun_any w1 rk bb cap bs _ ff h1 hrd hpk ⟨hpar, fun i hi => (hins i hi).2.2.2.2⟩)
              have HGE := Lib.hid hge; have HS := Lib.hid hsucc
              clear hrd hpk hpar hins hge hsucc
              have hmr' := hmr.out
              have hdr' := hdr.out
              have hz := hcr.out.size
              have hdrow := hdr'.row
              have hdk := fun k hk => (show ¬ k = rk by have := hdr'.far k hk; omega)
              have hfm := fun k hk => (show ¬ k = mb by have := hdr'.far k hk; omega)
              go_wp2
              go_region_law (first
                | (refine step_callF rfl 32 [.tmp 60] #[76] rfl hcf32 [.pointer (some ⟨rk, 0, none⟩)] rfl _ (calls_fun ff (HF1.out _ (hrr.out.keep (Below.refl _ _).drew))) ?_; rintro v w5 ⟨pv, cv, rfl, hc5, hr5, hp5, hq5, hpb, hcb⟩; obtain ⟨pa, pc, rfl⟩ := row_form hp5; obtain ⟨ca, cc, rfl⟩ := row_form hq5; have hc45 : Chg (· = rk) wr w5 := (Chg.refl _ _).drew.trans hc5; have hrow5 := ownsRow_chgV hc45 hdrow hdk; have hm5 := hc45.own hmr' (by omega); have q52 := own2 hm5)
                | (refine step_append_lies _ (by rfl) _ _ _ (by rfl) 0 51 j0 _ 5 80 Tryd.underlying24 gi gz0 gz1 gz2 rfl (by decide) fv zs.length _ (by rfl) (hrow5.alloc _) ⟨w5.heap.size, 0, none⟩ 1 1 [.string ff.name, .slice pa ff.params.length pc, .int .i64 ff.regs, .int .i64 ff.words, .slice ca ff.code.length cc] (by rfl) (by rfl) (World.news_of_block (cs := #[.string ff.name, .slice pa ff.params.length pc, .int .i64 ff.regs, .int .i64 ff.words, .slice ca ff.code.length cc]) (t := 51) (fr := (0, 0)) (heap_alloc_new w5 _)) (by simp [Value.oneCell']) (by omega) (by unfold maxLen; omega) (by omega) (Nat.zero_le _) (w5.heap.size + 1) (by simp) ?_; intro gg cap2 w6 hown6 hgrow hat hlt6; have k6 : Chg (fun k => fv.ownBlock = some k) w5 w6 := ((Chg.refl _ _).alloc _).trans (chg_grown hgrow); have hm6 := k6.own hm5 (fun e => hfm _ e rfl); have q62 := own2 hm6))
              all_goals
                have hrkN : rk < N := by omega
                have hd6 := hdr'.push (z := (ff, .slice pa ff.params.length pc, .slice ca ff.code.length cc)) hNr hrkN hc45 k6 hp5 hq5 (fun k hk => by simpa using hpb k hk) (fun k hk => by simpa using hcb k hk) hown6 hat
                have hc6 : Chg (· = rk) W0 w6 := (hcr.out.trans hc45).trans2 k6 (fun y hy e => by have := hdr'.far y e; omega)
                have hr6 := hr5.chg k6 (fun e => by have := hdr'.far _ e; omega) (fun e => by have := hdr'.far _ e; omega)
                have ht6 := ownsRow_chgV k6 (ownsRow_chgV hc45 htr.out (fun k hk => by have := (htvN k hk).1; omega)) (fun k hk e => by have := (htvN k hk).2.2; have := hdr'.far k e; omega)
                have hz5 := hc45.size
                have hz6 := k6.size
                have ngf : gg ≠ mb := by rcases hat with h | h
                                         · exact hfm _ h
                                         · have := hm5.1; omega
                have HC6 := Lib.hid hc6; have HR6b := Lib.hid hr6; have HM6 := Lib.hid hm6; have HD6 := Lib.hid hd6; have HT6 := Lib.hid ht6
                clear hown6 hgrow hat hlt6 k6 hm6 hc6 hr6 hd6 ht6 q52 q2 hrow5 hm5 hr5 hc5 hc45 hdr hmr hrr hcr htr hmr' hdr' hdrow hdk hfm hpb hcb hp5 hq5
                go_wp2
                go_roundw
                case rel =>
                  have hset : Chg (fun x => x = mb) w6 (w6.setCell ⟨mb, 1, none⟩ (.slice (some ⟨gg, 0, none⟩) (zs.length + 1) cap2)) := Chg.setCell (S := fun x => x = mb) (Chg.refl _ _) (p := ⟨mb, 1, none⟩) (.inl rfl) _
                  refine ⟨j + 1, .slice (some ⟨gg, 0, none⟩) (zs.length + 1) cap2, zs ++ [(ff, .slice pa ff.params.length pc, .slice ca ff.code.length cc)], by omega, by simp, by simp [HZL.out], by simp; omega, Lib.hid ?_, Lib.hid (HC6.out.setCell (.inr hzr) _), Lib.hid ?_, Lib.hid (HM6.out.set 1 _ (by simp)), Lib.hid ?_, Lib.hid ?_⟩
                  · rw [List.map_append, hzm.out, List.take_add_one, HGE.out]; rfl
                  · rw [HS.out, List.length_append, ← Nat.add_assoc]
                    exact HR6b.out.chg hset (by omega) (by omega)
                  · exact ownsRow_chgV hset HT6.out (fun k hk => (htvN k hk).2.1)
                  · exact HD6.out.chg hset (fun k hk e => by omega)
                case measure => go_light; first | omega | (simp only [intOf]; omega)
            · have hjn : j = m.funcs.length := by omega
              subst hjn
              have d3 : ¬ (m.funcs.length : Int) < (m.funcs.length : Int) := by omega
              rw [List.take_length, ← HL2.out] at hrr
              have o4 := own4 hrr.out.own
              have d5 : ¬ (bs.length : Int) < (bs.length : Int) := by omega
              rw [List.take_length] at hzm
              obtain ⟨ta, tc, rfl⟩ := row_form htr.out
              obtain ⟨fa, fc, hfv⟩ := row_form hdr.out.row
              rw [HZL.out] at hfv
              subst hfv
              have q2 := own2 hmr.out
              have hres := hcr.out.own OR0 (by omega)
              have r2 := own2 hres
              have s2 := set2 hres
              have hcz := hcr.out.size
              go_wp2
              have hbel : Below w.heap.size w ((wr.setCell ⟨w.heap.size, 0, none⟩ (.slice ta m.thr.length tc)).setCell ⟨w.heap.size, 1, none⟩ (.slice fa m.funcs.length fc)) :=
                (((hb0.trans (hcr.out.below w.heap.size (by omega) (fun k hk e => by omega))).setCell (p := ⟨w.heap.size, 0, none⟩) (Nat.le_refl _) _).setCell (p := ⟨w.heap.size, 1, none⟩) (Nat.le_refl _) _)
              refine dec_end _ _ _ w.heap.size ta fa m.thr.length tc m.funcs.length fc ((hres.set 0 _ (by simp)).set 1 _ (by simp)) rfl rfl rfl _ (by simp) ⟨_, rfl, hbel, ta, m.thr.length, tc, fa, m.funcs.length, fc, rfl, ?_, ?_⟩
              · have hset : Chg (fun x => x = w.heap.size) wr ((wr.setCell ⟨w.heap.size, 0, none⟩ (.slice ta m.thr.length tc)).setCell ⟨w.heap.size, 1, none⟩ (.slice fa m.funcs.length fc)) := (((Chg.refl (fun x => x = w.heap.size) wr).setCell (p := ⟨w.heap.size, 0, none⟩) (.inl rfl) _).setCell (p := ⟨w.heap.size, 1, none⟩) (.inl rfl) _)
                obtain ⟨ta', tc', e, hn⟩ := nums_of_row (ownsRow_chgV hset htr.out (fun k hk => by have := (htvN k hk).1; omega)) H64.out.thr (by unfold maxLen; omega)
                injection e with e1 e2 e3
                subst e1; exact hn
              · have hset : Chg (fun x => x = w.heap.size) wr ((wr.setCell ⟨w.heap.size, 0, none⟩ (.slice ta m.thr.length tc)).setCell ⟨w.heap.size, 1, none⟩ (.slice fa m.funcs.length fc)) := (((Chg.refl (fun x => x = w.heap.size) wr).setCell (p := ⟨w.heap.size, 0, none⟩) (.inl rfl) _).setCell (p := ⟨w.heap.size, 1, none⟩) (.inl rfl) _)
                obtain ⟨fa', fc', e, hn⟩ := drow_funcs (hdr.out.chg hset (fun k hk e => by omega)) hzm.out (by unfold maxLen; omega) (fun i hi => by
                  have q := HPK.out.fn i hi
                  have q1 := q.n2; have q2 := q.p; have q3 := q.c2; have q4 := q.r1; have q5 := q.r2; have q6 := q.w1; have q7 := q.w2
                  exact ⟨by unfold maxLen; omega, by unfold maxLen; omega, by unfold maxLen; omega, by unfold In64; omega, by unfold In64; omega, H64.out.par i hi, H64.out.ins i hi⟩)
                injection e with e1 e2 e3
                subst e1; exact hn
end Go.Proofs.YtgpdggjpbmgegaaDoor
