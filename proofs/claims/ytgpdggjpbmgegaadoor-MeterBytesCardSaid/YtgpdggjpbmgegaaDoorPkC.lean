/- Package pack: Encode, walked. -/
import Derived.Test.YtgpdggjpbmgegaaDoorPkB
import Derived.Test.YtgpdggjpbmgegaaDoorMay
import Derived.Lib.SlBytesConst
namespace Go.Proofs.YtgpdggjpbmgegaaDoor
open Go.RowKit
set_option linter.unusedVariables false
set_option linter.unusedSimpArgs false


/-- what stays true while Encode appends -/
structure EncAt (w wr : World) (K : Nat) (mv : List Value) (g cap : Nat) (l : List Int) : Prop where
  old : Below w.heap.size w wr
  hK : w.heap.size + 2 ≤ K
  size : K ≤ wr.heap.size
  low : K ≤ g
  box : Own wr w.heap.size mv
  res : Own wr (w.heap.size + 1) [.int .i64 0, .int .i64 0, .int .i64 0]
  buf : BufAt wr g cap l
theorem EncAt.step {w wr w' : World} {K g cap g' cap' : Nat} {mv : List Value} {l l' : List Int} (h : EncAt w wr K mv g cap l) (c : Chg (· = g) wr w') (hg : g' = g ∨ wr.heap.size ≤ g') (hb : BufAt w' g' cap' l') : EncAt w w' K mv g' cap' l' := by
  have h1 := h.hK; have h2 := h.size; have h3 := h.low
  have hz := c.size
  exact ⟨h.old.trans (c.below _ (by omega) (fun k hk e => by omega)), h1, by omega, by omega, c.own h.box (by omega), c.own h.res (by omega), hb⟩
theorem EncAt.keep {w wr w' : World} {K g cap : Nat} {mv : List Value} {l : List Int} (h : EncAt w wr K mv g cap l) (c : Below wr.heap.size wr w') : EncAt w w' K mv g cap l := by
  have h1 := h.hK; have h2 := h.size
  have hz := c.size
  exact ⟨h.old.trans (Below.mono c (by omega)), h1, by omega, h.low, h.box.below c, h.res.below c, h.buf.below c⟩
theorem EncAt.lt {w wr : World} {K g cap : Nat} {mv : List Value} {l : List Int} (h : EncAt w wr K mv g cap l) : g < wr.heap.size := h.buf.lt

theorem BufAt.lit {w : World} (l : List Int) {k : Nat} (hk : k = w.heap.size) (hl : l.length ≤ maxLen) : BufAt (w.alloc (.cells (Bys l).toArray 5)) k l.length l := by
  subst hk
  unfold BufAt
  refine ⟨by simp [Bys], .inr ⟨w.heap.size, l.length, (Bys l).toArray, rfl, Nat.zero_le _, heap_alloc_new w _, Nat.le_refl _, hl, by simp [Bys], ?_⟩⟩
  have e : l.length * 1 = (Bys l).length := by simp [Bys]
  rw [e]; simp

theorem pnumber_enc {w wr : World} {K g cap L : Nat} {mv : List Value} {l : List Int} (h : EncAt w wr K mv g cap l) (hL : l.length = L) (n : Int) (k : Nat) (hk : k ≤ 8) (hl : L ≤ 1099511627776) :
    Calls Tryd.prog 27 #[.slice (some ⟨g, 0, none⟩) L cap, .int .i64 n, .int .i64 k] wr fun e w' => ∃ g' cap', e = .returned (.slice (some ⟨g', 0, none⟩) (L + k) cap') ∧ Chg (· = g) wr w' ∧ (g' = g ∨ wr.heap.size ≤ g') ∧ EncAt w w' K mv g' cap' (l ++ numB n k) := by
  subst hL
  refine (pnumber_any g cap l n k wr h.buf hk hl).mono ?_
  rintro e w' ⟨g', cap', rfl, hc, hg, hb⟩
  exact ⟨g', cap', by simp [numB_len], hc, hg, h.step hc hg hb⟩

/-- append to a full slice of bytes: a new row -/
theorem wpList_appG {w : World} {ops : Array Oper} {rest : List Oper} {o : Oper} {a : Act} {Q : Exit → Act → World → Prop} (hgd : o.guard = none) (s x : Operand)
    (ho : o.op = .call { callee := .builtin .append, args := #[s, x], argTypes := #[41, 41] }) (b : Addr) (l : List Int) (n cap : Nat) (hn : n = l.length) (hs : a.eval s = .slice (some b) n cap) (holds : ∀ j u, (Bys l)[j]? = some u → w.cell? (b.add j) = some u)
    (ad : Addr) (m c : Nat) (new : List Int) (hm : m = new.length) (hx : a.eval x = .slice (some ad) m c) (hnews : ∀ j u, (Bys new)[j]? = some u → w.cell? (ad.add j) = some u) (hfull : cap < n + m) (hlen : l.length + new.length ≤ 4398046511104)
    (h : ∀ g' cap' w', BufAt w' g' cap' (l ++ new) → Below w.heap.size w w' → w.heap.size ≤ g' → wpList Tryd.prog ops Q rest (a.put o.dst (.slice (some ⟨g', 0, none⟩) (l ++ new).length cap')) w') : wpList Tryd.prog ops Q (o :: rest) a w := by
  obtain ⟨i0, hi, iz0, iz1, iz2⟩ := info_parts Tryd.infoU8
  subst hn hm
  refine wpList_plain hgd fun K hK => ?_
  obtain ⟨v', w', hrun, r1, r2⟩ := run_append_arg_grows (P := Tryd.prog) w 41 o.type 5 i0 (.int .u8 0) 1 1 Tryd.underlying41 hi iz0 iz1 iz2 rfl (by decide) b l.length cap (Bys l) (by simp [Bys]) holds ad new.length c (Bys new) (by simp [Bys]) hnews hfull (by unfold maxLen; omega) (by omega)
  have hl2 : (l ++ new).length = l.length + new.length := by simp
  obtain ⟨g', cap', rfl, hb⟩ : ∃ sb cap, v' = .slice (some ⟨sb, 0, none⟩) (l ++ new).length cap ∧ w.heap.size ≤ sb := by
    rcases r1.2 with ⟨_, h0⟩ | ⟨g', cap', cur, hv, hbb, _⟩
    · omega
    · exact ⟨g', cap', by rw [hl2]; exact hv, hbb⟩
  unfold Oper.wp execOp
  simp only [ho, resolve, invoke, builtin, Sem.run_bind, Sem.run_pure, Result.andThen_ok, List.map_toArray, List.map_cons, List.map_nil, hs, hx, hrun]
  refine hK _ _ (h g' cap' w' ?_ ⟨r2.os, r2.tape, r2.output, r2.size, fun k hk => r2.block k hk (by simp)⟩ hb)
  unfold BufAt
  have e : Bys (l ++ new) = Bys l ++ Bys new := by simp [Bys]
  rw [e]
  rw [hl2] at r1 ⊢
  obtain ⟨x1, x2⟩ := r1
  refine ⟨x1, ?_⟩
  rcases x2 with x2 | ⟨a1, a2, a3, a4, _, a5⟩
  · exact .inl x2
  · exact .inr ⟨a1, a2, a3, a4, Nat.zero_le _, a5⟩

theorem Chg.cellAt {S : Nat → Prop} {w w' : World} (h : Chg S w w') {b : Nat} (o : Nat) (hb : b < w.heap.size) (hs : ¬ S b) : w'.cell? ⟨b, o, none⟩ = w.cell? ⟨b, o, none⟩ := World.cell?_of_block (h.block b hb hs)

section
variable {w wr : World} {K g cap L : Nat} {mv : List Value} {l : List Int} {ops : Array Oper} {rest : List Oper} {o : Oper} {a : Act} {Q : Exit → Act → World → Prop}
/-- append of a literal's bytes, the literal made just before -/
theorem wpList_appE (hgd : o.guard = none) (s x : Operand) (ho : o.op = .call { callee := .builtin .append, args := #[s, x], argTypes := #[41, 41] }) (h : EncAt w wr K mv g cap l) (hL : l.length = L) (hs : a.eval s = .slice (some ⟨g, 0, none⟩) L cap)
    (new : List Int) (M c k : Nat) (hM : new.length = M) (hMp : 0 < M) (hk : k = wr.heap.size) (hx : a.eval x = .slice (some ⟨k, 0, none⟩) M c) (hl : L + M ≤ 1099511627776)
    (hK : ∀ g' cap' w', Chg (· = g) wr w' → (g' = g ∨ wr.heap.size < g') → EncAt w w' K mv g' cap' (l ++ new) → wpList Tryd.prog ops Q rest (a.put o.dst (.slice (some ⟨g', 0, none⟩) (L + M) cap')) w') : wpList Tryd.prog ops Q (o :: rest) a (wr.alloc (.cells (Bys new).toArray 5)) := by
  subst hL hM hk
  have h2 := h.keep (w' := wr.alloc (.cells (Bys new).toArray 5)) (by repeat (first | with_reducible exact Below.refl _ _ | with_reducible assumption | with_reducible refine Below.drew ?_ | with_reducible refine Below.drewN ?_ _ | with_reducible refine Below.alloc ?_ (by first | omega | (simp <;> omega) | (simp at * <;> omega)) _ | with_reducible refine Below.setCell ?_ (by first | omega | (simp <;> omega) | (simp at * <;> omega)) _ | (with_reducible refine Below.trans ?_ (Below.mono (by first | with_reducible assumption | exact hF _) (by first | omega | (simp <;> omega) | (simp at * <;> omega))))))
  refine wpList_appB hgd s x ho g cap l l.length rfl hs h2.buf ⟨wr.heap.size, 0, none⟩ new.length c new rfl hx (lit_src new _ rfl) (by simp; omega) (by omega) ?_
  intro g' cap' w' hb hc hg
  have e : (l ++ new).length = l.length + new.length := by simp
  rw [e]
  have hsz : (wr.alloc (.cells (Bys new).toArray 5)).heap.size = wr.heap.size + 1 := by simp
  exact hK g' cap' w' (((Chg.refl _ _).alloc _).trans hc) (hg.imp id (fun q => by omega)) (h2.step hc hg hb)
theorem step_appE {KK : Act → World → Prop} {E : Prop} (hgd : o.guard = none) (s x : Operand) (ho : o.op = .call { callee := .builtin .append, args := #[s, x], argTypes := #[41, 41] }) (h : EncAt w wr K mv g cap l) (hL : l.length = L) (hs : a.eval s = .slice (some ⟨g, 0, none⟩) L cap)
    (new : List Int) (M c k : Nat) (hM : new.length = M) (hMp : 0 < M) (ad : ∀ j u, (Bys new)[j]? = some u → wr.cell? ((⟨k, 0, none⟩ : Addr).add j) = some u) (hx : a.eval x = .slice (some ⟨k, 0, none⟩) M c) (hl : L + M ≤ 1099511627776)
    (hK : ∀ g' cap' w', Chg (· = g) wr w' → (g' = g ∨ wr.heap.size ≤ g') → EncAt w w' K mv g' cap' (l ++ new) → KK (a.put o.dst (.slice (some ⟨g', 0, none⟩) (L + M) cap')) w') : if Region.wanted o (yielded ops a.tmps) = true then o.wp Tryd.prog a wr KK Q else E := by
  subst hL hM
  refine step_appB hgd s x ho g cap l l.length rfl hs h.buf ⟨k, 0, none⟩ new.length c new rfl hx ad (by simp; omega) (by omega) ?_
  intro g' cap' w' hb hc hg
  have e : (l ++ new).length = l.length + new.length := by simp
  rw [e]
  exact hK g' cap' w' hc hg (h.step hc hg hb)
theorem step_appSE {KK : Act → World → Prop} {E : Prop} (hgd : o.guard = none) (s x : Operand) (ho : o.op = .call { callee := .builtin .append, args := #[s, x], argTypes := #[41, 9] }) (h : EncAt w wr K mv g cap l) (hL : l.length = L) (hL0 : 0 < L) (hs : a.eval s = .slice (some ⟨g, 0, none⟩) L cap)
    (t : ByteArray) (hx : a.eval x = .string t) (hl : L + t.size ≤ 1099511627776)
    (hK : ∀ g' cap' w', Chg (· = g) wr w' → (g' = g ∨ wr.heap.size ≤ g') → EncAt w w' K mv g' cap' (l ++ nameZ t) → KK (a.put o.dst (.slice (some ⟨g', 0, none⟩) (L + t.size) cap')) w') : if Region.wanted o (yielded ops a.tmps) = true then o.wp Tryd.prog a wr KK Q else E := by
  subst hL
  refine step_appS hgd s x ho g cap l l.length rfl hs h.buf t hx hL0 (by omega) ?_
  intro g' cap' w' hb hc hg
  have e : (l ++ nameZ t).length = l.length + t.size := by simp [nameZ_len]
  rw [e]
  exact hK g' cap' w' hc hg (h.step hc hg hb)
end

/-- the same, beside the box of the function at hand -/
structure FnAt (w wr : World) (K : Nat) (mv : List Value) (fx : Nat) (fcs : List Value) (g cap : Nat) (l : List Int) (L : Nat) : Prop where
  en : EncAt w wr K mv g cap l
  own : Own wr fx fcs
  ne : g ≠ fx
  len : l.length = L
theorem FnAt.step {w wr w' : World} {K fx g cap g' cap' L L' : Nat} {mv fcs : List Value} {l l' : List Int} (h : FnAt w wr K mv fx fcs g cap l L) (c : Chg (· = g) wr w') (hg : g' = g ∨ wr.heap.size ≤ g') (he : EncAt w w' K mv g' cap' l') (hl : l'.length = L') : FnAt w w' K mv fx fcs g' cap' l' L' := by
  have h1 := h.own.1; have h2 := h.ne
  exact ⟨he, c.own h.own (fun e => h2 e.symm), by omega, hl⟩
theorem FnAt.keep {w wr w' : World} {K fx g cap L : Nat} {mv fcs : List Value} {l : List Int} (h : FnAt w wr K mv fx fcs g cap l L) (c : Below wr.heap.size wr w') : FnAt w w' K mv fx fcs g cap l L := ⟨h.en.keep c, h.own.below c, h.ne, h.len⟩
theorem pnumber_fn {w wr : World} {K fx g cap L : Nat} {mv fcs : List Value} {l : List Int} (h : FnAt w wr K mv fx fcs g cap l L) (n kz : Int) (k : Nat) (hkz : kz = k) (hk : k ≤ 8) (hl : L ≤ 1099511627776) :
    Calls Tryd.prog 27 #[.slice (some ⟨g, 0, none⟩) L cap, .int .i64 n, .int .i64 kz] wr fun e w' => ∃ g' cap', e = .returned (.slice (some ⟨g', 0, none⟩) (L + k) cap') ∧ Chg (· = g) wr w' ∧ (g' = g ∨ wr.heap.size ≤ g') ∧ FnAt w w' K mv fx fcs g' cap' (l ++ numB n k) (L + k) := by
  subst hkz
  refine (pnumber_enc h.en h.len n k hk hl).mono ?_
  rintro e w' ⟨g', cap', rfl, hc, hg, hb⟩
  exact ⟨g', cap', rfl, hc, hg, h.step hc hg hb (by simp [numB_len, h.len])⟩
section
variable {w wr : World} {K fx g cap L : Nat} {mv fcs : List Value} {l : List Int} {ops : Array Oper} {rest : List Oper} {o : Oper} {a : Act} {Q : Exit → Act → World → Prop}
theorem wpList_appF (hgd : o.guard = none) (s x : Operand) (ho : o.op = .call { callee := .builtin .append, args := #[s, x], argTypes := #[41, 41] }) (h : FnAt w wr K mv fx fcs g cap l L) (hs : a.eval s = .slice (some ⟨g, 0, none⟩) L cap)
    (new : List Int) (M c k : Nat) (hM : new.length = M) (hMp : 0 < M) (hk : k = wr.heap.size) (hx : a.eval x = .slice (some ⟨k, 0, none⟩) M c) (hl : L + M ≤ 1099511627776)
    (hK : ∀ g' cap' w', Chg (· = g) wr w' → (g' = g ∨ wr.heap.size ≤ g') → FnAt w w' K mv fx fcs g' cap' (l ++ new) (L + M) → wpList Tryd.prog ops Q rest (a.put o.dst (.slice (some ⟨g', 0, none⟩) (L + M) cap')) w') : wpList Tryd.prog ops Q (o :: rest) a (wr.alloc (.cells (Bys new).toArray 5)) := by
  refine wpList_appE hgd s x ho h.en h.len hs new M c k hM hMp hk hx hl ?_
  intro g' cap' w' hc hg he
  have hg' : g' = g ∨ wr.heap.size ≤ g' := hg.imp id (fun q => by omega)
  exact hK g' cap' w' hc hg' (h.step hc hg' he (by simp [h.len, hM]))
theorem step_appF {KK : Act → World → Prop} {E : Prop} (hgd : o.guard = none) (s x : Operand) (ho : o.op = .call { callee := .builtin .append, args := #[s, x], argTypes := #[41, 41] }) (h : FnAt w wr K mv fx fcs g cap l L) (hs : a.eval s = .slice (some ⟨g, 0, none⟩) L cap)
    (new : List Int) (M c k : Nat) (hM : new.length = M) (hMp : 0 < M) (ad : ∀ j u, (Bys new)[j]? = some u → wr.cell? ((⟨k, 0, none⟩ : Addr).add j) = some u) (hx : a.eval x = .slice (some ⟨k, 0, none⟩) M c) (hl : L + M ≤ 1099511627776)
    (hK : ∀ g' cap' w', Chg (· = g) wr w' → (g' = g ∨ wr.heap.size ≤ g') → FnAt w w' K mv fx fcs g' cap' (l ++ new) (L + M) → KK (a.put o.dst (.slice (some ⟨g', 0, none⟩) (L + M) cap')) w') : if Region.wanted o (yielded ops a.tmps) = true then o.wp Tryd.prog a wr KK Q else E := by
  refine step_appE hgd s x ho h.en h.len hs new M c k hM hMp ad hx hl ?_
  intro g' cap' w' hc hg he
  exact hK g' cap' w' hc hg (h.step hc hg he (by simp [h.len, hM]))
theorem step_appSF {KK : Act → World → Prop} {E : Prop} (hgd : o.guard = none) (s x : Operand) (ho : o.op = .call { callee := .builtin .append, args := #[s, x], argTypes := #[41, 9] }) (h : FnAt w wr K mv fx fcs g cap l L) (hL0 : 0 < L) (hs : a.eval s = .slice (some ⟨g, 0, none⟩) L cap)
    (t : ByteArray) (hx : a.eval x = .string t) (hl : L + t.size ≤ 1099511627776)
    (hK : ∀ g' cap' w', Chg (· = g) wr w' → (g' = g ∨ wr.heap.size ≤ g') → FnAt w w' K mv fx fcs g' cap' (l ++ nameZ t) (L + t.size) → KK (a.put o.dst (.slice (some ⟨g', 0, none⟩) (L + t.size) cap')) w') : if Region.wanted o (yielded ops a.tmps) = true then o.wp Tryd.prog a wr KK Q else E := by
  refine step_appSE hgd s x ho h.en h.len hL0 hs t hx hl ?_
  intro g' cap' w' hc hg he
  exact hK g' cap' w' hc hg (h.step hc hg he (by simp [nameZ_len, h.len]))
end
theorem lit_src2 {w : World} (new : List Int) : ∀ j u, (Bys new)[j]? = some u → (w.alloc (.cells (Bys new).toArray 5)).drew.cell? ((⟨w.heap.size, 0, none⟩ : Addr).add j) = some u := lit_src new _ rfl

theorem enc_end (Q : Ending → World → Prop) (T : Array Value) (W : World) (k : Nat) (bv : Value) (e f at_ : Int) (ho : Own W k [.int .i64 e, .int .i64 f, .int .i64 at_]) (hT : T[3]? = some (.pointer (some ⟨k, 0, none⟩))) (hT2 : T[2]? = some bv) (x : Exit) (hx : x = .ret ∨ x = .normal)
    (hq : Q (.returned (.tuple #[bv, .agg #[.int .i64 e, .int .i64 f, .int .i64 at_]])) W) : bodyPost Tryd.prog Tryd.f16 Q x { tmps := T, defers := [] } W := by
  obtain ⟨_, r0, r1, r2, _⟩ := own3 ho
  have hr : (results Tryd.f16 T).run Tryd.prog W = .ok (.tuple #[bv, .agg #[.int .i64 e, .int .i64 f, .int .i64 at_]]) W := by
    simp [results, Tryd.results16, go_sem, hT, hT2, r0, r1, r2]
  rcases hx with rfl | rfl
  · exact bodyPost_ret hr rfl hq
  · exact ⟨rfl, _, hr, hq⟩
theorem own3_set {w : World} {k : Nat} {a b c : Value} (h : Own w k [a, b, c]) (x y z : Value) :
    Own (((w.setCell ⟨k, 0, none⟩ x).setCell ⟨k, 1, none⟩ y).setCell ⟨k, 2, none⟩ z) k [x, y, z] := ((h.set 0 x (by simp)).set 1 y (by simp)).set 2 z (by simp)

theorem lit_mark {W : World} (l : List Int) (fr : Nat × Nat) (k : Nat) (hk : k = W.heap.size) (o : Obj) : ∀ j u, (Bys l)[j]? = some u → ((W.alloc (.cells (Bys l).toArray 5 fr)).alloc o).cell? ((⟨k, 0, none⟩ : Addr).add j) = some u := by
  intro j u hu
  subst hk
  rw [show (⟨W.heap.size, 0, none⟩ : Addr).add j = ⟨W.heap.size, j, none⟩ from by unfold Addr.add; split <;> simp_all]
  rw [World.cell?_alloc_lt _ _ _ (by simp)]
  simp only [World.cell?, heap_alloc_new]
  simpa using hu

set_option maxRecDepth 100000 in
set_option maxHeartbeats 4000000 in
theorem encode_any {B : Nat} (m : PMod) (w : World) (v : Value) (hB : B ≤ w.heap.size) (hB0 : 0 < B) (hma : ModAt B w v m) (hr : RowsAt w) (he : (mayP m).e = 0) :
    Calls Tryd.prog 16 #[v] w fun e w' => ∃ g cap, e = .returned (.tuple #[.slice (some ⟨g, 0, none⟩) (encP m).length cap, .agg #[.int .i64 0, .int .i64 0, .int .i64 0]]) ∧ Below w.heap.size w w' ∧ w.heap.size ≤ g ∧ BufAt w' g cap (encP m) := by
  have hPK := modPk he
  have HMay := Lib.hid (show ∀ w1, w.heap.size ≤ w1.heap.size → Same B w w1 → Calls Tryd.prog 18 #[v] w1 fun e w' => e = .returned (.agg #[.int .i64 (mayP m).e, .int .i64 (mayP m).f, .int .i64 (mayP m).at_]) ∧ Below w1.heap.size w1 w' from fun w1 hz hs =>
    may_any B _ m w1 (by omega) hB0 (hma.same hs) (hr.same hs hB0 hz))
  rw [he] at HMay
  generalize (mayP m).f = mf at HMay
  generalize (mayP m).at_ = mat at HMay
  clear he hr
  obtain ⟨ta, tl, tc, fa, fl, fc, rfl, ht, hf⟩ := hma
  obtain ⟨htl, htm, tb, tO, hta, hts⟩ := ht
  obtain ⟨hfl, hfm, fb, fo, hfa, H, hcs⟩ := hf
  subst htl hfl
  have hP1 := hPK.thr
  have hP2 := hPK.few
  have Hts := Lib.hid hts; clear hts
  have Hcs := Lib.hid hcs; clear hcs
  have HPK := Lib.hid hPK; clear hPK
  unfold maxLen at htm hfm
  have b1 : (m.thr.length : Int) % 256 = m.thr.length := by omega
  have b2 : (m.funcs.length : Int) % 256 = m.funcs.length := by omega
  go_enter Tryd.func16, Tryd.ntmps16
  go_wp2_with (first
    | (go_at_call 18; refine (HMay.out _ (by first | omega | (simp <;> omega) | (simp at * <;> omega)) (by repeat (first | with_reducible exact Same.refl _ _ | with_reducible assumption | with_reducible refine Same.drew ?_ | with_reducible refine Same.drewN ?_ _ | with_reducible refine Same.alloc ?_ (by first | omega | (simp <;> omega) | (simp at * <;> omega)) _ | with_reducible refine Same.setCell ?_ (by first | omega | (simp <;> omega) | (simp at * <;> omega)) _ | (with_reducible refine Same.trans ?_ (Same.of (by assumption) (by first | omega | (simp <;> omega) | (simp at * <;> omega))))))).mono ?_; rintro e w1 ⟨rfl, hb1⟩; have hz1 := hb1.size; have om1 := own2 (((Own.new w [.slice ta m.thr.length tc, .slice fa m.funcs.length fc] 26).alloc (.cells #[.int .i64 0, .int .i64 0, .int .i64 0] 32)).below hb1); have hcv := Lib.run_convert_bytes_const (P := Tryd.prog) (w1.alloc (.cells #[.int .i64 0, .int .i64 mf, .int .i64 mat] 32)) 41 5 #[.int .u8 83, .int .u8 70, .int .u8 84, .int .u8 1] 4 4 Tryd.underlying41 Tryd.underlying5; simp only [World.size_alloc] at hcv)
    | (at_builtin; refine wpList_appG rfl (.tmp 21) (.tmp 26) rfl ⟨w1.heap.size + 1, 0, none⟩ [83, 70, 84, 1] 4 4 rfl rfl (lit_mark [83, 70, 84, 1] (4, 5) _ (by simp) _) ⟨w1.heap.size + 1 + 1, 0, none⟩ 1 1 [(m.thr.length : Int)] rfl rfl (lit_src [(m.thr.length : Int)] _ (by simp)) (by decide) (by simp) ?_)
    | fail)
  intro g2 cap2 w2 hb2 hc2 hg2
  have hz1 := hb1.size
  have hz2 := hc2.size
  have hE2 : EncAt w w2 (w1.heap.size + 1 + 1 + 1) [.slice ta m.thr.length tc, .slice fa m.funcs.length fc] g2 cap2 (headB m) := by
    refine ⟨(by repeat (first | with_reducible exact Below.refl _ _ | with_reducible assumption | with_reducible refine Below.drew ?_ | with_reducible refine Below.drewN ?_ _ | with_reducible refine Below.alloc ?_ (by first | omega | (simp <;> omega) | (simp at * <;> omega)) _ | with_reducible refine Below.setCell ?_ (by first | omega | (simp <;> omega) | (simp at * <;> omega)) _ | (with_reducible refine Below.trans ?_ (Below.mono (by first | with_reducible assumption | exact hF _) (by first | omega | (simp <;> omega) | (simp at * <;> omega)))))), by simp at hz1; omega, by simpa using hz2, hg2, ?_, ?_, hb2⟩
    · exact ((((((Own.new w _ _).alloc _).below hb1).alloc _).alloc _).alloc _).of_below hc2 (by simp at hz1; omega)
    · exact ((((((Own.new' _ [.int .i64 0, .int .i64 0, .int .i64 0] _ _ (by simp))).below hb1).alloc _).alloc _).alloc _).of_below hc2 (by simp at hz1; omega)
  have HE2 := Lib.hid hE2; clear hE2
  have hh : (headB m).length = 5 := rfl
  generalize hK : w1.heap.size + 1 + 1 + 1 = K at *
  clear hcv om1 hb2 hc2 hg2 hb1 hz1 hz2 hK
  have e2 := own2 HE2.out.box
  go_wp2
  go_loopw [5, 31] (fun v i wr => ∃ (j g cap : Nat), j ≤ m.thr.length ∧ i = .int .i64 j ∧ v = .slice (some ⟨g, 0, none⟩) (5 + 8 * j) cap ∧ Hid (EncAt w wr K [.slice ta m.thr.length tc, .slice fa m.funcs.length fc] g cap (headB m ++ (m.thr.take j).flatMap (numB · 8)))) (fun v i _ => m.thr.length - (intOf i).toNat)
  case atStart => exact ⟨0, g2, cap2, Nat.zero_le _, rfl, rfl, Lib.hid (by simpa using HE2.out)⟩
  case round =>
    obtain ⟨j, g, cap, hj, rfl, rfl, hE⟩ := hrel
    have hlen : (headB m ++ (m.thr.take j).flatMap (numB · 8)).length = 5 + 8 * j := by
      rw [List.length_append, hh]
      have : ∀ l : List Int, (l.flatMap (numB · 8)).length = 8 * l.length := by
        intro l
        induction l with
        | nil => rfl
        | cons x l ih => rw [List.flatMap_cons, List.length_append, ih, numB_len, List.length_cons]; omega
      rw [this, List.length_take, Nat.min_eq_left hj]
    have q2 := own2 hE.out.box
    by_cases hlt : j < m.thr.length
    · have d2 : (j : Int) < (m.thr.length : Int) := by omega
      have hwk : IntKind.i64.wrap ((j : Int) + 1) = (j : Int) + 1 := IntWalk.i64_in _ (by omega)
      have hwk0 : IntKind.i64.wrap (j : Int) = (j : Int) := IntWalk.i64_in _ (by omega)
      obtain ⟨rfl, htb⟩ := hta (by omega)
      have t0 := ((bcell hE.out.old).1 tb _ (by omega)).trans (Hts.out j hlt).1
      have hS := flatMap_take_succ (numB · 8) m.thr j hlt
      have e0 : m.thr.getD j default = m.thr.getD j 0 := rfl
      rw [e0] at hS
      have HS := Lib.hid hS; clear hS e0
      generalize m.thr.getD j 0 = tn at *
      have HN := Lib.hid (pnumber_enc hE.out hlen tn 8 (by omega) (by omega)); clear hlen
      go_wp2_with (go_at_call 27; refine HN.out.mono ?_; rintro e w5 ⟨g5, cap5, rfl, hc5, hg5, hE5⟩)
      go_roundw
      case rel => exact ⟨j + 1, g5, cap5, by omega, by simp, by congr 1, Lib.hid (by rw [HS.out, ← List.append_assoc]; exact hE5)⟩
      case measure => go_light; first | omega | (simp only [intOf]; omega)
    · have hjk : j = m.thr.length := by omega
      subst hjk
      have d2 : ¬ (m.thr.length : Int) < (m.thr.length : Int) := by omega
      rw [List.take_length] at hE hlen
      go_wp2_with (at_builtin; refine wpList_appE rfl (.tmp 39) (.tmp 44) rfl hE.out hlen rfl [(m.funcs.length : Int)] 1 1 wr.heap.size rfl (by omega) rfl rfl (by omega) ?_; intro g3 cap3 w3 hc3 hg3 hE3; have e3 := own2 hE3.box)
      have hE3' : EncAt w w3 K [.slice ta m.thr.length tc, .slice fa m.funcs.length fc] g3 cap3 (headB m ++ m.thr.flatMap (numB · 8) ++ [(m.funcs.length : Int)]) := hE3
      have hP0 : (headB m ++ m.thr.flatMap (numB · 8) ++ [(m.funcs.length : Int)]).length = 5 + 8 * m.thr.length + 1 := by rw [List.length_append, hlen]; rfl
      have HE3 := Lib.hid hE3'; clear hE3' hE3 hc3 hg3 hE hlen
      generalize hP : headB m ++ m.thr.flatMap (numB · 8) ++ [(m.funcs.length : Int)] = P0 at *
      have HP := Lib.hid hP; clear hP
      clear q2 e2 HE2 b1 Hts hta
      obtain ⟨wA, rfl⟩ : ∃ wo : World, wo = w3 := ⟨_, rfl⟩
      go_loopw [5, 49] (fun v i wr => ∃ (j g cap L : Nat), j ≤ m.funcs.length ∧ i = .int .i64 j ∧ v = .slice (some ⟨g, 0, none⟩) L cap ∧ (P0 ++ (m.funcs.take j).flatMap funB).length = L ∧ L ≤ 200 + 13000 * j ∧ 0 < L ∧ Hid (EncAt w wr K [.slice ta m.thr.length tc, .slice fa m.funcs.length fc] g cap (P0 ++ (m.funcs.take j).flatMap funB))) (fun v i _ => m.funcs.length - (intOf i).toNat)
      case atStart => exact ⟨0, g3, cap3, _, Nat.zero_le _, rfl, rfl, by simpa using hP0, by omega, by omega, Lib.hid (by simpa using HE3.out)⟩
      case round =>
        clear e3 HE3 hlt d2
        obtain ⟨j, g, cap, L, hj, rfl, rfl, hL, hL2, hL3, hE⟩ := hrel
        have q2 := own2 hE.out.box
        have hgl := hE.out.lt
        by_cases hlt : j < m.funcs.length
        · have d2 : (j : Int) < (m.funcs.length : Int) := by omega
          have hwk : IntKind.i64.wrap ((j : Int) + 1) = (j : Int) + 1 := IntWalk.i64_in _ (by omega)
          have hwk0 : IntKind.i64.wrap (j : Int) = (j : Int) := IntWalk.i64_in _ (by omega)
          obtain ⟨rfl, hfb⟩ := hfa (by omega)
          obtain ⟨⟨c0, c1, c2, c3, c4⟩, ok⟩ := Hcs.out j hlt
          obtain ⟨_, ⟨pl, pm, pb, po, pbase, pcells⟩, ⟨kl, km, kb, ko, kbase, kcells⟩, _, _⟩ := ok
          rw [← pl] at c1 pbase pcells
          rw [← kl] at c4 kbase kcells
          have hfp := HPK.out.fn j hlt
          have hc := (bcell hE.out.old).1
          have u0 := (hc fb _ (by omega)).trans c0
          have u1 := (hc fb _ (by omega)).trans c1
          have u2 := (hc fb _ (by omega)).trans c2
          have u3 := (hc fb _ (by omega)).trans c3
          have u4 := (hc fb _ (by omega)).trans c4
          have hS := flatMap_take_succ funB m.funcs j hlt
          have hfl := funB_len hfp
          clear hc c0 c1 c2 c3 c4
          generalize m.funcs.getD j default = ff at *
          generalize (H j).pa = pa at *
          generalize (H j).pc = pc at *
          generalize (H j).ca = ca at *
          generalize (H j).cc = cc at *
          have HS := Lib.hid hS; clear hS
          have HPC := Lib.hid pcells; clear pcells
          have HKC := Lib.hid kcells; clear kcells
          clear pl pm kl km
          have n1 := hfp.n1; have n2 := hfp.n2; have n3 := hfp.p; have n4 := hfp.r1; have n5 := hfp.r2; have n6 := hfp.w1; have n7 := hfp.w2; have n8 := hfp.c1; have n9 := hfp.c2
          have HFP := Lib.hid hfp; clear hfp
          go_wp2_with fail
          generalize hW9 : World.alloc _ _ = W9
          have hE9 : EncAt w W9 K [.slice ta m.thr.length tc, .slice (some ⟨fb, fo, none⟩) m.funcs.length fc] g cap (P0 ++ (m.funcs.take j).flatMap funB) := by rw [← hW9]; exact hE.out.keep (by repeat (first | with_reducible exact Below.refl _ _ | with_reducible assumption | with_reducible refine Below.drew ?_ | with_reducible refine Below.drewN ?_ _ | with_reducible refine Below.alloc ?_ (by first | omega | (simp <;> omega) | (simp at * <;> omega)) _ | with_reducible refine Below.setCell ?_ (by first | omega | (simp <;> omega) | (simp at * <;> omega)) _ | (with_reducible refine Below.trans ?_ (Below.mono (by first | with_reducible assumption | exact hF _) (by first | omega | (simp <;> omega) | (simp at * <;> omega))))))
          have OF : Own W9 wr.heap.size [.string ff.name, .slice pa ff.params.length pc, .int .i64 ff.regs, .int .i64 ff.words, .slice ca ff.code.length cc] := by rw [← hW9]; exact Own.new _ _ _
          have hold9 : Below wr.heap.size wr W9 := by rw [← hW9]; exact (by repeat (first | with_reducible exact Below.refl _ _ | with_reducible assumption | with_reducible refine Below.drew ?_ | with_reducible refine Below.drewN ?_ _ | with_reducible refine Below.alloc ?_ (by first | omega | (simp <;> omega) | (simp at * <;> omega)) _ | with_reducible refine Below.setCell ?_ (by first | omega | (simp <;> omega) | (simp at * <;> omega)) _ | (with_reducible refine Below.trans ?_ (Below.mono (by first | with_reducible assumption | exact hF _) (by first | omega | (simp <;> omega) | (simp at * <;> omega))))))
          clear hW9 q2 u0 u1 u2 u3 u4
          generalize hfx : wr.heap.size = fx at *
          have q5 := own5 OF
          have b3 : (ff.name.size : Int) % 256 = ff.name.size := by omega
          have b3w : IntKind.u8.wrap (ff.name.size : Int) = ff.name.size := by rw [IntKind.wrap_u8]; omega
          have b4 : (ff.params.length : Int) % 256 = ff.params.length := by omega
          have b5 : IntKind.u8.wrap ff.regs = ff.regs := by rw [IntKind.wrap_u8]; omega
          generalize hl0 : P0 ++ (m.funcs.take j).flatMap funB = l0 at *
          have hF9 : FnAt w W9 K [.slice ta m.thr.length tc, .slice (some ⟨fb, fo, none⟩) m.funcs.length fc] fx [.string ff.name, .slice pa ff.params.length pc, .int .i64 ff.regs, .int .i64 ff.words, .slice ca ff.code.length cc] g cap l0 L := ⟨hE9, OF, by omega, hL⟩
          clear hE9 OF
          generalize hfcs : [Value.string ff.name, .slice pa ff.params.length pc, .int .i64 ff.regs, .int .i64 ff.words, .slice ca ff.code.length cc] = fcs at hF9
          have HFC := Lib.hid hfcs; clear hfcs
          have hfc0 := q5.2.1
          have hfxl := q5.1
          have HF9 := Lib.hid hF9; clear hF9
          go_region_held3 (fun w' => w'.cell? ⟨fx, 0, none⟩ = some (.string ff.name)) (first | go_keep | (rw [Chg.cellAt hc5 0 (by simp; omega) (by omega)]; go_keep) | (rw [Chg.cellAt hc6 0 hF5.own.1 (fun e => hF5.ne e.symm)]; assumption))
            (first
              | (refine step_appF rfl (.tmp 53) (.tmp 58) rfl (HF9.out.keep (((Below.refl _ _).alloc (Nat.le_refl _) _)).drew) rfl [(ff.name.size : Int)] 1 1 W9.heap.size rfl (by omega) (lit_src2 [(ff.name.size : Int)]) rfl (by omega) ?_; intro g5 cap5 w5 hc5 hg5 hF5)
              | (refine step_appSF rfl (.tmp 59) (.tmp 61) rfl hF5 (by omega) rfl ff.name rfl (by omega) ?_; intro g6 cap6 w6 hc6 hg6 hF6))
          have hq6 := hF6.own
          rw [← HFC.out] at hq6
          have q6 := own5 hq6
          have HF6 := Lib.hid hF6; clear hF6 hF5 hq6 hc5 hc6 hg5 hg6 q5 hfc0 hfxl HF9 hE hold9
          go_wp2_with (at_builtin; refine wpList_appF rfl (.tmp 63) (.tmp 68) rfl HF6.out rfl [(ff.params.length : Int)] 1 1 w6.heap.size rfl (by omega) rfl rfl (by omega) ?_; intro g7 cap7 w7 hc7 hg7 hF7; have hq7 := hF7.own; rw [← HFC.out] at hq7; have q7 := own5 hq7)
          have HF7 := Lib.hid hF7
          clear hF7 hq7 q7 q6 HF6
          obtain ⟨L7, hL7⟩ : ∃ L7, L7 = L + 1 + ff.name.size + 1 := ⟨_, rfl⟩
          rw [← hL7] at HF7 ⊢
          obtain ⟨l7, hl7⟩ : ∃ l7, l7 = l0 ++ [(ff.name.size : Int)] ++ nameZ ff.name ++ [(ff.params.length : Int)] := ⟨_, rfl⟩
          rw [← hl7] at HF7
          have HL7 := Lib.hid hl7; clear hl7
          have hL7b : L7 ≤ 1000000 := by omega
          have HLL7 := Lib.hid hL7; clear hL7
          obtain ⟨wA, rfl⟩ : ∃ wo : World, wo = w7 := ⟨_, rfl⟩
          clear hc7 hg7
          go_loopw [5, 73] (fun v i wr => ∃ (jj g cap : Nat), jj ≤ ff.params.length ∧ i = .int .i64 jj ∧ v = .slice (some ⟨g, 0, none⟩) (L7 + 16 * jj) cap ∧ Hid (FnAt w wr K [.slice ta m.thr.length tc, .slice (some ⟨fb, fo, none⟩) m.funcs.length fc] fx fcs g cap (l7 ++ (ff.params.take jj).flatMap spanB) (L7 + 16 * jj))) (fun v i _ => ff.params.length - (intOf i).toNat)
          case atStart => exact ⟨0, g7, cap7, Nat.zero_le _, rfl, rfl, Lib.hid (by simpa using HF7.out)⟩
          case round =>
            obtain ⟨jj, g8, cap8, hjj, rfl, rfl, hF8⟩ := hrel
            by_cases hlp : jj < ff.params.length
            · have d3 : (jj : Int) < (ff.params.length : Int) := by omega
              have hwj : IntKind.i64.wrap ((jj : Int) + 1) = (jj : Int) + 1 := IntWalk.i64_in _ (by omega)
              have hwj0 : IntKind.i64.wrap (jj : Int) = (jj : Int) := IntWalk.i64_in _ (by omega)
              obtain ⟨rfl, hpb⟩ := pbase (by omega)
              obtain ⟨s0, s1, _, _⟩ := HPC.out jj hlp
              have hc := (bcell hF8.out.en.old).1
              have t0 := (hc pb _ (by omega)).trans s0
              have t1 := (hc pb _ (by omega)).trans s1
              have hS := flatMap_take_succ spanB ff.params jj hlp
              have HS2 := Lib.hid hS; clear hS
              clear hc s0 s1
              generalize ff.params.getD jj default = sp at *
              obtain ⟨lo, hi⟩ := sp
              dsimp only at t0 t1
              have hgl8 := hF8.out.en.lt
              go_wp2_with fail
              generalize hWb : World.alloc _ _ = Wb
              have hFb : FnAt w Wb K [.slice ta m.thr.length tc, .slice (some ⟨fb, fo, none⟩) m.funcs.length fc] fx fcs g8 cap8 (l7 ++ (ff.params.take jj).flatMap spanB) (L7 + 16 * jj) := by rw [← hWb]; exact hF8.out.keep (by repeat (first | with_reducible exact Below.refl _ _ | with_reducible assumption | with_reducible refine Below.drew ?_ | with_reducible refine Below.drewN ?_ _ | with_reducible refine Below.alloc ?_ (by first | omega | (simp <;> omega) | (simp at * <;> omega)) _ | with_reducible refine Below.setCell ?_ (by first | omega | (simp <;> omega) | (simp at * <;> omega)) _ | (with_reducible refine Below.trans ?_ (Below.mono (by first | with_reducible assumption | exact hF _) (by first | omega | (simp <;> omega) | (simp at * <;> omega))))))
              have ob := own2 (show Own Wb wr.heap.size [.int .i64 lo, .int .i64 hi] by rw [← hWb]; exact Own.new _ _ _)
              clear hWb t0 t1
              generalize hbx : wr.heap.size = bx at *
              have obs := ob.2.2.1
              have HFb := Lib.hid hFb; clear hFb
              have hne8 : g8 ≠ bx := by omega
              have hbl := ob.1
              have obs0 := ob.2.1
              go_region_held3 (fun w' => w'.cell? ⟨bx, 0, none⟩ = some (.int .i64 lo) ∧ w'.cell? ⟨bx, 1, none⟩ = some (.int .i64 hi)) (first | go_keep | (exact ⟨(Chg.cellAt hc9 0 hbl (fun e => hne8 e.symm)).trans obs0, (Chg.cellAt hc9 1 hbl (fun e => hne8 e.symm)).trans obs⟩) | (have hbl9 := Nat.lt_of_lt_of_le hbl hc9.size; have hn9 : bx ≠ g9 := (by rcases hg9 with q | q; exact fun e => hne8 (q ▸ e.symm); exact fun e => absurd hbl (by rw [e]; exact Nat.not_lt.2 q)); exact ⟨(Chg.cellAt hc10 0 hbl9 hn9).trans ((Chg.cellAt hc9 0 hbl (fun e => hne8 e.symm)).trans obs0), (Chg.cellAt hc10 1 hbl9 hn9).trans ((Chg.cellAt hc9 1 hbl (fun e => hne8 e.symm)).trans obs)⟩))
                (first
                  | (go_at_call_of 27 (Value.int IntKind.i64 lo); refine (pnumber_fn (HFb.out.keep (Below.refl _ _).drew) lo 8 8 rfl (by omega) (by omega)).mono ?_; rintro e w9 ⟨g9, cap9, rfl, hc9, hg9, hF9⟩)
                  | (go_at_call_of 27 (Value.int IntKind.i64 hi); refine (pnumber_fn hF9 hi 8 8 rfl (by omega) (by omega)).mono ?_; rintro e w10 ⟨g10, cap10, rfl, hc10, hg10, hF10⟩))
              have HF10 := Lib.hid hF10
              clear hF9 hF10 hc9 hc10 hg9 hg10
              go_wp2
              go_roundw
              case rel => exact ⟨jj + 1, g10, cap10, by omega, by simp, by congr 1, Lib.hid (by rw [HS2.out, ← List.append_assoc, show L7 + 16 * (jj + 1) = L7 + 16 * jj + 8 + 8 by omega]; simpa [spanB] using HF10.out)⟩
              case measure => go_light; first | omega | (simp only [intOf]; omega)
            · have hjp : jj = ff.params.length := by omega
              subst hjp
              have d3 : ¬ (ff.params.length : Int) < (ff.params.length : Int) := by omega
              have hq8 := hF8.out.own
              rw [← HFC.out] at hq8
              have q8 := own5 hq8
              rw [List.take_length] at hF8
              go_wp2_with fail
              obtain ⟨l8, hl8⟩ : ∃ l8, l8 = l7 ++ ff.params.flatMap spanB := ⟨_, rfl⟩
              rw [← hl8] at hF8
              have HL8 := Lib.hid hl8; clear hl8
              have hne8 := hF8.ne
              have hbl8 := hF8.own.1
              have o2 := q8.2.2.2.1
              have o3 := q8.2.2.2.2.1
              have hwr8 : FnAt w wr K [.slice ta m.thr.length tc, .slice (some ⟨fb, fo, none⟩) m.funcs.length fc] fx fcs g8 cap8 l8 (L7 + 16 * ff.params.length) := hF8
              clear hF8 hq8
              have HF8 := Lib.hid hwr8; clear hwr8
              obtain ⟨L8, hL8⟩ : ∃ L8, L8 = L7 + 16 * ff.params.length := ⟨_, rfl⟩
              rw [← hL8] at HF8 ⊢
              have hL8b : L8 ≤ 2000000 := by omega
              have HLL8 := Lib.hid hL8; clear hL8
              go_region_held3 (fun w' => w'.cell? ⟨fx, 2, none⟩ = some (.int .i64 ff.regs) ∧ w'.cell? ⟨fx, 3, none⟩ = some (.int .i64 ff.words)) (first | go_keep | (exact ⟨(Chg.cellAt hc9 2 (Nat.lt_succ_of_lt hbl8) (fun e => hne8 e.symm)).trans (by go_keep), (Chg.cellAt hc9 3 (Nat.lt_succ_of_lt hbl8) (fun e => hne8 e.symm)).trans (by go_keep)⟩) | (have hq9 := hF9.own; rw [← HFC.out] at hq9; have hq10 := hF10.own; rw [← HFC.out] at hq10; first | exact ⟨(own5 hq10).2.2.2.1, (own5 hq10).2.2.2.2.1⟩ | exact ⟨(own5 hq9).2.2.2.1, (own5 hq9).2.2.2.2.1⟩) | (have hq9 := hF9.own; rw [← HFC.out] at hq9; exact ⟨(own5 hq9).2.2.2.1, (own5 hq9).2.2.2.2.1⟩))
                (first
                  | (go_at_call_of 27 (Value.int IntKind.i64 ff.words); refine (pnumber_fn hF9 ff.words 2 2 rfl (by omega) (by omega)).mono ?_; rintro e w10 ⟨g10, cap10, rfl, hc10, hg10, hF10⟩)
                  | (refine step_appF rfl (.tmp 85) (.tmp 89) rfl (HF8.out.keep (((Below.refl _ _).alloc (Nat.le_refl _) _)).drew) rfl [ff.regs] 1 1 wr.heap.size rfl (by omega) (lit_src2 [ff.regs]) rfl (by omega) ?_; intro g9 cap9 w9 hc9 hg9 hF9))
              have hq10 := hF10.own
              rw [← HFC.out] at hq10
              have q10 := own5 hq10
              have HF10 := Lib.hid hF10
              clear hF9 hF10 hc9 hc10 hg9 hg10 hq10 q8 o2 o3 hne8 hbl8 HF8
              go_wp2_with (go_at_call 27; refine (pnumber_fn HF10.out ff.code.length 2 2 rfl (by omega) (by omega)).mono ?_; rintro e w11 ⟨g11, cap11, rfl, hc11, hg11, hF11⟩; have hq11 := hF11.own; rw [← HFC.out] at hq11; have q11 := own5 hq11)
              obtain ⟨L9, hL9⟩ : ∃ L9, L9 = L8 + 1 + 2 + 2 := ⟨_, rfl⟩
              rw [← hL9] at hF11 ⊢
              obtain ⟨l9, hl9⟩ : ∃ l9, l9 = l8 ++ [ff.regs] ++ numB ff.words 2 ++ numB ff.code.length 2 := ⟨_, rfl⟩
              rw [← hl9] at hF11
              have HF11 := Lib.hid hF11
              have HL9 := Lib.hid hl9; clear hl9
              have hL9b : L9 ≤ 3000000 := by omega
              have HLL9 := Lib.hid hL9; clear hL9
              clear hF11 hq11 q11 q10 HF10 hc11 hg11
              obtain ⟨wB, rfl⟩ : ∃ wo : World, wo = w11 := ⟨_, rfl⟩
              go_loopw [5, 102] (fun v i wr => ∃ (jj g cap : Nat), jj ≤ ff.code.length ∧ i = .int .i64 jj ∧ v = .slice (some ⟨g, 0, none⟩) (L9 + 12 * jj) cap ∧ Hid (FnAt w wr K [.slice ta m.thr.length tc, .slice (some ⟨fb, fo, none⟩) m.funcs.length fc] fx fcs g cap (l9 ++ (ff.code.take jj).flatMap insB) (L9 + 12 * jj))) (fun v i _ => ff.code.length - (intOf i).toNat)
              case atStart => exact ⟨0, g11, cap11, Nat.zero_le _, rfl, rfl, Lib.hid (by simpa using HF11.out)⟩
              case round =>
                obtain ⟨jj, g8, cap8, hjj, rfl, rfl, hF8⟩ := hrel
                by_cases hlp : jj < ff.code.length
                · have d3 : (jj : Int) < (ff.code.length : Int) := by omega
                  have hwj : IntKind.i64.wrap ((jj : Int) + 1) = (jj : Int) + 1 := IntWalk.i64_in _ (by omega)
                  have hwj0 : IntKind.i64.wrap (jj : Int) = (jj : Int) := IntWalk.i64_in _ (by omega)
                  obtain ⟨rfl, hkb⟩ := kbase (by omega)
                  obtain ⟨⟨s0, s1, s2, s3, s4⟩, _⟩ := HKC.out jj hlp
                  have hc := (bcell hF8.out.en.old).1
                  have t0 := (hc kb _ (by omega)).trans s0
                  have t1 := (hc kb _ (by omega)).trans s1
                  have t2 := (hc kb _ (by omega)).trans s2
                  have t3 := (hc kb _ (by omega)).trans s3
                  have t4 := (hc kb _ (by omega)).trans s4
                  have hS := flatMap_take_succ insB ff.code jj hlp
                  have HS2 := Lib.hid hS; clear hS
                  have hib := HFP.out.ins jj hlp
                  clear hc s0 s1 s2 s3 s4
                  generalize ff.code.getD jj default = ix at *
                  obtain ⟨op, xa, xb, xc, xn⟩ := ix
                  dsimp only at t0 t1 t2 t3 t4 hib
                  have y0 : IntKind.u8.wrap op = op := by rw [IntKind.wrap_u8]; omega
                  have y1 : IntKind.u8.wrap xa = xa := by rw [IntKind.wrap_u8]; omega
                  have y2 : IntKind.u8.wrap xb = xb := by rw [IntKind.wrap_u8]; omega
                  have y3 : IntKind.u8.wrap xc = xc := by rw [IntKind.wrap_u8]; omega
                  have hgl8 := hF8.out.en.lt
                  go_wp2_with fail
                  generalize hWb : World.alloc _ _ = Wb
                  have hFb : FnAt w Wb K [.slice ta m.thr.length tc, .slice (some ⟨fb, fo, none⟩) m.funcs.length fc] fx fcs g8 cap8 (l9 ++ (ff.code.take jj).flatMap insB) (L9 + 12 * jj) := by rw [← hWb]; exact hF8.out.keep (by repeat (first | with_reducible exact Below.refl _ _ | with_reducible assumption | with_reducible refine Below.drew ?_ | with_reducible refine Below.drewN ?_ _ | with_reducible refine Below.alloc ?_ (by first | omega | (simp <;> omega) | (simp at * <;> omega)) _ | with_reducible refine Below.setCell ?_ (by first | omega | (simp <;> omega) | (simp at * <;> omega)) _ | (with_reducible refine Below.trans ?_ (Below.mono (by first | with_reducible assumption | exact hF _) (by first | omega | (simp <;> omega) | (simp at * <;> omega))))))
                  have ob := own5 (show Own Wb wr.heap.size [.int .i64 op, .int .i64 xa, .int .i64 xb, .int .i64 xc, .int .i64 xn] by rw [← hWb]; exact Own.new _ _ _)
                  clear hWb t0 t1 t2 t3 t4
                  generalize hbx : wr.heap.size = bx at *
                  have HFb := Lib.hid hFb; clear hFb
                  have hne8 : g8 ≠ bx := by omega
                  obtain ⟨hbl, o0, o1, o2, o3, o4, _⟩ := ob
                  have hlt' : bx < ((Wb.alloc (.cells #[.int .u8 op, .int .u8 xa, .int .u8 xb, .int .u8 xc] 5)).drew).heap.size := by simp; omega
                  go_region_held3 (fun w' => w'.cell? ⟨bx, 0, none⟩ = some (.int .i64 op) ∧ w'.cell? ⟨bx, 1, none⟩ = some (.int .i64 xa) ∧ w'.cell? ⟨bx, 2, none⟩ = some (.int .i64 xb) ∧ w'.cell? ⟨bx, 3, none⟩ = some (.int .i64 xc) ∧ w'.cell? ⟨bx, 4, none⟩ = some (.int .i64 xn)) (first | go_keep | (exact ⟨(Chg.cellAt hc9 0 hlt' (fun e => hne8 e.symm)).trans (by go_keep), (Chg.cellAt hc9 1 hlt' (fun e => hne8 e.symm)).trans (by go_keep), (Chg.cellAt hc9 2 hlt' (fun e => hne8 e.symm)).trans (by go_keep), (Chg.cellAt hc9 3 hlt' (fun e => hne8 e.symm)).trans (by go_keep), (Chg.cellAt hc9 4 hlt' (fun e => hne8 e.symm)).trans (by go_keep)⟩) | (have hbl9 := Nat.lt_of_lt_of_le hlt' hc9.size; have hn9 : bx ≠ g9 := (by rcases hg9 with q | q; exact fun e => hne8 (q ▸ e.symm); exact fun e => Nat.lt_irrefl _ (Nat.lt_of_lt_of_le hlt' (e ▸ q))); exact ⟨(Chg.cellAt hc10 0 hbl9 hn9).trans ((Chg.cellAt hc9 0 hlt' (fun e => hne8 e.symm)).trans (by go_keep)), (Chg.cellAt hc10 1 hbl9 hn9).trans ((Chg.cellAt hc9 1 hlt' (fun e => hne8 e.symm)).trans (by go_keep)), (Chg.cellAt hc10 2 hbl9 hn9).trans ((Chg.cellAt hc9 2 hlt' (fun e => hne8 e.symm)).trans (by go_keep)), (Chg.cellAt hc10 3 hbl9 hn9).trans ((Chg.cellAt hc9 3 hlt' (fun e => hne8 e.symm)).trans (by go_keep)), (Chg.cellAt hc10 4 hbl9 hn9).trans ((Chg.cellAt hc9 4 hlt' (fun e => hne8 e.symm)).trans (by go_keep))⟩))
                    (first
                      | (go_at_call_of 27 (Value.int IntKind.i64 xn); refine (pnumber_fn hF9 xn 8 8 rfl (by omega) (by omega)).mono ?_; rintro e w10 ⟨g10, cap10, rfl, hc10, hg10, hF10⟩)
                      | (refine step_appF rfl (.tmp 106) (.tmp 119) rfl (HFb.out.keep (((Below.refl _ _).alloc (Nat.le_refl _) _)).drew) rfl [op, xa, xb, xc] 4 4 Wb.heap.size rfl (by omega) (lit_src2 [op, xa, xb, xc]) rfl (by omega) ?_; intro g9 cap9 w9 hc9 hg9 hF9))
                  have HF10 := Lib.hid hF10
                  clear hF9 hF10 hc9 hc10 hg9 hg10
                  go_wp2
                  go_roundw
                  case rel => exact ⟨jj + 1, g10, cap10, by omega, by simp, by congr 1, Lib.hid (by rw [HS2.out, ← List.append_assoc, show L9 + 12 * (jj + 1) = L9 + 12 * jj + 4 + 8 by omega]; simpa [insB] using HF10.out)⟩
                  case measure => go_light; first | omega | (simp only [intOf]; omega)
                · have hjp : jj = ff.code.length := by omega
                  subst hjp
                  have d3 : ¬ (ff.code.length : Int) < (ff.code.length : Int) := by omega
                  rw [List.take_length] at hF8
                  go_wp2
                  go_roundw
                  case rel =>
                    have e : P0 ++ (m.funcs.take (j + 1)).flatMap funB = l9 ++ ff.code.flatMap insB := by
                      rw [HS.out, ← List.append_assoc, hl0, HL9.out, HL8.out, HL7.out]
                      simp [funB, funH, funM]
                    refine ⟨j + 1, g8, cap8, L9 + 12 * ff.code.length, by omega, by simp, rfl, by rw [e]; exact hF8.out.len, ?_, by omega, Lib.hid (by rw [e]; exact hF8.out.en)⟩
                    have := HLL9.out; have := HLL8.out; have := HLL7.out
                    omega
                  case measure => go_light; first | omega | (simp only [intOf]; omega)
        · have hjk : j = m.funcs.length := by omega
          subst hjk
          have d2 : ¬ (m.funcs.length : Int) < (m.funcs.length : Int) := by omega
          rw [List.take_length] at hE hL
          have r3 := own3 hE.out.res
          have s3 := set3 hE.out.res
          have hold := hE.out.old
          have hlow := hE.out.low
          have hKK := hE.out.hK
          go_wp2
          have hw : Below w.heap.size w (((wr.setCell ⟨w.heap.size + 1, 0, none⟩ (.int .i64 0)).setCell ⟨w.heap.size + 1, 1, none⟩ (.int .i64 0)).setCell ⟨w.heap.size + 1, 2, none⟩ (.int .i64 0)) := (by repeat (first | with_reducible exact Below.refl _ _ | with_reducible assumption | with_reducible refine Below.drew ?_ | with_reducible refine Below.drewN ?_ _ | with_reducible refine Below.alloc ?_ (by first | omega | (simp <;> omega) | (simp at * <;> omega)) _ | with_reducible refine Below.setCell ?_ (by first | omega | (simp <;> omega) | (simp at * <;> omega)) _ | (with_reducible refine Below.trans ?_ (Below.mono (by first | with_reducible assumption | exact hF _) (by first | omega | (simp <;> omega) | (simp at * <;> omega))))))
          have hP2 := HP.out
          refine enc_end _ _ _ (w.heap.size + 1) _ 0 0 0 (own3_set hE.out.res _ _ _) rfl rfl _ (by simp) ⟨g, cap, ?_, hw, by omega, ?_⟩
          · congr 3
            rw [← hL, ← hP2]
            rfl
          · have hb := hE.out.buf
            have e : P0 ++ m.funcs.flatMap funB = encP m := by rw [← hP2]; rfl
            rw [e] at hb
            exact hb.chg (S := fun x => x = w.heap.size + 1) ((((Chg.refl (fun x => x = w.heap.size + 1) wr).setCell (p := ⟨w.heap.size + 1, 0, none⟩) (.inl rfl) _).setCell (p := ⟨w.heap.size + 1, 1, none⟩) (.inl rfl) _).setCell (p := ⟨w.heap.size + 1, 2, none⟩) (.inl rfl) _) (by omega)
end Go.Proofs.YtgpdggjpbmgegaaDoor
