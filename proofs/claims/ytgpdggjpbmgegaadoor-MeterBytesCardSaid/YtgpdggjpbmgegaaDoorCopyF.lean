/- R9.CopyFunc: a function's lists, copied into memory of their own. -/
import Derived.Test.YtgpdggjpbmgegaaDoorAppSrc
import Derived.Test.YtgpdggjpbmgegaaDoorMeter
import Derived.Test.YtgpdggjpbmgegaaDoorLens
import Derived.OwnWalk
namespace Go.Proofs.YtgpdggjpbmgegaaDoor
open Go.RowKit
set_option linter.unusedVariables false
set_option linter.unusedSimpArgs false


def spanC (p : PSpan) : List Value := [.int .i64 p.lo, .int .i64 p.hi]
def insC (x : PIns) : List Value := [.int .i64 x.op, .int .i64 x.a, .int .i64 x.b, .int .i64 x.c, .int .i64 x.n]
theorem flat_get {α : Type} (f : α → List Value) (k : Nat) (hk : ∀ a, (f a).length = k) : ∀ (l : List α) (j : Nat) (u : Value), (l.flatMap f)[j]? = some u → ∃ i r, ∃ hi : i < l.length, r < k ∧ j = i * k + r ∧ (f l[i])[r]? = some u
  | [], j, u, h => by simp at h
  | a :: l, j, u, h => by
    rw [List.flatMap_cons] at h
    by_cases hj : j < k
    · rw [List.getElem?_append_left (by rw [hk]; exact hj)] at h
      exact ⟨0, j, by simp, hj, by simp, h⟩
    · rw [List.getElem?_append_right (by rw [hk]; omega), hk] at h
      obtain ⟨i, r, hi, hr, e, hu⟩ := flat_get f k hk l _ _ h
      exact ⟨i + 1, r, by simp; omega, hr, by rw [Nat.add_mul]; omega, by simpa using hu⟩
theorem flat_at {α : Type} (f : α → List Value) (k : Nat) (hk : ∀ a, (f a).length = k) : ∀ (l : List α) (i r : Nat) (hi : i < l.length), r < k → (l.flatMap f)[i * k + r]? = (f l[i])[r]?
  | a :: l, 0, r, _, hr => by
    rw [List.flatMap_cons, Nat.zero_mul, Nat.zero_add, List.getElem?_append_left (by rw [hk]; exact hr)]; rfl
  | a :: l, i + 1, r, hi, hr => by
    rw [List.flatMap_cons, List.getElem?_append_right (by rw [hk, Nat.add_mul]; omega), hk, show (i + 1) * k + r - k = i * k + r by rw [Nat.add_mul]; omega]
    have := flat_at f k hk l i r (by simpa using hi) hr
    simpa using this
theorem flat_len {α : Type} (f : α → List Value) (k : Nat) (hk : ∀ a, (f a).length = k) : ∀ (l : List α), (l.flatMap f).length = l.length * k
  | [] => by simp
  | a :: l => by rw [List.flatMap_cons, List.length_append, hk, flat_len f k hk l, List.length_cons, Nat.add_mul]; omega

theorem Tryd.info74 : (Tryd.prog.info? 74).map (fun i => (i.zero, i.size, i.bytes)) = some (some (.agg #[.int .i64 0, .int .i64 0]), 2, 16) := by kernel_rfl
theorem Tryd.info47 : (Tryd.prog.info? 47).map (fun i => (i.zero, i.size, i.bytes)) = some (some (.agg #[.int .i64 0, .int .i64 0, .int .i64 0, .int .i64 0, .int .i64 0]), 5, 40) := by kernel_rfl

theorem SpansAt.src {B : Nat} {w w' : World} {a : Option Addr} {n : Nat} {zs : List PSpan} (h : SpansAt B w a n zs) (s : Same B w w') : 0 < n → ∃ b o, a = some ⟨b, o, none⟩ ∧ ∀ j u, (zs.flatMap spanC)[j]? = some u → w'.cell? ⟨b, o + j, none⟩ = some u := by
  obtain ⟨hl, _, b, o, hb, hc⟩ := h.same s
  intro h0
  refine ⟨b, o, (hb h0).1, fun j u hu => ?_⟩
  obtain ⟨i, r, hi, hr, rfl, hu2⟩ := flat_get spanC 2 (fun _ => rfl) zs j u hu
  obtain ⟨c0, c1, _⟩ := hc i (by omega)
  have e : zs.getD i default = zs[i] := getD_eq zs i hi
  rw [e] at c0 c1
  rcases (show r = 0 ∨ r = 1 by omega) with rfl | rfl
  · simp only [spanC, List.getElem?_cons_zero, Option.some.injEq] at hu2
    rw [← hu2, Nat.add_zero]; exact c0
  · simp only [spanC, List.getElem?_cons_succ, List.getElem?_cons_zero, Option.some.injEq] at hu2
    rw [← hu2, ← Nat.add_assoc]; exact c1
theorem CodeAt.src {B : Nat} {w w' : World} {a : Option Addr} {n : Nat} {zs : List PIns} (h : CodeAt B w a n zs) (s : Same B w w') : 0 < n → ∃ b o, a = some ⟨b, o, none⟩ ∧ ∀ j u, (zs.flatMap insC)[j]? = some u → w'.cell? ⟨b, o + j, none⟩ = some u := by
  obtain ⟨hl, _, b, o, hb, hc⟩ := h.same s
  intro h0
  refine ⟨b, o, (hb h0).1, fun j u hu => ?_⟩
  obtain ⟨i, r, hi, hr, rfl, hu2⟩ := flat_get insC 5 (fun _ => rfl) zs j u hu
  obtain ⟨⟨c0, c1, c2, c3, c4⟩, _⟩ := hc i (by omega)
  have e : zs.getD i default = zs[i] := getD_eq zs i hi
  rw [e] at c0 c1 c2 c3 c4
  rw [← Nat.add_assoc]
  rcases (show r = 0 ∨ r = 1 ∨ r = 2 ∨ r = 3 ∨ r = 4 by omega) with rfl | rfl | rfl | rfl | rfl
  all_goals
    simp only [insC, List.getElem?_cons_succ, List.getElem?_cons_zero, Option.some.injEq] at hu2
    rw [← hu2]; assumption

theorem ownsRow_none {w : World} {e size k : Nat} (hk : k = w.heap.size) : (w.alloc (.cells #[] e)).ownsRow 0 e size (.slice (some ⟨k, 0, none⟩) 0 0) 0 [] := by
  subst hk; exact World.ownsRow_made (w := w) #[] 0 (Nat.zero_le _) (Nat.zero_le _) (by simp)
def copyV (f : PFunc) (pb pcap cb ccap : Nat) : Value := .agg #[.string f.name, .slice (some ⟨pb, 0, none⟩) f.params.length pcap, .int .i64 f.regs, .int .i64 f.words, .slice (some ⟨cb, 0, none⟩) f.code.length ccap]
def CopyPost (f : PFunc) (w : World) (e : Ending) (w' : World) : Prop := ∃ pb pcap cb ccap, e = .returned (copyV f pb pcap cb ccap) ∧ Below w.heap.size w w' ∧ w.heap.size ≤ pb ∧ w.heap.size ≤ cb ∧ pb ≠ cb ∧
  w'.ownsRow 0 74 2 (.slice (some ⟨pb, 0, none⟩) f.params.length pcap) f.params.length (f.params.flatMap spanC) ∧ w'.ownsRow 0 47 5 (.slice (some ⟨cb, 0, none⟩) f.code.length ccap) f.code.length (f.code.flatMap insC)

/-- the end of CopyFunc -/
theorem copy_end (Q : Ending → World → Prop) (T : Array Value) (W : World) (k : Nat) (a b c d e : Value) (ho : Own W k [a, b, c, d, e]) (hT : T[2]? = some (.pointer (some ⟨k, 0, none⟩)))
    (hq : Q (.returned (.agg #[a, b, c, d, e])) W) : bodyPost Tryd.prog Tryd.f25 Q .ret { tmps := T, defers := [] } W := by
  obtain ⟨_, r0, r1, r2, r3, r4, _⟩ := own5 ho
  have hr : (results Tryd.f25 T).run Tryd.prog W = .ok (.agg #[a, b, c, d, e]) W := by
    simp [results, Tryd.results25, go_sem, hT, r0, r1, r2, r3, r4]
  exact bodyPost_ret hr rfl hq

set_option maxRecDepth 100000 in
set_option maxHeartbeats 1500000 in
theorem copyFunc_any (B : Nat) (f : PFunc) (h : HF) (w : World) (hB : B ≤ w.heap.size) (ok : FuncOk B w h f) (l1 : f.params.length ≤ 1048576) (l2 : f.code.length ≤ 1048576) :
    Calls Tryd.prog 25 #[FuncVal h f] w (CopyPost f w) := by
  obtain ⟨i0, hi, hz0, hz1, hz2⟩ := info_parts Tryd.info74
  obtain ⟨j0, gi, gz0, gz1, gz2⟩ := info_parts Tryd.info47
  obtain ⟨hnm, hs, hc, _, _⟩ := ok
  have hsl := hs.1
  have hcl := hc.1
  obtain ⟨pa, pl, pc, ca, cl, cc⟩ := h
  dsimp only at *
  subst hsl hcl
  have HS := Lib.hid hs; clear hs
  have HC := Lib.hid hc; clear hc
  have hml : f.params.length ≤ maxLen := by unfold maxLen; omega
  have hml2 : f.code.length ≤ maxLen := by unfold maxLen; omega
  unfold FuncVal
  dsimp only
  go_enter Tryd.func25, Tryd.ntmps25
  go_wp2_with (at_builtin; refine wpList_append_copy _ rfl (.tmp 3) (.tmp 5) 49 rfl 74 i0 _ 2 16 Tryd.underlying49 hi hz0 hz1 hz2 rfl (by decide) (w.heap.size + 1 + 1) rfl ?own pa f.params.length pc (f.params.flatMap spanC) rfl ?c1 ?c2 ?c3 ?c4 ?c5 ?_)
  case own => exact ownsRow_none (by simp)
  case c1 => exact flat_len spanC 2 (fun _ => rfl) _
  case c2 => exact HS.out.src (by repeat (first | with_reducible exact Same.refl _ _ | with_reducible assumption | with_reducible refine Same.drew ?_ | with_reducible refine Same.drewN ?_ _ | with_reducible refine Same.alloc ?_ (by first | omega | (simp <;> omega) | (simp at * <;> omega)) _ | with_reducible refine Same.setCell ?_ (by first | omega | (simp <;> omega) | (simp at * <;> omega)) _ | (with_reducible refine Same.trans ?_ (Same.of (by assumption) (by first | omega | (simp <;> omega) | (simp at * <;> omega))))))
  case c3 => intro u hu; obtain ⟨p, _, hp⟩ := List.mem_flatMap.1 hu; simp [spanC] at hp; rcases hp with rfl | rfl <;> rfl
  case c4 => exact hml
  case c5 => omega
  intro pb pcap w1 own1 hb1 hpb
  have hpb2 : w.heap.size + 2 ≤ pb := by rcases hpb with h | h <;> first | omega | (simp at h; omega)
  have hz1 : w.heap.size + 1 + 1 < w1.heap.size := by have := hb1.size; simp at this; omega
  have hbw1 : Below w.heap.size w w1 := (by repeat (first | with_reducible exact Below.refl _ _ | with_reducible assumption | with_reducible refine Below.drew ?_ | with_reducible refine Below.drewN ?_ _ | with_reducible refine Below.alloc ?_ (by first | omega | (simp <;> omega) | (simp at * <;> omega)) _ | with_reducible refine Below.setCell ?_ (by first | omega | (simp <;> omega) | (simp at * <;> omega)) _ | (with_reducible refine Below.trans ?_ (Below.mono (by first | with_reducible assumption | exact hF _) (by first | omega | (simp <;> omega) | (simp at * <;> omega))))))
  have hpl1 : pb < w1.heap.size := (own1.lt pb rfl).2
  have ob1 := ((((Own.new w [.string f.name, .slice pa f.params.length pc, .int .i64 f.regs, .int .i64 f.words, .slice ca f.code.length cc] 51).alloc (.cells #[.string ⟨#[]⟩, .slice none 0 0, .int .i64 0, .int .i64 0, .slice none 0 0] 51)).alloc (.cells #[] 74)).of_below hb1 (by omega))
  have or1 := (((Own.new' (w.alloc (.cells #[.string f.name, .slice pa f.params.length pc, .int .i64 f.regs, .int .i64 f.words, .slice ca f.code.length cc] 51)) [.string ⟨#[]⟩, .slice none 0 0, .int .i64 0, .int .i64 0, .slice none 0 0] 51 (w.heap.size + 1) (by simp)).alloc (.cells #[] 74)).of_below hb1 (by omega))
  have q1 := own5 ob1
  have hq1 : w.heap.size < w1.heap.size := by omega
  have OB1 := Lib.hid ob1; clear ob1
  have OR1 := Lib.hid or1; clear or1
  have P1 := Lib.hid own1; clear own1
  go_wp2_with (at_builtin; refine wpList_append_copy _ rfl (.tmp 8) (.tmp 10) 48 rfl 47 j0 _ 5 40 Tryd.underlying48 gi gz0 gz1 gz2 rfl (by decide) w1.heap.size rfl ?own ca f.code.length cc (f.code.flatMap insC) rfl ?c1 ?c2 ?c3 ?c4 ?c5 ?_)
  case own => exact ownsRow_none (by simp)
  case c1 => exact flat_len insC 5 (fun _ => rfl) _
  case c2 => exact HC.out.src (by repeat (first | with_reducible exact Same.refl _ _ | with_reducible assumption | with_reducible refine Same.drew ?_ | with_reducible refine Same.drewN ?_ _ | with_reducible refine Same.alloc ?_ (by first | omega | (simp <;> omega) | (simp at * <;> omega)) _ | with_reducible refine Same.setCell ?_ (by first | omega | (simp <;> omega) | (simp at * <;> omega)) _ | (with_reducible refine Same.trans ?_ (Same.of (by assumption) (by first | omega | (simp <;> omega) | (simp at * <;> omega))))))
  case c3 => intro u hu; obtain ⟨p, _, hp⟩ := List.mem_flatMap.1 hu; simp [insC] at hp; rcases hp with rfl | rfl | rfl | rfl | rfl <;> rfl
  case c4 => exact hml2
  case c5 => omega
  intro cb ccap w2 own2' hb2 hcb
  have hcl2 : cb < w2.heap.size := (own2'.lt cb rfl).2
  have hcb2 : w1.heap.size ≤ cb := by rcases hcb with h | h <;> first | omega | (simp at h; omega)
  have hz2 : w1.heap.size < w2.heap.size := by have := hb2.size; simp at this; omega
  have P2 := Lib.hid (show w2.ownsRow 0 74 2 (.slice (some ⟨pb, 0, none⟩) f.params.length pcap) f.params.length (f.params.flatMap spanC) from
    ownsRow_chg (S := fun k => k = w.heap.size) (show Chg (fun k => k = w.heap.size) w1 w2 from
      (((Chg.refl (fun k => k = w.heap.size) w1).setCell (p := ⟨w.heap.size, 1, none⟩) (.inl rfl) (.slice (some ⟨pb, 0, none⟩) f.params.length pcap)).alloc (.cells #[] 47)).trans (Chg.of (by simpa using hb2))) P1.out (by omega))
  have C2 := Lib.hid own2'; clear own2'
  have ob2 := ((OB1.out.set 1 (.slice (some ⟨pb, 0, none⟩) f.params.length pcap) (by simp)).alloc (.cells #[] 47)).of_below hb2 (by omega)
  have or2 := ((OR1.out.setOther (p := ⟨w.heap.size, 1, none⟩) (.slice (some ⟨pb, 0, none⟩) f.params.length pcap) (by simp)).alloc (.cells #[] 47)).of_below hb2 (by omega)
  have q2 := own5 ob2
  have qr2 := own5 or2
  have s2 := set5 or2
  have OB2 := Lib.hid ob2; clear ob2
  have OR2 := Lib.hid or2; clear or2
  go_wp2
  refine copy_end _ _ _ (w.heap.size + 1) _ _ _ _ _ (own5_set (OR2.out.setOther (p := ⟨w.heap.size, 4, none⟩) _ (by simp)) _ _ _ _ _) rfl ?_
  generalize hW : World.setCell _ _ _ = W
  have kc : Chg (fun k => k = w.heap.size ∨ k = w.heap.size + 1) w2 W := by rw [← hW]; exact (by repeat (first | with_reducible exact Chg.refl _ _ | with_reducible assumption | with_reducible refine Chg.drew ?_ | with_reducible refine Chg.drewN ?_ _ | with_reducible refine Chg.alloc ?_ _ | with_reducible refine Chg.setCell ?_ (by first | with_reducible exact .inl rfl | exact .inl (.inl rfl) | exact .inl (.inr rfl) | exact .inr (by simp)) _ | (with_reducible refine Chg.trans ?_ (Chg.of (by first | with_reducible assumption | exact hF _)))))
  have hbw2 : Below w.heap.size w w2 := (by repeat (first | with_reducible exact Below.refl _ _ | with_reducible assumption | with_reducible refine Below.drew ?_ | with_reducible refine Below.drewN ?_ _ | with_reducible refine Below.alloc ?_ (by first | omega | (simp <;> omega) | (simp at * <;> omega)) _ | with_reducible refine Below.setCell ?_ (by first | omega | (simp <;> omega) | (simp at * <;> omega)) _ | (with_reducible refine Below.trans ?_ (Below.mono (by first | with_reducible assumption | exact hF _) (by first | omega | (simp <;> omega) | (simp at * <;> omega))))))
  refine ⟨pb, pcap, cb, ccap, rfl, hbw2.trans (kc.below w.heap.size (by omega) (fun k hk e => by omega)), by omega, by omega, by omega, ownsRow_chg kc P2.out (by omega), ownsRow_chg kc C2.out (by omega)⟩
end Go.Proofs.YtgpdggjpbmgegaaDoor
