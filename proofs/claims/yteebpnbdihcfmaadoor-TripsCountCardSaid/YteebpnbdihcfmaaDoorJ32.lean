/- trips: what stays as it is while Of goes through the loops. trips: what loops.Find tells lies in the function. trips: what the round of Of's loop holds, and the call of a function value in a region that draws. trips: a loop whose rounds range over a function leaves a mark a round: frames of 130 slots, and how they are left. trips.Of of a module with which nothing is wrong, walked. TripsCount: the law walked: counting, same, fixed, and the law itself. -/
import Derived.Test.YteebpnbdihcfmaaDoorJ28
import Derived.Test.YteebpnbdihcfmaaDoorJ29
import Derived.Test.YteebpnbdihcfmaaDoorJ31
import Derived.Test.YteebpnbdihcfmaaDoorJ06
import Derived.Deep.LoopGhost
import Derived.Laws.EntriesVeiled
set_option linter.unusedVariables false
set_option linter.unusedSimpArgs false
set_option maxRecDepth 100000
set_option maxHeartbeats 20000000
namespace Go.Proofs.YteebpnbdihcfmaaDoor
open Go.RowKit
section
theorem LoopsAt.keep {W W' : World} {v : Value} {L : List LTri} {S : Nat → Prop} (h : LoopsAt W v L) (hc : Chg S W W') (q : Nat) (hq : W.heap.size ≤ q ∨ ∀ x, S x → q ≤ x) (hS : ∀ x, S x → q ≤ x) (hv : ∀ k, v.ownBlock = some k → k < q) (hl : ∀ t ∈ L, (∀ k, t.2.1.ownBlock = some k → k < q) ∧ ∀ k, t.2.2.ownBlock = some k → k < q) : LoopsAt W' v L :=
 ⟨row_chg hc h.row (fun k hk e => by have := hv k hk; have := hS k e; omega), fun t ht => ⟨row_chg hc (h.each t ht).1 (fun k hk e => by have := (hl t ht).1 k hk; have := hS k e; omega), row_chg hc (h.each t ht).2 (fun k hk e => by have := (hl t ht).2 k hk; have := hS k e; omega)⟩, h.dis⟩
/-- what stays: q is behind all of it -/
structure TI (N : Nat) (A : BAd) (n rg mb ib ab fx : Nat) (mv fv av : List Value) (fn : Nat) (v : Value) (L : List LTri) (s : PBS) (w0 : World) (q : Nat) (W : World) : Prop where
 cm : Own W mb mv
 ci : Own W ib [.int .i64 fn]
 ca : Own W ab av
 cf : Own W fx fv
 l : LoopsAt W v L
 b : BAt N W A n rg s
 be : Below w0.heap.size w0 W
 lq : mb < q ∧ ib < q ∧ ab < q ∧ fx < q ∧ w0.heap.size ≤ q ∧ q ≤ W.heap.size
 lv : ∀ k, v.ownBlock = some k → k < q
 ll : ∀ t ∈ L, (∀ k, t.2.1.ownBlock = some k → k < q) ∧ ∀ k, t.2.2.ownBlock = some k → k < q
 lt : ∀ x, q ≤ x → A.tg x = 0
section
variable {N : Nat} {A : BAd} {n rg mb ib ab fx : Nat} {mv fv av : List Value} {fn : Nat} {v : Value} {L : List LTri} {s : PBS} {w0 : World} {q : Nat} {W W' : World} {S : Nat → Prop}
theorem TI.keep (h : TI N A n rg mb ib ab fx mv fv av fn v L s w0 q W) (hc : Chg S W W') (hS : ∀ x, S x → q ≤ x) : TI N A n rg mb ib ab fx mv fv av fn v L s w0 q W' := by
 obtain ⟨l1, l2, l3, l4, l5, l6⟩ := h.lq;have no : ∀ x, x < q → ¬ S x := fun x hx e => by have := hS x e; omega
 exact ⟨hc.own h.cm (no _ l1), hc.own h.ci (no _ l2), hc.own h.ca (no _ l3), hc.own h.cf (no _ l4), h.l.keep hc q (.inr hS) hS h.lv h.ll, h.b.keep hc (fun x e => h.lt x (hS x e)), h.be.trans (hc.below _ h.be.size (fun k hk e => by have := hS k e; omega)), ⟨l1, l2, l3, l4, l5, Nat.le_trans l6 hc.size⟩, h.lv, h.ll, h.lt⟩
theorem TI.below (h : TI N A n rg mb ib ab fx mv fv av fn v L s w0 q W) (hb : Below W.heap.size W W') : TI N A n rg mb ib ab fx mv fv av fn v L s w0 q W' := h.keep (S := fun _ => False) (Chg.of hb) (fun _ e => e.elim)
theorem TI.turn {b : Nat} (h : TI N A n rg mb ib ab fx mv fv av fn v L s w0 q W) (c : Turn b W W') (hb : q ≤ b) (hk : A.k < b) : TI N A n rg mb ib ab fx mv fv av fn v L s w0 q W' := by
 obtain ⟨l1, l2, l3, l4, l5, l6⟩ := h.lq;exact ⟨h.cm.turn c (by omega), h.ci.turn c (by omega), h.ca.turn c (by omega), h.cf.turn c (by omega), ⟨row_turn c h.l.row, fun t ht => ⟨row_turn c (h.l.each t ht).1, row_turn c (h.l.each t ht).2⟩, h.l.dis⟩, h.b.turn c hk, h.be.trans (c.below.mono (by omega)), ⟨l1, l2, l3, l4, l5, by rw [c.size]; exact l6⟩, h.lv, h.ll, h.lt⟩
end
end
theorem heads_len (f : PFunc) : (headsP (GL f) f.code.length).length ≤ f.code.length := by
 unfold headsP pickN; rw [List.length_map]; exact Nat.le_trans (List.length_filter_le _ _) (by simp)
theorem parP_mem {ls : List PLoop} {x : PLoop} (hx : x ∈ parP ls) : ∃ y ∈ ls, x.head = y.head ∧ x.members = y.members ∧ x.backs = y.backs := by
 unfold parP at hx;obtain ⟨i, hi, rfl⟩ := List.mem_map.1 hx;have hi := List.mem_range.1 hi;have hm : ls.getD i default ∈ ls := by rw [List.getD_eq_getElem?_getD, List.getElem?_eq_getElem hi]; exact List.getElem_mem hi
 exact ⟨_, hm, rfl, rfl, rfl⟩
theorem find_case (f : PFunc) : (findP f).1 = [] ∨ (findP f).1 = parP (loopsL f) := by
 unfold findP;split
 ·exact .inl rfl
 ·split
  ·exact .inl rfl
  ·split
   ·exact .inl rfl
   ·exact .inr rfl
theorem find_len (f : PFunc) : (findP f).1.length ≤ f.code.length := by
 rcases find_case f with h | h
 ·rw [h]; exact Nat.zero_le _
 ·rw [h];have h1 := heads_len f;unfold parP loopsL;simpa using h1
theorem find_mem {f : PFunc} (hn : f.code.length ≤ 1024) {l : PLoop} (hl : l ∈ (findP f).1) : l.head < f.code.length ∧ ∀ x ∈ l.members, In64 x := by
 rcases find_case f with h | h
 ·rw [h] at hl; simp at hl
 ·rw [h] at hl;obtain ⟨y, hy, h1, h2, _⟩ := parP_mem hl;unfold loopsL at hy;obtain ⟨z, hz, rfl⟩ := List.mem_map.1 hy;obtain ⟨i, hi⟩ := List.getElem?_of_mem hz;obtain ⟨k, rfl, hk⟩ := heads_at hi;rw [h1, h2, Int.toNat_natCast];exact ⟨hk, fun x hx => ((loopP_64 f hn k).1 x hx).1⟩
section
theorem step_callV {P : Program} {ops : Array Oper} {o : Oper} {a : Act} {w : World} {K : Act → World → Prop} {Q : Exit → Act → World → Prop} {E : Prop} (hg : o.guard = none) (f : FuncId) (k : Nat) (cap : Array Value) (hk : a.eval (.tmp k) = .func (.func f) #[] cap) (ops2 : List Operand) (ts : Array TypeId) (ho : o.op = .call { callee := .value (.tmp k), args := ops2.toArray, argTypes := ts })
 (hcf : ∀ args w, (callFunc f args).run P w = .ok (.enter f args) w) (vs : List Value) (hv : ops2.map a.eval = vs) (R : Value → World → Prop) (hc : Calls P f (vs.toArray ++ cap) w fun e w' => ∃ v, e = .returned v ∧ R v w') (h : ∀ v w', R v w' → K (a.put o.dst v) w') : if Region.wanted o (yielded ops a.tmps) = true then o.wp P a w K Q else E := by
 have hw : Region.wanted o (yielded ops a.tmps) = true := by simp [Region.wanted, hg]
 rw [if_pos hw];subst hv;have hr : (execOp a.eval o).run P w = .ok (.enter f ((ops2.map a.eval).toArray ++ cap)) w := by
  simp [execOp, ho, resolve, invoke, Deferred.ofValue, hk, hcf]
 unfold Oper.wp;rw [hr, Oper.upon_enter];refine hc.mono ?_;rintro e w' ⟨v, rfl, hR⟩;exact h v w' hR
/-- the loop, its head, what comes, the closure: five blocks of the round -/
structure TB (z0 z1 z2 z3 z4 : Nat) (lv cv fcv : List Value) (lh : PSpan × PSpan) (W : World) : Prop where
 l : Own W z0 lv
 c : Own W z1 cv
 lo : Own W z2 (spV2 lh.1)
 hi : Own W z3 (spV2 lh.2)
 f : Own W z4 fcv
section
variable {z0 z1 z2 z3 z4 : Nat} {lv cv fcv : List Value} {lh lh' : PSpan × PSpan} {W W' : World} {S : Nat → Prop}
theorem TB.below (h : TB z0 z1 z2 z3 z4 lv cv fcv lh W) (hb : Below W.heap.size W W') : TB z0 z1 z2 z3 z4 lv cv fcv lh W' := ⟨h.l.below hb, h.c.below hb, h.lo.below hb, h.hi.below hb, h.f.below hb⟩
theorem TB.turn {b : Nat} (h : TB z0 z1 z2 z3 z4 lv cv fcv lh W) (c : Turn b W W') (h0 : z0 < b) (h1 : z1 < b) (h2 : z2 < b) (h3 : z3 < b) (h4 : z4 < b) : TB z0 z1 z2 z3 z4 lv cv fcv lh W' := ⟨h.l.turn c h0, h.c.turn c h1, h.lo.turn c h2, h.hi.turn c h3, h.f.turn c h4⟩
/-- what came is joined -/
theorem TB.come (h : TB z0 z1 z2 z3 z4 lv cv fcv lh W) (hc : Chg (fun k => k = z2 ∨ k = z3) W W') (hl : Own W' z2 (spV2 lh'.1)) (hh : Own W' z3 (spV2 lh'.2)) (h02 : z0 < z2) (h12 : z1 < z2) (h23 : z2 < z3) (h34 : z3 < z4) : TB z0 z1 z2 z3 z4 lv cv fcv lh' W' :=
 ⟨hc.own h.l (by omega), hc.own h.c (by omega), hl, hh, hc.own h.f (by omega)⟩
end
theorem tb_start (w : World) (l0 l1 l2 l3 c0 c1 c2 c3 c4 fv : Value) (t0 t1 t2 t4 : TypeId) : TB w.heap.size (w.heap.size + 1) (w.heap.size + 1 + 1) (w.heap.size + 1 + 1 + 1) (w.heap.size + 1 + 1 + 1 + 1) [l0, l1, l2, l3] [c0, c1, c2, c3, c4] [fv] (noSp, noSp)
 (((((w.alloc (.cells #[l0, l1, l2, l3] t0)).alloc (.cells #[c0, c1, c2, c3, c4] t1)).alloc (.cells #[.int .i64 1, .int .i64 0] t2)).alloc (.cells #[.int .i64 1, .int .i64 0] t2)).alloc (.cells #[fv] t4)) :=
 ⟨((((Own.new w [l0, l1, l2, l3] t0).alloc _).alloc _).alloc _).alloc _, (((Own.new' _ [c0, c1, c2, c3, c4] t1 _ (by simp)).alloc _).alloc _).alloc _, ((Own.new' _ [.int .i64 1, .int .i64 0] t2 _ (by simp)).alloc _).alloc _, (Own.new' _ [.int .i64 1, .int .i64 0] t2 _ (by simp)).alloc _, Own.new' _ [fv] t4 _ (by simp)⟩
end
section
theorem list_cons {n : Nat} {L : List Value} (h : L.length = n + 1) : ∃ x L', L = x :: L' ∧ L'.length = n := by
 cases L with
 | nil => simp at h
 | cons x L => exact ⟨x, L, rfl, by simpa using h⟩
def marksOf (rs : List Nat) : List Deferred := rs.map fun r => { target := .collected r, args := #[] }
def MarksAt (b : Nat) (rs : List Nat) (W : World) : Prop := rs.Nodup ∧ ∀ r ∈ rs, b ≤ r ∧ W.heap[r]? = some (.deferred (some []))
theorem MarksAt.chg {b : Nat} {rs : List Nat} {W W' : World} {S : Nat → Prop} (h : MarksAt b rs W) (hc : Chg S W W') (hS : ∀ r o, S r → W.heap[r]? = some o → o.isCells = true) : MarksAt b rs W' :=
 ⟨h.1, fun r hr => ⟨(h.2 r hr).1, by
  have h2 := (h.2 r hr).2;rw [hc.block r (Array.getElem?_eq_some_iff.1 h2).1 (fun e => by have := hS r _ e h2; cases this)];exact h2⟩⟩
theorem MarksAt.below {b : Nat} {rs : List Nat} {W W' : World} (h : MarksAt b rs W) (hb : Below W.heap.size W W') : MarksAt b rs W' := h.chg (S := fun _ => False) (Chg.of hb) (fun _ _ e => e.elim)
theorem MarksAt.turn {b b2 : Nat} {rs : List Nat} {W W' : World} (h : MarksAt b rs W) (c : Turn b2 W W') (hlt : ∀ r ∈ rs, r < b2) : MarksAt b rs W' :=
 ⟨h.1, fun r hr => ⟨(h.2 r hr).1, by rw [c.block r (.inl (hlt r hr))]; exact (h.2 r hr).2⟩⟩
theorem MarksAt.cons {b r : Nat} {rs : List Nat} {W : World} (h : MarksAt b rs W) (hlt : ∀ x ∈ rs, x < r) (hb : b ≤ r) (hr : W.heap[r]? = some (.deferred (some []))) : MarksAt b (r :: rs) W :=
 ⟨List.nodup_cons.2 ⟨fun e => by have := hlt r e; omega, h.1⟩, fun x hx => by
  rcases List.mem_cons.1 hx with e | e
  ·subst e; exact ⟨hb, hr⟩
  ·exact h.2 x e⟩
theorem MarksAt.lt {b : Nat} {rs : List Nat} {W : World} (h : MarksAt b rs W) : ∀ r ∈ rs, r < W.heap.size := fun r hr => (Array.getElem?_eq_some_iff.1 (h.2 r hr).2).1
theorem turn_trans {b : Nat} {W W1 W2 : World} (h : Turn b W W1) (k : Turn b W1 W2) : Turn b W W2 :=
 ⟨k.os.trans h.os, k.tape.trans h.tape, k.output.trans h.output, k.size.trans h.size, fun x hx => (k.block x (hx.imp id (fun hx o ho => hx o (by rw [← h.block x (.inr hx)]; exact ho)))).trans (h.block x hx)⟩
theorem turn_refl (b : Nat) (W : World) : Turn b W W := ⟨rfl, rfl, rfl, rfl, fun _ _ => rfl⟩
/-- what is left once the marks have been taken -/
theorem leaves_marks {F : Fence} {n b : Nat} {P : Program} {fn : Func} {tmps : Array Value} {R : Ending → World → Prop} : ∀ (rs : List Nat) (W : World), MarksAt b rs W → (∀ W', Turn b W W' → LeavesIn F n P fn tmps R [] .returning W') → LeavesInM F n P fn tmps R (marksOf rs) .returning W := by
 intro rs
 induction rs with
 | nil => exact fun W _ h => h W (turn_refl b W)
 | cons r rs ih =>
  intro W hm h;have hr := (hm.2 r (List.mem_cons_self ..))
  have ht := Turn.put (b := b) W r _ (.deferred none) hr.1 hr.2 rfl;have hnd := List.nodup_cons.1 hm.1;refine ⟨by simp, .inl ⟨_, _, rfl, run_takeDeferred hr.2, ih _ ⟨hnd.2, fun x hx => ⟨(hm.2 x (List.mem_cons_of_mem _ hx)).1, ?_⟩⟩ (fun W' hW => h W' (turn_trans ht hW))⟩⟩;rw [World.putObj_heap_other (fun e => hnd.1 (by first | exact e ▸ hx | exact e.symm ▸ hx))];exact (hm.2 x (List.mem_cons_of_mem _ hx)).2
theorem frameEta (t : Array Value) (h : t.size = 130) : t = #[t.getD 0 undef, t.getD 1 undef, t.getD 2 undef, t.getD 3 undef, t.getD 4 undef, t.getD 5 undef, t.getD 6 undef, t.getD 7 undef, t.getD 8 undef, t.getD 9 undef, t.getD 10 undef, t.getD 11 undef, t.getD 12 undef, t.getD 13 undef, t.getD 14 undef, t.getD 15 undef, t.getD 16 undef, t.getD 17 undef, t.getD 18 undef, t.getD 19 undef, t.getD 20 undef, t.getD 21 undef, t.getD 22 undef, t.getD 23 undef, t.getD 24 undef, t.getD 25 undef, t.getD 26 undef, t.getD 27 undef, t.getD 28 undef, t.getD 29 undef, t.getD 30 undef, t.getD 31 undef, t.getD 32 undef, t.getD 33 undef, t.getD 34 undef, t.getD 35 undef, t.getD 36 undef, t.getD 37 undef, t.getD 38 undef, t.getD 39 undef, t.getD 40 undef, t.getD 41 undef, t.getD 42 undef, t.getD 43 undef, t.getD 44 undef, t.getD 45 undef, t.getD 46 undef, t.getD 47 undef, t.getD 48 undef, t.getD 49 undef, t.getD 50 undef, t.getD 51 undef, t.getD 52 undef, t.getD 53 undef, t.getD 54 undef, t.getD 55 undef, t.getD 56 undef, t.getD 57 undef, t.getD 58 undef, t.getD 59 undef, t.getD 60 undef, t.getD 61 undef, t.getD 62 undef, t.getD 63 undef, t.getD 64 undef, t.getD 65 undef, t.getD 66 undef, t.getD 67 undef, t.getD 68 undef, t.getD 69 undef, t.getD 70 undef, t.getD 71 undef, t.getD 72 undef, t.getD 73 undef, t.getD 74 undef, t.getD 75 undef, t.getD 76 undef, t.getD 77 undef, t.getD 78 undef, t.getD 79 undef, t.getD 80 undef, t.getD 81 undef, t.getD 82 undef, t.getD 83 undef, t.getD 84 undef, t.getD 85 undef, t.getD 86 undef, t.getD 87 undef, t.getD 88 undef, t.getD 89 undef, t.getD 90 undef, t.getD 91 undef, t.getD 92 undef, t.getD 93 undef, t.getD 94 undef, t.getD 95 undef, t.getD 96 undef, t.getD 97 undef, t.getD 98 undef, t.getD 99 undef, t.getD 100 undef, t.getD 101 undef, t.getD 102 undef, t.getD 103 undef, t.getD 104 undef, t.getD 105 undef, t.getD 106 undef, t.getD 107 undef, t.getD 108 undef, t.getD 109 undef, t.getD 110 undef, t.getD 111 undef, t.getD 112 undef, t.getD 113 undef, t.getD 114 undef, t.getD 115 undef, t.getD 116 undef, t.getD 117 undef, t.getD 118 undef, t.getD 119 undef, t.getD 120 undef, t.getD 121 undef, t.getD 122 undef, t.getD 123 undef, t.getD 124 undef, t.getD 125 undef, t.getD 126 undef, t.getD 127 undef, t.getD 128 undef, t.getD 129 undef] := by
 have h1 : t = ((List.range 130).map fun i => t.getD i undef).toArray := by
  apply Array.ext
  ·simp [h]
  ·intro i h1 h2;simp [Array.getD, h1]
 exact h1.trans (by kernel_rfl)
theorem frameInd (Pr : Array Value → Prop) (t : Array Value) (h : t.size = 130) (v2 v3 v6 v8 v11 v46 v47 v48 : Value) (e2 : t.getD 2 undef = v2) (e3 : t.getD 3 undef = v3) (e6 : t.getD 6 undef = v6) (e8 : t.getD 8 undef = v8) (e11 : t.getD 11 undef = v11) (e46 : t.getD 46 undef = v46) (e47 : t.getD 47 undef = v47) (e48 : t.getD 48 undef = v48) (hp : ∀ y0 y1 y4 y5 y7 y9 y10 y12 y13 y14 y15 y16 y17 y18 y19 y20 y21 y22 y23 y24 y25 y26 y27 y28 y29 y30 y31 y32 y33 y34 y35 y36 y37 y38 y39 y40 y41 y42 y43 y44 y45 y49 y50 y51 y52 y53 y54 y55 y56 y57 y58 y59 y60 y61 y62 y63 y64 y65 y66 y67 y68 y69 y70 y71 y72 y73 y74 y75 y76 y77 y78 y79 y80 y81 y82 y83 y84 y85 y86 y87 y88 y89 y90 y91 y92 y93 y94 y95 y96 y97 y98 y99 y100 y101 y102 y103 y104 y105 y106 y107 y108 y109 y110 y111 y112 y113 y114 y115 y116 y117 y118 y119 y120 y121 y122 y123 y124 y125 y126 y127 y128 y129, Pr #[y0, y1, v2, v3, y4, y5, v6, y7, v8, y9, y10, v11, y12, y13, y14, y15, y16, y17, y18, y19, y20, y21, y22, y23, y24, y25, y26, y27, y28, y29, y30, y31, y32, y33, y34, y35, y36, y37, y38, y39, y40, y41, y42, y43, y44, y45, v46, v47, v48, y49, y50, y51, y52, y53, y54, y55, y56, y57, y58, y59, y60, y61, y62, y63, y64, y65, y66, y67, y68, y69, y70, y71, y72, y73, y74, y75, y76, y77, y78, y79, y80, y81, y82, y83, y84, y85, y86, y87, y88, y89, y90, y91, y92, y93, y94, y95, y96, y97, y98, y99, y100, y101, y102, y103, y104, y105, y106, y107, y108, y109, y110, y111, y112, y113, y114, y115, y116, y117, y118, y119, y120, y121, y122, y123, y124, y125, y126, y127, y128, y129]) : Pr t := by
 rw [frameEta t h, e2, e3, e6, e8, e11, e46, e47, e48];exact hp (t.getD 0 undef) (t.getD 1 undef) (t.getD 4 undef) (t.getD 5 undef) (t.getD 7 undef) (t.getD 9 undef) (t.getD 10 undef) (t.getD 12 undef) (t.getD 13 undef) (t.getD 14 undef) (t.getD 15 undef) (t.getD 16 undef) (t.getD 17 undef) (t.getD 18 undef) (t.getD 19 undef) (t.getD 20 undef) (t.getD 21 undef) (t.getD 22 undef) (t.getD 23 undef) (t.getD 24 undef) (t.getD 25 undef) (t.getD 26 undef) (t.getD 27 undef) (t.getD 28 undef) (t.getD 29 undef) (t.getD 30 undef) (t.getD 31 undef) (t.getD 32 undef) (t.getD 33 undef) (t.getD 34 undef) (t.getD 35 undef) (t.getD 36 undef) (t.getD 37 undef) (t.getD 38 undef) (t.getD 39 undef) (t.getD 40 undef) (t.getD 41 undef) (t.getD 42 undef) (t.getD 43 undef) (t.getD 44 undef) (t.getD 45 undef) (t.getD 49 undef) (t.getD 50 undef) (t.getD 51 undef) (t.getD 52 undef) (t.getD 53 undef) (t.getD 54 undef) (t.getD 55 undef) (t.getD 56 undef) (t.getD 57 undef) (t.getD 58 undef) (t.getD 59 undef) (t.getD 60 undef) (t.getD 61 undef) (t.getD 62 undef) (t.getD 63 undef) (t.getD 64 undef) (t.getD 65 undef) (t.getD 66 undef) (t.getD 67 undef) (t.getD 68 undef) (t.getD 69 undef) (t.getD 70 undef) (t.getD 71 undef) (t.getD 72 undef) (t.getD 73 undef) (t.getD 74 undef) (t.getD 75 undef) (t.getD 76 undef) (t.getD 77 undef) (t.getD 78 undef) (t.getD 79 undef) (t.getD 80 undef) (t.getD 81 undef) (t.getD 82 undef) (t.getD 83 undef) (t.getD 84 undef) (t.getD 85 undef) (t.getD 86 undef) (t.getD 87 undef) (t.getD 88 undef) (t.getD 89 undef) (t.getD 90 undef) (t.getD 91 undef) (t.getD 92 undef) (t.getD 93 undef) (t.getD 94 undef) (t.getD 95 undef) (t.getD 96 undef) (t.getD 97 undef) (t.getD 98 undef) (t.getD 99 undef) (t.getD 100 undef) (t.getD 101 undef) (t.getD 102 undef) (t.getD 103 undef) (t.getD 104 undef) (t.getD 105 undef) (t.getD 106 undef) (t.getD 107 undef) (t.getD 108 undef) (t.getD 109 undef) (t.getD 110 undef) (t.getD 111 undef) (t.getD 112 undef) (t.getD 113 undef) (t.getD 114 undef) (t.getD 115 undef) (t.getD 116 undef) (t.getD 117 undef) (t.getD 118 undef) (t.getD 119 undef) (t.getD 120 undef) (t.getD 121 undef) (t.getD 122 undef) (t.getD 123 undef) (t.getD 124 undef) (t.getD 125 undef) (t.getD 126 undef) (t.getD 127 undef) (t.getD 128 undef) (t.getD 129 undef)
theorem MarksAt.keep {b : Nat} {rs : List Nat} {W W' : World} {S : Nat → Prop} (h : MarksAt b rs W) (hc : Chg S W W') (hS : ∀ r ∈ rs, ¬ S r) : MarksAt b rs W' :=
 ⟨h.1, fun r hr => ⟨(h.2 r hr).1, by rw [hc.block r (Array.getElem?_eq_some_iff.1 (h.2 r hr).2).1 (hS r hr)]; exact (h.2 r hr).2⟩⟩
theorem row_cells {w : World} {e size n : Nat} {v : Value} {xs : List Value} (h : w.ownsRow 0 e size v n xs) : ∀ r o, v.ownBlock = some r → w.heap[r]? = some o → o.isCells = true := by
 obtain ⟨-, h2⟩ := h;intro r o hr ho;rcases h2 with ⟨rfl, _⟩ | ⟨g, cap, cur, rfl, _, hh, _⟩
 ·simp [Value.ownBlock] at hr
 ·obtain rfl : g = r := (by simpa [Value.ownBlock] using hr)
  rw [hh] at ho;cases ho;rfl
def wayLH (c : PIns) (lh : PSpan × PSpan) : Option (List PSpan) → PSpan × PSpan
 | some out => comeP c lh out
 | none => lh
theorem tripE_way (m : PMod) (f : PFunc) (inn : List (List PSpan)) (l : PLoop) (lh : PSpan × PSpan) (u : Nat) (h : ¬ (l.members.contains (u : Int) = true ∨ inn.getD u [] = [])) : tripE m f inn l lh (u, (l.head : Int)) = wayLH (f.code.getD l.head default) lh (wayP m f u (l.head : Int) (inn.getD u [])) := by
 unfold tripE wayLH;rw [if_neg (by
  rintro (h1 | h1)
  ·exact h1 rfl
  ·exact h h1)]
 rfl
/-- what stands while a round goes through the edges -/
structure TR (N : Nat) (A : BAd) (n rg mb ib ab fx : Nat) (mv fv av : List Value) (fn : Nat) (v : Value) (L : List LTri) (s : PBS) (w0 : World) (q z0 z1 z2 z3 z4 : Nat) (lv cv fcv : List Value) (u : Value) (j : Nat) (us : List Value) (rs : List Nat) (lh : PSpan × PSpan) (W : World) : Prop where
 ti : TI N A n rg mb ib ab fx mv fv av fn v L s w0 q W
 tb : TB z0 z1 z2 z3 z4 lv cv fcv lh W
 ro : W.ownsRow 0 32 1 u j us
 ma : MarksAt q rs W
section
variable {N : Nat} {A : BAd} {n rg mb ib ab fx : Nat} {mv fv av : List Value} {fn : Nat} {v : Value} {L : List LTri} {s : PBS} {w0 : World} {q z0 z1 z2 z3 z4 : Nat} {lv cv fcv : List Value} {u : Value} {j : Nat} {us : List Value} {rs : List Nat} {lh lh' : PSpan × PSpan} {W W' : World}
theorem TR.below (h : TR N A n rg mb ib ab fx mv fv av fn v L s w0 q z0 z1 z2 z3 z4 lv cv fcv u j us rs lh W) (hb : Below W.heap.size W W') : TR N A n rg mb ib ab fx mv fv av fn v L s w0 q z0 z1 z2 z3 z4 lv cv fcv u j us rs lh W' := ⟨h.ti.below hb, h.tb.below hb, row_below hb h.ro, h.ma.below hb⟩
theorem TR.turn {b : Nat} (h : TR N A n rg mb ib ab fx mv fv av fn v L s w0 q z0 z1 z2 z3 z4 lv cv fcv u j us rs lh W) (c : Turn b W W') (hb : q ≤ b) (hk : A.k < b) (h4 : z4 < b) (h3 : z3 < z4) (h2 : z2 < z3) (h1 : z1 < z2) (h0 : z0 < z1) (hr : ∀ r ∈ rs, r < b) : TR N A n rg mb ib ab fx mv fv av fn v L s w0 q z0 z1 z2 z3 z4 lv cv fcv u j us rs lh W' :=
 ⟨h.ti.turn c hb hk, h.tb.turn c (by omega) (by omega) (by omega) (by omega) (by omega), row_turn c h.ro, h.ma.turn c hr⟩
theorem TR.come (h : TR N A n rg mb ib ab fx mv fv av fn v L s w0 q z0 z1 z2 z3 z4 lv cv fcv u j us rs lh W) (hc : Chg (fun k => k = z2 ∨ k = z3) W W') (hl : Own W' z2 (spV2 lh'.1)) (hh : Own W' z3 (spV2 lh'.2)) (h0 : q ≤ z0) (h01 : z0 < z1) (h12 : z1 < z2) (h23 : z2 < z3) (h34 : z3 < z4) (hu : ∀ k, u.ownBlock = some k → k < z0) (hr : ∀ r ∈ rs, r < z0) : TR N A n rg mb ib ab fx mv fv av fn v L s w0 q z0 z1 z2 z3 z4 lv cv fcv u j us rs lh' W' :=
 ⟨h.ti.keep hc (fun x e => by rcases e with e | e <;> omega), h.tb.come hc hl hh (by omega) h12 h23 h34, row_chg hc h.ro (fun k hk e => by have := hu k hk; rcases e with e | e <;> omega), h.ma.keep hc (fun r hr2 e => by have := hr r hr2; rcases e with e | e <;> omega)⟩
end
end
section
attribute [local go_sem] Oper.semAt_some
def U64s (l : List Int) : List Value := l.map (Value.int .u64)
theorem U64_one (l : List Int) : ∀ v ∈ U64s l, v.oneCell' = true := by
 intro v hv;obtain ⟨x, _, rfl⟩ := List.mem_map.1 hv;rfl
/-- what Of hands back: the rounds of each loop, or what is wrong with the loops -/
def TripPost (m : PMod) (fn : Nat) (w : World) (e : Ending) (w' : World) : Prop := ∃ s v, RunsS m (fnAt m fn) (startS (fnAt m fn)) s ∧ e = .returned (.tuple #[v, .int .i64 (tripsP m (fnAt m fn) s.inn).2]) ∧
 w'.ownsRow 0 32 1 v (tripsP m (fnAt m fn) s.inn).1.length (U64s (tripsP m (fnAt m fn) s.inn).1) ∧ Below w.heap.size w w'
theorem trips_ok (B : Nat) (m : PMod) (fn : Nat) (ta fa : Option Addr) (tl tc fl fc : Nat) (w : World) (hB : B ≤ w.heap.size) (hB0 : 0 < B) (hmo : ModAt B w (.agg #[.slice ta tl tc, .slice fa fl fc]) m) (hr : RowsAt w) (he : (mayP m).e = 0) (hfn : fn < m.funcs.length) :
 Calls Tryd.prog 4 #[.agg #[.slice ta tl tc, .slice fa fl fc], .int .i64 fn] w (TripPost m fn w) := by
 have HM := Lib.hid hmo; have HRW := Lib.hid hr;have HRun := Lib.hid (fun w' hB hmo hr => run_ok B m fn ta fa tl tc fl fc w' hB hB0 hmo hr he hfn);obtain ⟨_, _, _, _, _, _, hv, ⟨htl, htm, -⟩, hfs⟩ := hmo;cases hv;obtain ⟨hfl1, hfl2, fb, fo, hfb, H, hH⟩ := hfs;obtain ⟨rfl, hfbB⟩ := hfb (by omega);obtain ⟨hcells, hfo⟩ := hH fn (by omega);have hfine := fine_of he;have hff1 := hfine.fn fn hfn;have hfe : m.funcs.getD fn default = fnAt m fn := rfl;rw [hfe] at hcells hfo;generalize H fn = hh at *;obtain ⟨f, hf⟩ : ∃ f, fnAt m fn = f := ⟨_, rfl⟩
 unfold TripPost;rw [hf] at hcells hfo hff1 ⊢;obtain ⟨pa, pl, pc, ca, cl, cc⟩ := hh;have hcl : f.code.length = cl := hfo.2.2.1.1;subst hcl;obtain ⟨g0, g1, g2, g3, g4⟩ := hcells;dsimp only at g0 g1 g2 g3 g4;obtain ⟨rg, hrg⟩ : ∃ rg : Nat, f.regs = rg := ⟨f.regs.toNat, by have := hff1.r1; omega⟩
 have hrg0 : 0 < rg := by have := hff1.r1; omega
 have hrg64 : rg ≤ 64 := by have := hff1.r2; omega
 have hn0 : 0 < f.code.length := hff1.c1;have hn1 : f.code.length ≤ 1024 := hff1.c2;have hpl : f.params.length ≤ rg := by have := hff1.np; omega
 rw [hrg] at g2;have hfnl : (fn : Int) < (fl : Int) := by omega
 have HRG := Lib.hid hrg; have HFF := Lib.hid hff1; have HFE := Lib.hid hf; have HFI := Lib.hid hfine; have HE := Lib.hid he;have HFO := Lib.hid hfo;clear hfine hff1 hfe hrg hf hH hfb hfo hr;refine (callsIn_wide (n := 3)).1 ?_;refine callsIn_of_wp_marks Tryd.func4 rfl trivial ?_ rfl;refine wpIn_wide.2 ?_;simp only [Tryd.ntmps4, List.size_toArray, List.length_cons, List.length_nil, Nat.reduceAdd, Nat.reduceSub, Array.replicate_succ, Array.replicate_zero, List.push_toArray, List.append_toArray, List.nil_append, List.cons_append];go_upto_region 1 with (fail)
 generalize hW0 : World.alloc _ _ = W0;have hb0 : Below w.heap.size w W0 := by rw [← hW0]; exact bel
 have OM : Own W0 w.heap.size [.slice ta tl tc, .slice (some ⟨fb, fo, none⟩) fl fc] := by rw [← hW0]; exact (Own.new _ _ _).alloc _
 have OI : Own W0 (w.heap.size + 1) [.int .i64 fn] := by rw [← hW0]; exact Own.new' _ _ _ _ (by simp)
 have hz0 : w.heap.size + 2 = W0.heap.size := by rw [← hW0]; simp
 have hz0' : w.heap.size + 2 ≤ W0.heap.size := by omega
 have m2 := own2 OM;have i1 := own1 OI;have HC := Lib.hid (HRun.out W0 (by omega) (HM.out.same (Same.of hb0 hB)) (HRW.out.same (Same.of hb0 (Nat.le_refl _)) HRW.out.1 hb0.size));clear hW0 HRun hz0;unfold RunOk at HC;rw [HFE.out] at HC;go_upto_region 4 with (first | (go_at_call 7; refine HC.out.mono ?_; rintro e w1 ⟨N, rg', A, s, hrg', hruns, rfl, hbat, hso, hNw, hb1⟩) | fail)
 have hrr : rg' = rg := by have h1 := HRG.out; rw [h1] at hrg'; omega
 subst hrr;generalize hW2 : World.alloc _ _ = W2;have hz1 := hb1.size;have hb12 : Below w1.heap.size w1 W2 := by rw [← hW2]; exact (Below.refl _ _).alloc (Nat.le_refl _) _
 have OA : Own W2 w1.heap.size [.slice (some ⟨A.ib, 0, none⟩) f.code.length A.ic, .slice (some ⟨A.cb, 0, none⟩) f.code.length A.cc] := by rw [← hW2]; exact Own.new _ _ _
 have hz2 : w1.heap.size + 1 ≤ W2.heap.size := by rw [← hW2]; simp
 have hb2 : Below w.heap.size w W2 := (hb0.trans (hb1.mono (by omega))).trans (hb12.mono (by omega));have OM2 := (OM.below hb1).below hb12;have OI2 := (OI.below hb1).below hb12;have HB2 := Lib.hid (hbat.below hb12);have HSO := Lib.hid hso; have HRU := Lib.hid hruns;have m2' := own2 OM2;have i1' := own1 OI2;have sm := Same.of hb2 hB;rw [← sm _ _ (by show fb < B; omega)] at g0 g1 g2 g3 g4;clear hW2 HC m2 i1 OM OI hbat hso hruns hrg' sm;go_upto_region 5 with (fail)
 generalize hW3 : World.alloc _ _ = W3;have hb23 : Below W2.heap.size W2 W3 := by rw [← hW3]; exact (Below.refl _ _).alloc (Nat.le_refl _) _
 have OF : Own W3 W2.heap.size [.string f.name, .slice pa pl pc, .int .i64 rg', .int .i64 f.words, .slice ca f.code.length cc] := by rw [← hW3]; exact Own.new _ _ _
 have hz3 : W2.heap.size + 1 ≤ W3.heap.size := by rw [← hW3]; simp
 have hb3 : Below w.heap.size w W3 := hb2.trans (hb23.mono (by omega));have OM3 := OM2.below hb23;have OI3 := OI2.below hb23;have OA3 := OA.below hb23;have HB3 := Lib.hid (HB2.out.below hb23);have f5 := own5 OF;have hfl := find_loops B ⟨pa, pl, pc, ca, f.code.length, cc⟩ f W3 (by omega) (HFO.out.same (Same.of hb3 hB)) (HRW.out.same (Same.of hb3 (Nat.le_refl _)) HRW.out.1 hb3.size) hn0 hn1;unfold FuncVal FindPost at hfl;dsimp only at hfl;rw [HRG.out] at hfl;have HFL := Lib.hid hfl;clear hW3 hfl g0 g1 g2 g3 g4 OM2 OI2 OA m2' i1' hb12 hb23;obtain ⟨fd, hfd⟩ : ∃ q, findP f = q := ⟨_, rfl⟩
 rw [hfd] at HFL;have HFD := Lib.hid hfd;clear hfd;obtain ⟨ls, fe, fat⟩ := fd;dsimp only at HFL;by_cases hfe0 : fe = 0
 ·subst hfe0;go_upto_region 9 with (first | (go_at_call 8; refine HFL.out.mono ?_; rintro e w4 ⟨v4, L, rfl, hb4, hL, hLm⟩; have f5b := own5 (OF.below hb4); clear f5) | fail)
  have hz4 := hb4.size;have hbw4 : Below w.heap.size w w4 := hb3.trans (hb4.mono (by omega));obtain ⟨la, lc, hlv⟩ := hL.form;have hLm2 : L.map (fun t => t.1) = ls := hLm;have hLl : L.length = ls.length := by rw [← hLm2, List.length_map]
  rw [hLl] at hlv;subst hlv;have HB4 := Lib.hid (HB3.out.below hb4);have HT4 : Hid (TI N A f.code.length rg' w.heap.size (w.heap.size + 1) w1.heap.size W2.heap.size [.slice ta tl tc, .slice (some ⟨fb, fo, none⟩) fl fc] [.string f.name, .slice pa pl pc, .int .i64 rg', .int .i64 f.words, .slice ca f.code.length cc] [.slice (some ⟨A.ib, 0, none⟩) f.code.length A.ic, .slice (some ⟨A.cb, 0, none⟩) f.code.length A.cc] fn (.slice la ls.length lc) L s w w4.heap.size w4) := Lib.hid ⟨OM3.below hb4, OI3.below hb4, OA3.below hb4, OF.below hb4, hL, HB4.out, hbw4, ⟨by omega, by omega, by omega, by omega, by omega, Nat.le_refl _⟩, fun k hk => row_lt hL.row hk, fun t ht => ⟨fun k hk => row_lt (hL.each t ht).1 hk, fun k hk => row_lt (hL.each t ht).2 hk⟩, fun x hx => HB4.out.fr x hx⟩;have htp : tripsP m f s.inn = (ls.map (tripN m f s.inn), 0) := by unfold tripsP; rw [HFD.out]; rfl
  have HTP := Lib.hid htp; have HLM := Lib.hid hLm2;have hlm : (ls.length : Int) ≤ 1048576 := by
   have h := find_len f;rw [HFD.out] at h;dsimp only at h;omega
  have HMem := Lib.hid (fun (l : PLoop) (hl : l ∈ ls) => find_mem hn1 (l := l) (by rw [HFD.out]; exact hl));clear htp hLm2 hLm hL OM3 OI3 OA3 OF f5b HFL HB2 HB3 hb4;go_wp2;have htl : List.replicate 0 (Value.int .u64 0) = [] := rfl;refine wp_loop_ghost_k (fun k a wx => ∃ (j : Nat) (v11 : Value) (rs : List Nat), k = ls.length - j ∧ j ≤ ls.length ∧ a.tmps.size = 130 ∧ a.defers = marksOf rs ∧ a.eval (.tmp 2) = .pointer (some ⟨w.heap.size, 0, none⟩) ∧ a.eval (.tmp 3) = .pointer (some ⟨w.heap.size + 1, 0, none⟩) ∧ a.eval (.tmp 6) = .pointer (some ⟨w1.heap.size, 0, none⟩) ∧ a.eval (.tmp 8) = .pointer (some ⟨W2.heap.size, 0, none⟩) ∧ a.eval (.tmp 11) = v11 ∧ a.eval (.tmp 46) = .slice la ls.length lc ∧ a.eval (.tmp 47) = .int .i64 ls.length ∧ a.eval (.tmp 48) = .int .i64 j ∧ Hid (TI N A f.code.length rg' w.heap.size (w.heap.size + 1) w1.heap.size W2.heap.size [.slice ta tl tc, .slice (some ⟨fb, fo, none⟩) fl fc] [.string f.name, .slice pa pl pc, .int .i64 rg', .int .i64 f.words, .slice ca f.code.length cc] [.slice (some ⟨A.ib, 0, none⟩) f.code.length A.ic, .slice (some ⟨A.cb, 0, none⟩) f.code.length A.cc] fn (.slice la ls.length lc) L s w w4.heap.size wx) ∧ Hid (wx.ownsRow 0 32 1 v11 j (U64s ((ls.take j).map (tripN m f s.inn)))) ∧ (∀ k, v11.ownBlock = some k → w4.heap.size ≤ k) ∧ Hid (MarksAt w4.heap.size rs wx)) ls.length ⟨0, .slice none 0 0, [], rfl, Nat.zero_le _, rfl, rfl, rfl, rfl, rfl, rfl, rfl, rfl, rfl, rfl, HT4, Lib.hid (World.ownsRow_nil _ _ _ _), fun k hk => by simp [Value.ownBlock] at hk, Lib.hid ⟨List.nodup_nil, fun r hr => by simp at hr⟩⟩ ?_
  ·clear HT4 htl;intro gk a0 wr hinv J K hJ hK;obtain ⟨j, u11, rs, hgk, hj, hsz, hdf, e2, e3, e6, e8, e11, e46, e47, e48, HT, HO, hov, HMK⟩ := hinv;obtain ⟨tmps, ds⟩ := a0;dsimp only at hsz hdf;subst hdf;refine frameInd (fun t => Code.wp Tryd.prog _ _ { tmps := t, defers := marksOf rs } wr) tmps hsz _ _ _ _ _ _ _ _ e2 e3 e6 e8 e11 e46 e47 e48 ?_;intro y0 y1 y4 y5 y7 y9 y10 y12 y13 y14 y15 y16 y17 y18 y19 y20 y21 y22 y23 y24 y25 y26 y27 y28 y29 y30 y31 y32 y33 y34 y35 y36 y37 y38 y39 y40 y41 y42 y43 y44 y45 y49 y50 y51 y52 y53 y54 y55 y56 y57 y58 y59 y60 y61 y62 y63 y64 y65 y66 y67 y68 y69 y70 y71 y72 y73 y74 y75 y76 y77 y78 y79 y80 y81 y82 y83 y84 y85 y86 y87 y88 y89 y90 y91 y92 y93 y94 y95 y96 y97 y98 y99 y100 y101 y102 y103 y104 y105 y106 y107 y108 y109 y110 y111 y112 y113 y114 y115 y116 y117 y118 y119 y120 y121 y122 y123 y124 y125 y126 y127 y128 y129;clear e2 e3 e6 e8 e11 e46 e47 e48
   try dsimp only
   have HJ := Lib.hid hJ; have HGK := Lib.hid hgk;clear hsz hJ hgk;by_cases hjt : j < ls.length
   ·have d3 : (j : Int) < (ls.length : Int) := by omega
    have hwj : IntKind.i64.wrap ((j : Int) + 1) = (j : Int) + 1 := IntWalk.i64_in _ (by omega);obtain ⟨g, gc, hgv, hg1, hg2, hgl⟩ := row_pos HT.out.l.row (by omega);rw [hLl] at hgv;cases hgv;have hLg : LoopsAt wr (.slice (some ⟨g, 0, none⟩) L.length lc) L := by rw [hLl]; exact HT.out.l
    obtain ⟨T, hT⟩ : ∃ T, L[j]? = some T := ⟨_, List.getElem?_eq_getElem (by omega)⟩
    have hlj : ls[j]? = some T.1 := by rw [← HLM.out, List.getElem?_map, hT]; rfl
    have hmem := HMem.out T.1 (List.mem_of_getElem? hlj);have h64 : ∀ t ∈ L, ∀ x ∈ t.1.members, In64 x := fun t ht => (HMem.out t.1 (by rw [← HLM.out]; exact List.mem_map.2 ⟨t, ht, rfl⟩)).2;obtain ⟨t0, t1, t2, t3⟩ := hLg.cells hT;have hrm := (hLg.each T (List.mem_of_getElem? hT)).1;obtain ⟨ma, mc, hmv, hnm⟩ := NumsAt.ofRow (B := wr.heap.size) hrm hmem.2 (fun k hk => row_lt hrm hk);have HMW : Hid (∀ W, LoopsAt W (.slice (some ⟨g, 0, none⟩) ls.length lc) L → NumsAt W.heap.size W ma T.1.members.length T.1.members) := Lib.hid (fun W h => by
     have h1 := (h.each T (List.mem_of_getElem? hT)).1;obtain ⟨ma', mc', hmv', hnm'⟩ := NumsAt.ofRow (B := W.heap.size) h1 hmem.2 (fun k hk => row_lt h1 hk);rw [hmv] at hmv';cases hmv';exact hnm')
    rw [hmv] at t2;have hrb := (hLg.each T (List.mem_of_getElem? hT)).2;obtain ⟨ba, bc, hbv⟩ : ∃ ba bc, T.2.2 = .slice ba T.1.backs.length bc := by
     rcases row_form hrb with ⟨h1, h2, _⟩ | ⟨g, c, h1, _⟩
     ·exact ⟨none, 0, by rw [h1, h2]⟩
     ·exact ⟨_, c, h1⟩
    rw [hbv] at t3;have hml : ∀ k, (Value.slice ma T.1.members.length mc).ownBlock = some k → k < w4.heap.size := fun k hk => (HT.out.ll T (List.mem_of_getElem? hT)).1 k (by rw [hmv]; exact hk);have HTK : Hid (ls.take (j + 1) = ls.take j ++ [T.1]) := Lib.hid (by rw [List.take_add_one, hlj]; rfl);have hhd := hmem.1;have hhd2 : (T.1.head : Int) < (f.code.length : Int) := by omega
    clear hLg hlj h64 hrm hmv hnm hmem hrb hbv;generalize T.1 = l at *;have m2 := own2 HT.out.cm;have f5 := own5 HT.out.cf;have cd := (HFO.out.same (Same.of HT.out.be hB)).2.2.1;obtain ⟨-, -, cbb, cbo, hcb, hcc⟩ := cd;obtain ⟨hca, hcbB⟩ := hcb (by omega);dsimp only at hca;subst hca;obtain ⟨⟨x0, x1, x2, x3, x4⟩, -⟩ := hcc l.head hhd;have HIF := Lib.hid (HFI.out.ins fn l.head hfn (by rw [HFE.out]; exact hhd));rw [HFE.out] at HIF;obtain ⟨x, hx⟩ : ∃ x, f.code.getD l.head default = x := ⟨_, rfl⟩
    rw [hx] at x0 x1 x2 x3 x4 HIF;obtain ⟨xo, xa, xb, xc, xn⟩ := x;have HX := Lib.hid hx;clear hx;dsimp only at x0 x1 x2 x3 x4;have hcw : cbb < wr.heap.size := by have := HT.out.lq; omega
    clear hcb hcc;have hmf := @mkF Tryd.prog;go_upto_if 63 with (fail)
    generalize hW5 : World.alloc _ _ = W5;obtain ⟨z0, hz0⟩ : ∃ z, wr.heap.size = z := ⟨_, rfl⟩
    obtain ⟨z1, hz1⟩ : ∃ z, wr.heap.size + 1 = z := ⟨_, rfl⟩
    obtain ⟨z2, hz2⟩ : ∃ z, wr.heap.size + 1 + 1 = z := ⟨_, rfl⟩
    obtain ⟨z3, hz3⟩ : ∃ z, wr.heap.size + 1 + 1 + 1 = z := ⟨_, rfl⟩
    obtain ⟨z4, hz4'⟩ : ∃ z, wr.heap.size + 1 + 1 + 1 + 1 = z := ⟨_, rfl⟩
    have hb5 : Below wr.heap.size wr W5 := by rw [← hW5]; exact bel
    have HTB : Hid (TB z0 z1 z2 z3 z4 [.int .i64 l.head, .int .i64 l.parent, .slice ma l.members.length mc, .slice ba l.backs.length bc] [.int .i64 xo, .int .i64 xa, .int .i64 xb, .int .i64 xc, .int .i64 xn] [.func (.func 9) #[] #[.pointer (some ⟨z2, 0, none⟩), .pointer (some ⟨z1, 0, none⟩), .pointer (some ⟨z3, 0, none⟩)]] (noSp, noSp) W5) := Lib.hid (by
     rw [← hW5, ← hz4', ← hz3, ← hz2, ← hz1, ← hz0];exact tb_start wr _ _ _ _ _ _ _ _ _ _ _ _ _ _)
    have hz5 : z4 < W5.heap.size := by rw [← hW5, ← hz4']; simp
    have hz01 : z0 < z1 := by omega
    have hz12 : z1 < z2 := by omega
    have hz23 : z2 < z3 := by omega
    have hz34 : z3 < z4 := by omega
    have hq0 : w4.heap.size ≤ z0 := by rw [← hz0]; exact HT.out.lq.2.2.2.2.2
    have HT5 := Lib.hid (HT.out.below hb5);have HO5 := Lib.hid (row_below hb5 HO.out);have HOU : Hid (∀ k, u11.ownBlock = some k → k < z0) := Lib.hid (fun k hk => by have := row_lt HO.out hk; omega);have HMK5 : Hid (MarksAt w4.heap.size rs W5 ∧ ∀ r ∈ rs, r < z0) := Lib.hid ⟨HMK.out.below hb5, fun r hr => by have := HMK.out.lt r hr; omega⟩;rw [hz4', hz3, hz2, hz1, hz0];rw [hz0] at hb5;clear hW5 hz0 hz1 hz2 hz3 hz4' HT HO HMK m2 f5 x0 x1 x2 x3 x4 t0 t1 t2 t3 hg1;have hxa1 : xa < (rg' : Int) := by have h := HIF.out.a1; rw [HRG.out] at h; exact h
    have hxb1 : xb < (rg' : Int) := by have h := HIF.out.b1; rw [HRG.out] at h; exact h
    have hz02 : z0 < z2 := by omega
    go_cut [48] from 48 to 128 (fun v wc => v = .int .i64 j ∧ Hid (TB z0 z1 z2 z3 z4 [.int .i64 l.head, .int .i64 l.parent, .slice ma l.members.length mc, .slice ba l.backs.length bc] [.int .i64 xo, .int .i64 xa, .int .i64 xb, .int .i64 xc, .int .i64 xn] [.func (.func 9) #[] #[.pointer (some ⟨z2, 0, none⟩), .pointer (some ⟨z1, 0, none⟩), .pointer (some ⟨z3, 0, none⟩)]] (tripB f l) wc) ∧ Chg (fun k => k = z2 ∨ k = z3) W5 wc)
    case first =>
     have l4 := own4 HTB.out.l;by_cases hh0 : l.head = 0
     ·have q1 : (l.head : Int) = 0 := by omega
      have q2 : ((l.head : Int) == 0) = true := by rw [q1]; rfl
      have hTB0 : Hid (tripB f l = comeP ⟨xo, xa, xb, xc, xn⟩ (noSp, noSp) (beginP f)) := Lib.hid (by unfold tripB; rw [if_pos hh0, HX.out]);clear hh0;have hsp := HFO.out.2.1;have hplen : f.params.length = pl := hsp.1;have hrgp : pl + (rg' - pl) = rg' := by omega
      have hpl64 : pl ≤ 64 := by omega
      have hws : IntKind.i64.wrap ((rg' : Int) - (pl : Int)) = ((rg' - pl : Nat) : Int) := by rw [IntWalk.i64_in _ (by omega)]; omega
      have hws2 : wrap64 ((rg' : Int) - (pl : Int)) = ((rg' - pl : Nat) : Int) := by rw [wrap64_eq]; exact hws
      have hbeg : f.params ++ List.replicate (rg' - pl) (⟨0, 0⟩ : PSpan) = beginP f := by unfold beginP; rw [HRG.out, hplen]; simp
      have HSR := Lib.hid (spans_src hsp);have HCl : Hid (∀ w', Chg (fun k => k = z2 ∨ k = z3) W5 w' → Calls Tryd.prog 12 #[.slice pa pl pc] w' fun e w2 => ∃ v, e = .returned v ∧ CloneR pl f.params w' v w2) := Lib.hid (fun w' hw => clone_is pa pl pc f.params w' hplen (fun h0 => by
       obtain ⟨b, o, h1, h2, h3⟩ := HSR.out h0;have hbl : b < w.heap.size := by omega
       have hz := HT5.out.be.size;have hz2 := hw.size;refine ⟨b, o, h1, by omega, fun j u hu => ?_⟩;exact (hw.cellAt (o + j) (b := b) (by omega) (by show ¬ (b = z2 ∨ b = z3); omega)).trans ((HT5.out.be.cell (p := ⟨b, o + j, none⟩) hbl).trans (h3 j u hu))) hpl64)
      have hcf : ∀ (args : Array Value) (w : World), (callFunc 12 args).run Tryd.prog w = .ok (.enter 12 args) w := fun _ _ => rfl;have hcf2 : ∀ (args : Array Value) (w : World), (callFunc 11 args).run Tryd.prog w = .ok (.enter 11 args) w := fun _ _ => rfl;have hcf3 : ∀ (args : Array Value) (w : World), (callFunc 9 args).run Tryd.prog w = .ok (.enter 9 args) w := fun _ _ => rfl;have HSS : Hid (∀ w', Chg (fun k => k = z2 ∨ k = z3) W5 w' → w'.cell? ⟨z4, 0, none⟩ = some (.func (.func 9) #[] #[.pointer (some ⟨z2, 0, none⟩), .pointer (some ⟨z1, 0, none⟩), .pointer (some ⟨z3, 0, none⟩)]) ∧ w'.cell? ⟨W2.heap.size, 1, none⟩ = some (.slice pa pl pc) ∧ w'.cell? ⟨W2.heap.size, 2, none⟩ = some (.int .i64 rg')) := Lib.hid (fun w' hw => by
       have f1 := own1 (hw.own HTB.out.f (by omega));have f5 := own5 (hw.own HT5.out.cf (by have := HT5.out.lq; omega));exact ⟨f1.2.1, f5.2.2.1, f5.2.2.2.1⟩)
      go_upto_region 16 with (fail)
      generalize hA0 : (Act.mk _ _ : Act) = a0;have Ee : a0.eval (.tmp 8) = .pointer (some ⟨W2.heap.size, 0, none⟩) ∧ a0.eval (.tmp 17) = .pointer (some ⟨z4, 0, none⟩) ∧ a0.tmps.size = 130 := by rw [← hA0]; exact ⟨rfl, rfl, rfl⟩
      refine region_held_plain (fun w' => Chg (fun k => k = z2 ∨ k = z3) W5 w') (by kernel_rfl) ((Chg.refl _ W5).drew) ?_;intro K0 hK0 hHeld
      try dsimp only at hHeld
      refine wtk 0 rfl ?_; try simp only [GE]
      refine wtk 1 rfl ?_; try simp only [GE]
      refine wtk 2 rfl ?_; try simp only [GE]
      refine wtk 5 rfl ?_; try simp only [GE]
      refine wtk 6 rfl ?_; try simp only [GE]
      refine wtk 7 rfl ?_; try simp only [GE]
      refine wtk 8 rfl ?_; try simp only [GE]
      refine wtk 9 rfl ?_; try simp only [GE]
      refine wtk 10 rfl ?_; try simp only [GE]
      generalize hA1 : (Act.put _ _ _ : Act) = a1;replace Ee : a1.eval (.tmp 64) = .func (.func 9) #[] #[.pointer (some ⟨z2, 0, none⟩), .pointer (some ⟨z1, 0, none⟩), .pointer (some ⟨z3, 0, none⟩)] ∧ a1.eval (.tmp 74) = .int .i64 ((rg' - pl : Nat) : Int) ∧ a1.eval (.tmp 66) = .slice pa pl pc ∧ a1.tmps.size = 130 := ee1;refine readyH1 3 ?_ (by kernel_rfl) ?_ ?_;rotate_left
      ·exact rfl
      intro K hK;refine step_callF rfl 12 [.tmp 66] #[40] rfl hcf [.slice pa pl pc] (by simp only [GE, MX, EX, Ee, reduceIte, Nat.reduceEqDiff, Nat.reduceLT, Nat.reduceBEq]) _ (HCl.out _ hHeld) ?_;rintro v wM ⟨va, vc, rfl, hvc1, hvc2, hvn, hvr, hbM⟩; have hwM : Chg (fun k => k = z2 ∨ k = z3) W5 wM := hHeld.trans (Chg.of hbM); have hzM := hwM.size;refine hK.out _ _ (hwM) fun hHeld => ?_; clear hK K; try simp only [GE]
      generalize hA2 : (Act.put _ _ _ : Act) = a2;replace Ee : a2.eval (.tmp 64) = .func (.func 9) #[] #[.pointer (some ⟨z2, 0, none⟩), .pointer (some ⟨z1, 0, none⟩), .pointer (some ⟨z3, 0, none⟩)] ∧ a2.eval (.tmp 74) = .int .i64 ((rg' - pl : Nat) : Int) ∧ a2.eval (.tmp 67) = .slice va pl vc ∧ a2.tmps.size = 130 := ee2;refine readyH1 4 ?_ (by kernel_rfl) ?_ ?_;rotate_left
      ·exact rfl
      intro K hK;refine step_callF rfl 11 [.tmp 67] #[40] rfl hcf2 [.slice va pl vc] (by simp only [GE, MX, EX, Ee, reduceIte, Nat.reduceEqDiff, Nat.reduceLT, Nat.reduceBEq]) _ (clip_is va pl vc _ hvc1 hvc2 hvn) ?_;rintro v wN ⟨rfl, hwN⟩; rw [hwN]; clear hwN;refine hK.out _ _ (hwM) fun hHeld => ?_; clear hK K; try simp only [GE]
      generalize hA3 : (Act.put _ _ _ : Act) = a3;replace Ee : a3.eval (.tmp 64) = .func (.func 9) #[] #[.pointer (some ⟨z2, 0, none⟩), .pointer (some ⟨z1, 0, none⟩), .pointer (some ⟨z3, 0, none⟩)] ∧ a3.eval (.tmp 74) = .int .i64 ((rg' - pl : Nat) : Int) ∧ a3.eval (.tmp 68) = .slice va pl pl ∧ a3.tmps.size = 130 := ee3;have ⟨_, e3_74, e3_68, _⟩ := Ee;refine readyH1 11 ?_ (by kernel_rfl) ?_ ?_;rotate_left
      ·exact rfl
      intro K hK;obtain ⟨g2, cap, wA, hrun, hrA, hbA, hgA⟩ := append_zeros2 wM 40 va pl (rg' - pl) f.params hplen (hvr.imp id (fun ⟨b, h1, _, h2⟩ => ⟨b, h1, h2⟩)) (by omega) (by omega);rw [hrgp] at hrun hrA;have hwA : Chg (fun k => k = z2 ∨ k = z3) W5 wA := hwM.trans (Chg.of hbA);have hbwA : Below W5.heap.size W5 wA := ((Below.refl _ W5).drew.trans (hbM.mono (Nat.le_refl _))).trans (hbA.mono hzM);refine step_apprun rfl (.tmp 68) (.tmp 74) 40 3 rfl _ _ e3_68 e3_74 _ _ hrun ?_;refine hK.out _ _ (hwA) fun hHeld => ?_; clear hK K; try simp only [GE]
      generalize hA4 : (Act.put _ _ _ : Act) = a4;replace Ee : a4.eval (.tmp 64) = .func (.func 9) #[] #[.pointer (some ⟨z2, 0, none⟩), .pointer (some ⟨z1, 0, none⟩), .pointer (some ⟨z3, 0, none⟩)] ∧ a4.eval (.tmp 75) = .slice (some ⟨g2, 0, none⟩) rg' cap ∧ a4.tmps.size = 130 := ee4;have ⟨e4_64, _, _⟩ := Ee;refine readyH1 12 ?_ (by kernel_rfl) ?_ ?_;rotate_left
      ·exact rfl
      intro K hK;have TA := HTB.out.below hbwA;rw [hbeg] at hrA;refine step_callV rfl 9 64 _ e4_64 [.tmp 75] #[40] rfl hcf3 [.slice (some ⟨g2, 0, none⟩) rg' cap] (by simp only [List.map_cons, List.map_nil, Ee]) (fun v w' => v = .tuple #[] ∧ Hid (TB z0 z1 z2 z3 z4 _ _ _ (tripB f l) w') ∧ Chg (fun k => k = z2 ∨ k = z3) W5 w') ((come_any z2 z1 z3 noSp noSp ⟨xo, xa, xb, xc, xn⟩ g2 rg' cap (beginP f) wA TA.lo TA.hi TA.c hrA HIF.out.a0 hxa1 HIF.out.b0 hxb1 hrg64 (by omega)).mono (by rintro e w' ⟨rfl, h1, h2, h3⟩; exact ⟨_, rfl, rfl, Lib.hid (TA.come h3 (by rw [hTB0.out]; exact h1) (by rw [hTB0.out]; exact h2) hz02 hz12 hz23 hz34), hwA.trans h3⟩)) ?_;rintro v wB ⟨rfl, hTBB, hwB⟩;refine hK.out _ _ (hwB) fun hHeld => ?_; clear hK K; try simp only [GE]
      refine anyH_done (by kernel_rfl) ?_;refine hK0.out _ _ ?_;subst hA4;subst hA3;subst hA2;subst hA1;subst hA0;clear Ee e3_74 e3_68 e4_64;simp only [GE, Act.put, List.setIfInBounds_toArray, List.set_cons_zero, List.set_cons_succ]
      try go_wp2
      go_meet;exact ⟨rfl, hTBB, hwB⟩
     ·have q1 : ¬ (l.head : Int) = 0 := by omega
      have q2 : ((l.head : Int) == 0) = false := by rw [beq_eq_false_iff_ne]; omega
      go_wp2;go_meet;exact ⟨rfl, by unfold tripB; rw [if_neg hh0]; exact HTB, Chg.refl _ _⟩
    case rest =>
     obtain ⟨rfl, HTBc, hcc⟩ := hcut;obtain ⟨wB, hwB⟩ : ∃ wb : World, wb = wc := ⟨_, rfl⟩
     subst hwB;have HTI := Lib.hid (HT5.out.keep hcc (fun x e => by rcases e with e | e <;> omega));have HOW := Lib.hid (row_chg hcc HO5.out (fun k hk e => by have := HOU.out k hk; rcases e with e | e <;> omega));have HMW2 := Lib.hid (MarksAt.keep HMK5.out.1 hcc (fun r hr e => by have := HMK5.out.2 r hr; rcases e with e | e <;> omega));have hzc := hcc.size;have HEd : Hid (∀ w', Calls Tryd.prog 13 #[.agg #[.string f.name, .slice pa pl pc, .int .i64 rg', .int .i64 f.words, .slice (some ⟨cbb, cbo, none⟩) f.code.length cc]] w' fun e w2 => e = .returned (.func (.func 30) #[] #[.pointer (some ⟨w'.heap.size, 0, none⟩)]) ∧ w2 = boxOf w' ⟨pa, pl, pc, some ⟨cbb, cbo, none⟩, f.code.length, cc⟩ f) := Lib.hid (fun w' => by
      have h := edges_any ⟨pa, pl, pc, some ⟨cbb, cbo, none⟩, f.code.length, cc⟩ f w';unfold FuncVal at h;dsimp only at h;rw [HRG.out] at h;exact h)
     have f5 := own5 HTI.out.cf;have HMR : Hid (∀ r ∈ rs, r < z0) := Lib.hid HMK5.out.2;clear HT5 HO5 HMK5 HTB hcc hb5;go_wp2_with (first | (go_at_call 13; refine (HEd.out _).mono ?_; rintro e w6 ⟨rfl, hw6⟩; have HW6 := Lib.hid hw6; clear hw6) | fail)
     have hw6 := HW6.out;have hb6 : Below wB.heap.size wB w6 := by rw [hw6]; unfold boxOf; exact (Below.refl _ _).alloc (Nat.le_refl _) _
     have X6 : Own w6 wB.heap.size [.string f.name, .slice pa pl pc, .int .i64 f.regs, .int .i64 f.words, .slice (some ⟨cbb, cbo, none⟩) f.code.length cc] := by rw [hw6]; unfold boxOf; exact Own.new _ _ _
     have hz6 : wB.heap.size + 1 ≤ w6.heap.size := by rw [hw6]; unfold boxOf; simp
     have HI6 : Hid (TR N A f.code.length rg' w.heap.size (w.heap.size + 1) w1.heap.size W2.heap.size [.slice ta tl tc, .slice (some ⟨fb, fo, none⟩) fl fc] [.string f.name, .slice pa pl pc, .int .i64 rg', .int .i64 f.words, .slice (some ⟨cbb, cbo, none⟩) f.code.length cc] [.slice (some ⟨A.ib, 0, none⟩) f.code.length A.ic, .slice (some ⟨A.cb, 0, none⟩) f.code.length A.cc] fn (.slice (some ⟨g, 0, none⟩) ls.length lc) L s w w4.heap.size z0 z1 z2 z3 z4 [.int .i64 l.head, .int .i64 l.parent, .slice ma l.members.length mc, .slice ba l.backs.length bc] [.int .i64 xo, .int .i64 xa, .int .i64 xb, .int .i64 xc, .int .i64 xn] [.func (.func 9) #[] #[.pointer (some ⟨z2, 0, none⟩), .pointer (some ⟨z1, 0, none⟩), .pointer (some ⟨z3, 0, none⟩)]] u11 j (U64s ((ls.take j).map (tripN m f s.inn))) rs (tripB f l) w6) := Lib.hid ⟨HTI.out.below hb6, HTBc.out.below hb6, row_below hb6 HOW.out, HMW2.out.below hb6⟩;clear HTI HTBc HOW HMW2 hw6 HW6 HEd f5;have hkA : A.k < w6.heap.size := HI6.out.ti.b.st.1;have hbw6 : Below w.heap.size w w6 := HI6.out.ti.be;have hzz : z4 < w6.heap.size := by omega
     refine range_edges (fun _ k => k = z2 ∨ k = z3) (fun pre W => TR N A f.code.length rg' w.heap.size (w.heap.size + 1) w1.heap.size W2.heap.size [.slice ta tl tc, .slice (some ⟨fb, fo, none⟩) fl fc] [.string f.name, .slice pa pl pc, .int .i64 rg', .int .i64 f.words, .slice (some ⟨cbb, cbo, none⟩) f.code.length cc] [.slice (some ⟨A.ib, 0, none⟩) f.code.length A.ic, .slice (some ⟨A.cb, 0, none⟩) f.code.length A.cc] fn (.slice (some ⟨g, 0, none⟩) ls.length lc) L s w w4.heap.size z0 z1 z2 z3 z4 [.int .i64 l.head, .int .i64 l.parent, .slice ma l.members.length mc, .slice ba l.backs.length bc] [.int .i64 xo, .int .i64 xa, .int .i64 xb, .int .i64 xc, .int .i64 xn] [.func (.func 9) #[] #[.pointer (some ⟨z2, 0, none⟩), .pointer (some ⟨z1, 0, none⟩), .pointer (some ⟨z3, 0, none⟩)]] u11 j (U64s ((ls.take j).map (tripN m f s.inn))) rs (pre.foldl (tripE m f s.inn l) (tripB f l)) W)
      B w4.heap.size wB.heap.size ⟨pa, pl, pc, some ⟨cbb, cbo, none⟩, f.code.length, cc⟩ f rfl rfl hn0 hn1 (by have := HI6.out.ti.lq; omega) (by omega) (HFO.out.same (Same.of hbw6 hB)) X6 ⟨?_, ?_, ?_⟩ ?_ ?_ ?_ ?_ HI6.out ?_ ?_
     ·rintro pre W k h (rfl | rfl)
      ·exact h.tb.lo.1
      ·exact h.tb.hi.1
     ·rintro pre W W' k h hb hk; exact hk
     ·rintro pre W k h (rfl | rfl) <;> omega
     ·rintro pre W h (e | e) <;> omega
     ·rintro pre W W' h hb; exact h.below hb
     ·rintro pre W W' h hc; exact h.turn hc (by omega) hkA hzz (by omega) (by omega) (by omega) (by omega) (fun r hr => by have := HI6.out.ma.lt r hr; omega)
     ·rintro pre W W' k h hc; exact Iff.rfl
     ·clear HI6 X6;apply Exists.intro;constructor
      ·intro l' x W K hK;have HK := Lib.hid hK; clear hK;unfold encE;gi_wp2;exact HK.out
      ·rintro l' pre x W hT hok2 hsz;obtain ⟨v, hxv, hvn, hun⟩ := edges_nat f x (hok2.subset (by simp));have HNX : Hid (x.2 ∈ nextP f x.1) := Lib.hid (by
        have h := hok2.subset (show x ∈ pre ++ [x] by simp);obtain ⟨u, y⟩ := x;dsimp only at hxv;subst hxv;exact ((edges_mem f u v).1 h).2.2)
       obtain ⟨u, y⟩ := x;dsimp only at hxv hun HNX ⊢;subst hxv;have HTR := Lib.hid hT;have hbW : Below w.heap.size w W := hT.ti.be;have hzW := hbW.size;have l4 := own4 hT.tb.l;have a2 := own2 hT.ti.ca;have rd0 := (hT.ti.b.rd hun).1;have hci := contains_int ma l.members.length mc l.members (u : Int) _ W (HMW.out W hT.ti.l);have HCI := Lib.hid hci;have hul : (u : Int) < (f.code.length : Int) := by omega
       have HEI := Lib.hid (hT.ti.b.ei u hun);have hS : Hid (s.inn.getD u [] = [] ∨ LOk rg' (s.inn.getD u [])) := Lib.hid (HSO.out.inn u hun);have hst : (pre ++ [(u, (v : Int))]).foldl (tripE m f s.inn l) (tripB f l) = tripE m f s.inn l (pre.foldl (tripE m f s.inn l) (tripB f l)) (u, (v : Int)) := by rw [List.foldl_append, List.foldl_cons, List.foldl_nil]
       generalize pre.foldl (tripE m f s.inn l) (tripB f l) = lh at *;have HST := Lib.hid hst;clear hT hci hst hok2;have hnil : ∀ (w : World) (a : Option Addr) (n c : Nat), (binOp .eql 40 (.slice a n c) (.slice none 0 0)).run Tryd.prog w = .ok (.bool a.isNone) w := fun w a n c => Lib.run_eql_slice_nil w _ 53 a n c 0 0 (by kernel_rfl);have HTS : Hid (tripE m f s.inn l lh (u, (v : Int)) = lh → TR N A f.code.length rg' w.heap.size (w.heap.size + 1) w1.heap.size W2.heap.size [.slice ta tl tc, .slice (some ⟨fb, fo, none⟩) fl fc] [.string f.name, .slice pa pl pc, .int .i64 rg', .int .i64 f.words, .slice (some ⟨cbb, cbo, none⟩) f.code.length cc] [.slice (some ⟨A.ib, 0, none⟩) f.code.length A.ic, .slice (some ⟨A.cb, 0, none⟩) f.code.length A.cc] fn (.slice (some ⟨g, 0, none⟩) ls.length lc) L s w w4.heap.size z0 z1 z2 z3 z4 [.int .i64 l.head, .int .i64 l.parent, .slice ma l.members.length mc, .slice ba l.backs.length bc] [.int .i64 xo, .int .i64 xa, .int .i64 xb, .int .i64 xc, .int .i64 xn] [.func (.func 9) #[] #[.pointer (some ⟨z2, 0, none⟩), .pointer (some ⟨z1, 0, none⟩), .pointer (some ⟨z3, 0, none⟩)]] u11 j (U64s ((ls.take j).map (tripN m f s.inn))) rs ((pre ++ [(u, (v : Int))]).foldl (tripE m f s.inn l) (tripB f l)) W) := Lib.hid (fun h => by rw [HST.out, h]; exact HTR.out);by_cases c1 : v = l.head
       ·subst c1;have q1 : (((l.head : Nat) : Int) != ((l.head : Nat) : Int)) = false := by simp
        by_cases c2 : l.members.contains (u : Int) = true
        ·rw [c2] at HCI;have hsame : tripE m f s.inn l lh (u, ((l.head : Nat) : Int)) = lh := by unfold tripE; rw [if_pos (.inr (.inl c2))]
         have HT2 := Lib.hid (HTS.out hsame);clear hsame HTS c2;gi_wp2_with (first | (refine ⟨trivial, rfl, ?_⟩; gi_at_call 14; refine (callsIn_round HCI.out).mono ?_; rintro e w7 ⟨rfl, hw7⟩; have hw8 := hw7.symm; subst hw8) | fail)
         exact ⟨fun k h1 h2 => rfl, ⟨Chg.refl _ _, fun k h => .inl h⟩, HT2.out⟩
        ·have c2' : l.members.contains (u : Int) = false := by simpa using c2
         rw [c2'] at HCI;rcases HEI.out with ⟨h1, h2⟩ | ⟨ob, oc, h1, h2, h3⟩
         ·rw [h1] at rd0;have hsame : tripE m f s.inn l lh (u, ((l.head : Nat) : Int)) = lh := by unfold tripE; rw [if_pos (.inr (.inr h2))]
          have HT2 := Lib.hid (HTS.out hsame);unfold ivVal at rd0;dsimp only at rd0;have hn1 := fun w => hnil w none 0 0;dsimp only [Option.isNone_none] at hn1;clear hsame HTS c2 c2' HEI h1 h2 hnil;gi_wp2_with (first | (refine ⟨trivial, rfl, ?_⟩; gi_at_call 14; refine (callsIn_round HCI.out).mono ?_; rintro e w7 ⟨rfl, hw7⟩; have hw8 := hw7.symm; subst hw8) | fail)
          exact ⟨fun k h1 h2 => rfl, ⟨Chg.refl _ _, fun k h => .inl h⟩, HT2.out⟩
         ·rw [h1] at rd0;unfold ivVal at rd0;dsimp only at rd0;have hn1 := fun w => hnil w (some ⟨ob, 0, none⟩) rg' oc;dsimp only [Option.isNone_some] at hn1;have hne : s.inn.getD u [] ≠ [] := fun e => by
           have h9 := h2.len;rw [e] at h9;simp at h9;omega
          have hlok : LOk rg' (s.inn.getD u []) := hS.out.resolve_left hne;obtain ⟨res, hres⟩ : ∃ q, wayP m f u ((l.head : Nat) : Int) (s.inn.getD u []) = q := ⟨_, rfl⟩
          have hte : tripE m f s.inn l lh (u, ((l.head : Nat) : Int)) = wayLH (f.code.getD l.head default) lh res := by
           rw [tripE_way m f s.inn l lh u (by
            rintro (h | h)
            ·exact c2 h
            ·exact hne h), hres]
          have HTE := Lib.hid hte;have HEC : Hid (∀ w', Below W.heap.size W w' → Calls Tryd.prog 15 #[.agg #[.slice ta tl tc, .slice (some ⟨fb, fo, none⟩) fl fc], .int .i64 fn, .int .i64 u, .int .i64 l.head, .slice (some ⟨ob, 0, none⟩) rg' oc] w' fun e w2 => ∃ v, e = .returned v ∧ ((∃ gv, v = .tuple #[gv, .bool res.isSome] ∧ ∀ out, res = some out → ∃ g cap, gv = .slice (some ⟨g, 0, none⟩) rg' cap ∧ SpRow w2 g rg' cap out ∧ W.heap.size ≤ g) ∧ Below W.heap.size W w2)) := Lib.hid (fun w' hw => by
           have hb2 : Below w.heap.size w w' := hbW.trans (hw.mono hbW.size);have h := edge_ok B m fn u ((l.head : Nat) : Int) ta (some ⟨fb, fo, none⟩) tl tc fl fc ob oc rg' (s.inn.getD u []) w' (Nat.le_trans hB hb2.size) hB0 (HM.out.same (Same.of hb2 hB)) (HRW.out.same (Same.of hb2 (Nat.le_refl _)) HRW.out.1 hb2.size) HE.out hfn (by rw [HFE.out]; exact HRG.out) (by rw [HFE.out]; exact hun) (by rw [HFE.out]; exact HNX.out) (h2.below hw) hlok;rw [HFE.out, hres] at h;refine h.mono ?_;rintro e w2 ⟨v, rfl, hb3, ho⟩;exact ⟨_, rfl, ⟨v, rfl, fun out h => by
            obtain ⟨g, cap, e1, e2, e3⟩ := ho out h;exact ⟨g, cap, e1, e2, Nat.le_trans hw.size e3⟩⟩, hw.trans (hb3.mono hw.size)⟩)
          have HSS : Hid (∀ w', Below W.heap.size W w' → w'.cell? ⟨w.heap.size, 0, none⟩ = some (.slice ta tl tc) ∧ w'.cell? ⟨w.heap.size, 1, none⟩ = some (.slice (some ⟨fb, fo, none⟩) fl fc) ∧ w'.cell? ⟨w.heap.size + 1, 0, none⟩ = some (.int .i64 fn) ∧ w'.cell? ⟨w1.heap.size, 0, none⟩ = some (.slice (some ⟨A.ib, 0, none⟩) f.code.length A.ic) ∧ w'.cell? ⟨A.ib, u, none⟩ = some (.slice (some ⟨ob, 0, none⟩) rg' oc)) := Lib.hid (fun w' hw => by
           have c2 := own2 (HTR.out.ti.cm.below hw);have c1 := own1 (HTR.out.ti.ci.below hw);have a2 := own2 (HTR.out.ti.ca.below hw);exact ⟨c2.2.1, c2.2.2.1, c1.2.1, a2.2.1, (hw.cell (p := ⟨A.ib, u, none⟩) (row_ltB HTR.out.ti.b.ri)).trans rd0⟩)
          have hcf : ∀ (args : Array Value) (w : World), (callFunc 15 args).run Tryd.prog w = .ok (.enter 15 args) w := fun _ _ => rfl;clear c2 c2' HEI h1 h2 hnil hne hlok hres hte hS;gi_wp2_with (first | (refine ⟨trivial, rfl, ?_⟩; gi_at_call 14; refine (callsIn_round HCI.out).mono ?_; rintro e w7 ⟨rfl, hw7⟩; have hw8 := hw7.symm; subst hw8) | fail)
          clear rd0 hn1 l4 a2 HCI;generalize hA0 : (Act.mk _ _ : Act) = a0;have Ee : a0.eval (.tmp 2) = .pointer (some ⟨w.heap.size, 0, none⟩) ∧ a0.eval (.tmp 3) = .pointer (some ⟨w.heap.size + 1, 0, none⟩) ∧ a0.eval (.tmp 6) = .pointer (some ⟨w1.heap.size, 0, none⟩) ∧ a0.eval (.tmp 18) = .int .i64 u ∧ a0.eval (.tmp 19) = .int .i64 l.head ∧ a0.tmps.size = 130 := by rw [← hA0]; exact ⟨rfl, rfl, rfl, rfl, rfl, rfl⟩
          refine region_held_round (fun w' => Below W.heap.size W w') (by kernel_rfl) (by kernel_rfl) ((Below.refl _ W).drew) ?_;intro K0 hK0 hHeld
          try dsimp only at hHeld
          refine wtk 0 rfl ?_; try simp only [GE]
          refine wtk 1 rfl ?_; try simp only [GE]
          refine wtk 2 rfl ?_; try simp only [GE]
          refine wtk 3 rfl ?_; try simp only [GE]
          refine wtk 4 rfl ?_; try simp only [GE]
          refine wtk 5 rfl ?_; try simp only [GE]
          refine wtk 6 rfl ?_; try simp only [GE]
          refine wtk 7 rfl ?_; try simp only [GE]
          refine wtk 8 rfl ?_; try simp only [GE]
          generalize hA1 : (Act.put _ _ _ : Act) = a1;replace Ee : a1.eval (.tmp 100) = .agg #[.slice ta tl tc, .slice (some ⟨fb, fo, none⟩) fl fc] ∧ a1.eval (.tmp 101) = .int .i64 fn ∧ a1.eval (.tmp 102) = .int .i64 u ∧ a1.eval (.tmp 103) = .int .i64 l.head ∧ a1.eval (.tmp 108) = .slice (some ⟨ob, 0, none⟩) rg' oc ∧ a1.tmps.size = 130 := ee1;refine readyH1 9 ?_ (by kernel_rfl) ?_ ?_;rotate_left
          ·exact rfl
          intro K hK;refine step_callF rfl 15 [.tmp 100, .tmp 101, .tmp 102, .tmp 103, .tmp 108] #[29, 3, 3, 3, 40] rfl hcf [.agg #[.slice ta tl tc, .slice (some ⟨fb, fo, none⟩) fl fc], .int .i64 fn, .int .i64 u, .int .i64 l.head, .slice (some ⟨ob, 0, none⟩) rg' oc] (by simp only [GE, MX, EX, Ee, reduceIte, Nat.reduceEqDiff, Nat.reduceLT, Nat.reduceBEq]) _ (HEC.out _ hHeld) ?_;rintro v wE ⟨⟨gv, rfl, hgo⟩, hbE⟩;refine hK.out _ _ (hbE) fun hHeld => ?_; clear hK K; try simp only [GE]
          generalize hA2 : (Act.put _ _ _ : Act) = a2;replace Ee : a2.eval (.tmp 109) = .tuple #[gv, .bool res.isSome] ∧ a2.tmps.size = 130 := ee2;refine wtk 10 rfl ?_; try simp only [GE]
          generalize hA3 : (Act.put _ _ _ : Act) = a3;replace Ee : a3.eval (.tmp 99) = .tuple #[gv, .bool res.isSome] ∧ a3.tmps.size = 130 := ee3;refine wtk 11 rfl ?_; try simp only [GE]
          refine wtk 12 rfl ?_; try simp only [GE]
          generalize hA4 : (Act.put _ _ _ : Act) = a4;replace Ee : a4.eval (.tmp 110) = gv ∧ a4.eval (.tmp 111) = .bool res.isSome ∧ a4.tmps.size = 130 := ee4;refine wtk 13 rfl ?_; try simp only [GE]
          refine wtk 14 rfl ?_; try simp only [GE]
          refine anyH_done (by kernel_rfl) ?_;refine hK0.out _ _ ?_;subst hA4;subst hA3;subst hA2;subst hA1;subst hA0;clear Ee;simp only [GE, Act.put, List.setIfInBounds_toArray, List.set_cons_zero, List.set_cons_succ];cases res with
          | none =>
           have HT2 := Lib.hid ((HTS.out HTE.out).below hbE);gi_wp2;exact ⟨fun k h1 h2 => hbE.block k (by omega), ⟨Chg.of hbE, fun k h => .inl h⟩, HT2.out⟩
          | some out =>
           obtain ⟨g2, cap, rfl, hs2, hg2⟩ := hgo out rfl;have HTE2 := Lib.hid (HTR.out.below hbE);have f1 := own1 HTE2.out.tb.f;have hzE := hbE.size;have hcm := come_any z2 z1 z3 lh.1 lh.2 ⟨xo, xa, xb, xc, xn⟩ g2 rg' cap out wE HTE2.out.tb.lo HTE2.out.tb.hi HTE2.out.tb.c hs2 HIF.out.a0 hxa1 HIF.out.b0 hxb1 hrg64 (by omega);have HCM := Lib.hid hcm;clear hcm hs2;gi_wp2_with (first | (refine ⟨trivial, rfl, ?_⟩; gi_at_call 9; refine (callsIn_round HCM.out).mono ?_; rintro e w8 ⟨rfl, hl8, hh8, hc8⟩) | fail)
           have hcT : Chg (fun k => k = z2 ∨ k = z3) W w8 := (Chg.of hbE).trans hc8;refine ⟨fun k h1 h2 => hcT.block k (by omega) (by omega), ⟨hcT, fun k h => .inl h⟩, ?_⟩;rw [HST.out, HTE.out, HX.out]; unfold wayLH;exact HTE2.out.come hc8 hl8 hh8 hq0 hz01 hz12 hz23 hz34 HOU.out HMR.out
       ·have q1 : ((v : Int) != ((l.head : Nat) : Int)) = true := by simp; omega
        have hsame : tripE m f s.inn l lh (u, (v : Int)) = lh := by unfold tripE; rw [if_pos (.inl (by omega))]
        have HT2 := Lib.hid (HTS.out hsame);clear hsame HTS;gi_wp2;refine ⟨trivial, ?_⟩;gi_wp2;exact ⟨fun k h1 h2 => rfl, ⟨Chg.refl _ _, fun k h => .inl h⟩, HT2.out⟩
     ·rintro W7 hT hD;have hfold : (edgesL f).foldl (tripE m f s.inn l) (tripB f l) = tripTo m f s.inn l (edgesL f) := rfl;rw [hfold] at hT;have hN : tripN m f s.inn l = lenLH (tripTo m f s.inn l (edgesL f)) := rfl;generalize tripTo m f s.inn l (edgesL f) = lh at *;obtain ⟨⟨plo, phi⟩, ⟨qlo, qhi⟩⟩ := lh;have HT := Lib.hid hT; have HD := Lib.hid hD; have HN := Lib.hid hN;have p2 := own2 (show Own W7 z2 [.int .i64 plo, .int .i64 phi] from hT.tb.lo);have p3 := own2 (show Own W7 z3 [.int .i64 qlo, .int .i64 qhi] from hT.tb.hi);have hlen := slength_any ⟨plo, phi⟩ ⟨qlo, qhi⟩ W7;unfold spanV at hlen;dsimp only at hlen;have HLen := Lib.hid hlen;have hzw7 : w6.heap.size < W7.heap.size := (Array.getElem?_eq_some_iff.1 hD).1;have hMK8 : Hid (MarksAt w4.heap.size (w6.heap.size :: rs) W7) := Lib.hid (hT.ma.cons (fun x hx => by have := HMR.out x hx; omega) (by omega) hD);clear hT hD hfold hN hlen HI6 X6 hzz;go_upto_if 120 with (fail)
      go_cut [22] from 116 to 124 (fun v wc => v = .int .u64 (tripN m f s.inn l) ∧ Below W7.heap.size W7 wc)
      case first =>
       by_cases hle : plo ≤ phi
       ·have hv : lengthP ⟨plo, phi⟩ ⟨qlo, qhi⟩ = tripN m f s.inn l := by rw [HN.out]; unfold lenLH; rw [if_pos hle]
        have HV := Lib.hid hv;clear hv;go_wp2_with (first | (go_at_call 16; refine HLen.out.mono ?_; rintro e w8 ⟨rfl, hb8⟩) | fail)
        go_meet;exact ⟨by rw [HV.out], hb8⟩
       ·have hv : tripN m f s.inn l = 0 := by rw [HN.out]; unfold lenLH; rw [if_neg hle]
        have HV := Lib.hid hv;clear hv;go_wp2;go_meet;exact ⟨by rw [HV.out], Below.refl _ _⟩
      case rest =>
       obtain ⟨rfl, hb8⟩ := hcut;obtain ⟨w8, hw8⟩ : ∃ wb : World, wb = wc := ⟨_, rfl⟩
       subst hw8;have hz8 := hb8.size;have hro8 := Lib.hid (row_below hb8 HT.out.ro);go_wp2_with (first | (at_builtin; refine wpList_app rfl (.tmp 124) (.tmp 126) 22 32 1 8 (.int .u64 0) rfl Tryd.underlying22 (by kernel_rfl) rfl (by decide) _ _ _ rfl (row_below ((Below.refl _ w8).alloc (Nat.le_refl _) _) hro8.out) ⟨w8.heap.size, 0, none⟩ 1 1 (U64s [tripN m f s.inn l]) rfl rfl (src_own (Own.new' _ _ _ _ rfl)) (U64_one _) (by unfold maxLen; omega) (by omega) (by decide) ?_; intro g4 c4 w9 hr9 hc9 hg9) | fail)
       have hz9 := hc9.size; simp at hz9;have hcA : Chg (fun k => u11.ownBlock = some k) w8 w9 := (Chg.of ((Below.refl _ w8).alloc (Nat.le_refl _) _)).trans hc9;have hTI9 := (HT.out.ti.below hb8).keep hcA (fun x e => hov x e);have hMK9 : MarksAt w4.heap.size (w6.heap.size :: rs) w9 := (hMK8.out.below hb8).chg hcA (fun r o hr ho => row_cells hro8.out r o hr ho);refine Handed.intro (ls.length - (j + 1)) (by have := HGK.out; omega) (HJ.out _ _ _ ⟨j + 1, .slice (some ⟨g4, 0, none⟩) (j + 1) c4, w6.heap.size :: rs, rfl, by omega, rfl, rfl, rfl, rfl, rfl, rfl, rfl, rfl, rfl, rfl, Lib.hid hTI9, Lib.hid ?_, ?_, Lib.hid hMK9⟩)
       ·rw [HTK.out, List.map_append];unfold U64s at hr9 ⊢;rw [List.map_append];exact hr9
       ·intro k hk;have e : g4 = k := (by simpa [Value.ownBlock] using hk)
        subst e;rcases hg9 with h | h
        ·exact hov _ h
        ·simp at h;have := HT.out.ti.lq;omega
   ·obtain rfl : j = ls.length := by omega
    have d3 : ¬ (ls.length : Int) < (ls.length : Int) := by omega
    rw [List.take_length] at HO;go_wp2;refine leaves_marks rs wr HMK.out (fun W' hW => ?_);have hzq := HT.out.lq;have hbt := HT.out.be.trans (hW.below.mono (by omega));have hot := row_turn (b := w4.heap.size) hW HO.out;clear HMK;refine ⟨.tuple #[u11, .int .i64 0], by simp [results, Tryd.results4, go_sem], s, HRU.out, u11, by rw [HTP.out], ?_, hbt⟩;rw [HTP.out];dsimp only;rw [List.length_map];exact hot
 ·have q7 : (fe == 0) = false := by simpa using hfe0
  have q8 : (fe != 0) = true := by simpa using hfe0
  go_wp2_with (first | (go_at_call 8; refine HFL.out.mono ?_; rintro e w4 ⟨v4, L, rfl, hb4, hL, hLm⟩) | fail)
  try rw [Exit.noGoto_ret]
  have htp : tripsP m f s.inn = ([], fe) := by unfold tripsP; rw [HFD.out]; dsimp only; rw [if_neg hfe0]
  refine ⟨.tuple #[.slice none 0 0, .int .i64 fe], by simp [results, Tryd.results4, go_sem], s, .slice none 0 0, HRU.out, ?_, ?_, ?_⟩
  ·rw [htp]
  ·rw [htp]; exact World.ownsRow_nil _ _ _ _
  ·exact hb3.trans (hb4.mono (by omega))
end
/-- a row of numbers, read -/
def U64At (w : World) (a : Option Addr) (n : Nat) (l : List Int) : Prop := l.length = n ∧ n ≤ maxLen ∧ ∃ b o, (0 < n → a = some ⟨b, o, none⟩ ∧ b < w.heap.size) ∧ ∀ i, i < n → w.cell? ⟨b, o + i, none⟩ = some (.int .u64 (l.getD i 0))
theorem U64At.below {w w' : World} {a : Option Addr} {n : Nat} {l : List Int} (h : U64At w a n l) (hb : Below w.heap.size w w') : U64At w' a n l := by
 obtain ⟨e, m, b, o, x, y⟩ := h;exact ⟨e, m, b, o, fun h => ⟨(x h).1, Nat.lt_of_lt_of_le (x h).2 hb.size⟩, fun i hi => (hb.cell (p := ⟨b, o + i, none⟩) (x (by omega)).2).trans (y i hi)⟩
theorem U64At.ofRow {w : World} {v : Value} {l : List Int} (h : w.ownsRow 0 32 1 v l.length (U64s l)) (hm : l.length ≤ maxLen) : ∃ a c, v = .slice a l.length c ∧ U64At w a l.length l := by
 rcases row_form h with ⟨rfl, h0, _⟩ | ⟨g, c, rfl, _⟩
 ·exact ⟨none, 0, by rw [h0], rfl, hm, 0, 0, fun q => by omega, fun i hi => by omega⟩
 ·exact ⟨_, c, rfl, rfl, hm, g, 0, fun _ => ⟨rfl, row_ltB h⟩, fun i hi => by
   rw [Nat.zero_add];exact row_cell h (by unfold U64s; rw [List.getElem?_map, List.getD_eq_getElem?_getD, List.getElem?_eq_getElem hi]; rfl)⟩
theorem U64At.one {w : World} {k : Nat} {x : Int} (h : Own w k [.int .u64 x]) : U64At w (some ⟨k, 0, none⟩) 1 [x] :=
 ⟨rfl, (show 1 ≤ maxLen by decide), k, 0, fun _ => ⟨rfl, h.1⟩, fun i hi => by
  obtain rfl : i = 0 := by omega
  exact h.2.1 0 _ rfl⟩
theorem take_ext {l1 l2 : List Int} {k : Nat} (h : l1.take k = l2.take k) (h1 : k < l1.length) (h2 : k < l2.length) (he : l1.getD k 0 = l2.getD k 0) : l1.take (k + 1) = l2.take (k + 1) := by
 rw [List.take_add_one, List.take_add_one, h];rw [List.getD_eq_getElem?_getD, List.getD_eq_getElem?_getD, List.getElem?_eq_getElem h1, List.getElem?_eq_getElem h2] at he;rw [List.getElem?_eq_getElem h1, List.getElem?_eq_getElem h2];have : l1[k] = l2[k] := he;rw [this]
theorem tsame_any (a1 a2 : Option Addr) (n1 n2 c1 c2 : Nat) (l1 l2 : List Int) (w : World) (h1 : U64At w a1 n1 l1) (h2 : U64At w a2 n2 l2) :
 Calls Tryd.prog 17 #[.slice a1 n1 c1, .slice a2 n2 c2] w fun e w' => e = .returned (.bool (decide (l1 = l2))) ∧ Below w.heap.size w w' := by
 obtain ⟨R, hR⟩ : ∃ q, decide (l1 = l2) = q := ⟨_, rfl⟩
 rw [hR];have HR := Lib.hid hR; clear hR;have H1 := Lib.hid h1; have H2 := Lib.hid h2;obtain ⟨e1, m1, -⟩ := h1;obtain ⟨e2, m2, -⟩ := h2;unfold maxLen at m1 m2;have E1 := Lib.hid e1; have E2 := Lib.hid e2;clear e1 e2;go_enter Tryd.func17, Tryd.ntmps17;by_cases hl : n1 = n2
 ·subst hl;have q : ((n1 : Int) != (n1 : Int)) = false := by simp
  go_wp2;go_loopw [5] (fun i wr => ∃ k : Nat, k ≤ n1 ∧ i = .int .i64 k ∧ Below w.heap.size w wr ∧ Hid (l1.take k = l2.take k)) (fun i _ => n1 - (intOf i).toNat)
  case atStart => exact ⟨0, Nat.zero_le _, rfl, Below.refl _ _, Lib.hid rfl⟩
  case round =>
   obtain ⟨k, hk, rfl, hbel, HT⟩ := hrel;have hz := hbel.size;by_cases hlt : k < n1
   ·have d2 : (k : Int) < (n1 : Int) := by omega
    obtain ⟨-, -, b1, o1, x1, y1⟩ := H1.out.below hbel;obtain ⟨-, -, b2, o2, x2, y2⟩ := H2.out.below hbel;obtain ⟨rfl, z1⟩ := x1 (by omega);obtain ⟨rfl, z2⟩ := x2 (by omega);have r1 := y1 k hlt;have r2 := y2 k hlt;clear x1 x2 y1 y2;have hwk : IntKind.i64.wrap ((k : Int) + 1) = (k : Int) + 1 := IntWalk.i64_in _ (by omega);have hx : Hid (l1.getD k 0 = l2.getD k 0 → l1.take (k + 1) = l2.take (k + 1)) := Lib.hid (fun h => take_ext HT.out (by rw [E1.out]; exact hlt) (by rw [E2.out]; exact hlt) h);have hy : Hid (l1.getD k 0 ≠ l2.getD k 0 → R = false) := Lib.hid (fun h => by
     rw [← HR.out, decide_eq_false_iff_not];intro e; rw [e] at h; exact h rfl)
    generalize l1.getD k 0 = p1 at *;generalize l2.getD k 0 = p2 at *;by_cases hp : p1 = p2
    ·subst hp;have q2 : (p1 != p1) = false := by simp
     go_wp2;refine wp_still 8 (by kernel_rfl) (by kernel_rfl) ?_; simp only [List.take_succ_cons, List.take_zero, List.drop_succ_cons, List.drop_zero]; repeat (refine WS_step (fun K hK => ?_); go_simp; refine hK _ ?_; clear hK K)
     refine WS_nil ?_; go_wp2;refine ⟨⟨k + 1, by omega, by simp, bel, Lib.hid (by first | exact hx.out rfl | exact hx.out trivial)⟩, ?_⟩;go_light; first | omega | (simp only [intOf]; omega)
    ·have q2 : (p1 != p2) = true := by simpa using hp
     have hRf := hy.out hp;go_wp2;refine wp_still 8 (by kernel_rfl) (by kernel_rfl) ?_; simp only [List.take_succ_cons, List.take_zero, List.drop_succ_cons, List.drop_zero]; repeat (refine WS_step (fun K hK => ?_); go_simp; refine hK _ ?_; clear hK K)
     refine WS_nil ?_; go_wp2
     try rw [Exit.noGoto_ret]
     go_ret;exact ⟨by rw [hRf]; rfl, bel⟩
   ·have d2 : ¬ (k : Int) < (n1 : Int) := by omega
    obtain rfl : k = n1 := by omega
    have hRt : R = true := by
     rw [← HR.out, decide_eq_true_eq];have h := HT.out;rw [List.take_of_length_le (by rw [E1.out]; exact Nat.le_refl _), List.take_of_length_le (by rw [E2.out]; exact Nat.le_refl _)] at h;exact h
    go_wp2;go_ret;exact ⟨by first | (rw [hRt]; rfl) | rfl, bel⟩
 ·have q : ((n1 : Int) != (n2 : Int)) = true := by simp; omega
  have hRf : R = false := by
   rw [← HR.out, decide_eq_false_iff_not];intro e;exact hl (by rw [← E1.out, ← E2.out, e])
  go_wp2
  try rw [Exit.noGoto_ret]
  go_ret;exact ⟨by rw [hRf]; rfl, Below.refl _ _⟩
def cntC (lo hi : Int) : List Value := [.int .i64 1, .int .i64 0, .int .i64 0, .int .i64 0, .int .i64 lo, .int .i64 1, .int .i64 1, .int .i64 0, .int .i64 0, .int .i64 hi, .int .i64 17, .int .i64 0, .int .i64 1, .int .i64 0, .int .i64 4, .int .i64 18, .int .i64 0, .int .i64 0, .int .i64 0, .int .i64 2, .int .i64 0, .int .i64 0, .int .i64 0, .int .i64 0, .int .i64 0]
theorem cnt_at {W : World} {B cb fb : Nat} {lo hi : Int} (hlo : In64 lo) (hhi : In64 hi) (o1 : Own W cb (cntC lo hi)) (o2 : Own W fb [.string ⟨#[102]⟩, .slice none 0 0, .int .i64 2, .int .i64 0, .slice (some ⟨cb, 0, none⟩) 5 5]) (h1 : cb < B) (h2 : fb < B) :
 ModAt B W (.agg #[.slice none 0 0, .slice (some ⟨fb, 0, none⟩) 1 1]) (cntM ⟨#[102]⟩ lo hi) := by
 obtain ⟨_, f0, f1, f2, f3, f4, _⟩ := own5 o2;refine ⟨_, _, _, _, _, _, rfl, ⟨rfl, by decide, 0, 0, fun h => absurd h (by decide), fun i h => absurd h (Nat.not_lt_zero i)⟩, rfl, by decide, fb, 0, fun _ => ⟨rfl, h2⟩, fun _ => ⟨none, 0, 0, some ⟨cb, 0, none⟩, 5, 5⟩, fun i hi => ?_⟩;obtain rfl : i = 0 := by omega
 refine ⟨⟨f0, f1, f2, f3, f4⟩, (show 1 ≤ maxLen by decide), ⟨rfl, Nat.zero_le _, 0, 0, fun h => absurd h (Nat.lt_irrefl 0), fun i h => absurd h (Nat.not_lt_zero i)⟩, ⟨rfl, (by decide : 5 ≤ maxLen), cb, 0, fun _ => ⟨rfl, h1⟩, fun j hj => ?_⟩, (show In64 2 from ⟨by decide, by decide⟩), (show In64 0 from ⟨by decide, by decide⟩)⟩;have hj : j < 5 := hj;have c := o1.2.1;rcases (show j = 0 ∨ j = 1 ∨ j = 2 ∨ j = 3 ∨ j = 4 by omega) with rfl | rfl | rfl | rfl | rfl
 ·exact ⟨⟨c 0 _ rfl, c 1 _ rfl, c 2 _ rfl, c 3 _ rfl, c 4 _ rfl⟩, (show In64 1 from ⟨by decide, by decide⟩), (show In64 0 from ⟨by decide, by decide⟩), (show In64 0 from ⟨by decide, by decide⟩), (show In64 0 from ⟨by decide, by decide⟩), hlo⟩
 ·exact ⟨⟨c 5 _ rfl, c 6 _ rfl, c 7 _ rfl, c 8 _ rfl, c 9 _ rfl⟩, (show In64 1 from ⟨by decide, by decide⟩), (show In64 1 from ⟨by decide, by decide⟩), (show In64 0 from ⟨by decide, by decide⟩), (show In64 0 from ⟨by decide, by decide⟩), hhi⟩
 ·exact ⟨⟨c 10 _ rfl, c 11 _ rfl, c 12 _ rfl, c 13 _ rfl, c 14 _ rfl⟩, (show In64 17 from ⟨by decide, by decide⟩), (show In64 0 from ⟨by decide, by decide⟩), (show In64 1 from ⟨by decide, by decide⟩), (show In64 0 from ⟨by decide, by decide⟩), (show In64 4 from ⟨by decide, by decide⟩)⟩
 ·exact ⟨⟨c 15 _ rfl, c 16 _ rfl, c 17 _ rfl, c 18 _ rfl, c 19 _ rfl⟩, (show In64 18 from ⟨by decide, by decide⟩), (show In64 0 from ⟨by decide, by decide⟩), (show In64 0 from ⟨by decide, by decide⟩), (show In64 0 from ⟨by decide, by decide⟩), (show In64 2 from ⟨by decide, by decide⟩)⟩
 ·exact ⟨⟨c 20 _ rfl, c 21 _ rfl, c 22 _ rfl, c 23 _ rfl, c 24 _ rfl⟩, (show In64 0 from ⟨by decide, by decide⟩), (show In64 0 from ⟨by decide, by decide⟩), (show In64 0 from ⟨by decide, by decide⟩), (show In64 0 from ⟨by decide, by decide⟩), (show In64 0 from ⟨by decide, by decide⟩)⟩
theorem counting_any (lo hi : Int) (hlo : In64 lo) (hhi : In64 hi) (w : World) : Calls Tryd.prog 5 #[.int .i64 lo, .int .i64 hi] w fun e w' => ∃ fb, e = .returned (.agg #[.slice none 0 0, .slice (some ⟨fb, 0, none⟩) 1 1]) ∧ ModAt w'.heap.size w' (.agg #[.slice none 0 0, .slice (some ⟨fb, 0, none⟩) 1 1]) (cntM ⟨#[102]⟩ lo hi) ∧ Below w.heap.size w w' := by
 go_enter Tryd.func5, Tryd.ntmps5;go_wp2;generalize hW : World.alloc _ _ = W;have O0 : Own W w.heap.size [.slice none 0 0, .slice (some ⟨w.heap.size + 1 + 1, 0, none⟩) 1 1] := by rw [← hW]; exact ((Own.new _ _ _).alloc _).alloc _
 have O1 : Own W (w.heap.size + 1) (cntC lo hi) := by rw [← hW]; exact (Own.new' _ (cntC lo hi) _ _ (by simp)).alloc _
 have O2 : Own W (w.heap.size + 1 + 1) [.string ⟨#[102]⟩, .slice none 0 0, .int .i64 2, .int .i64 0, .slice (some ⟨w.heap.size + 1, 0, none⟩) 5 5] := by rw [← hW]; exact Own.new' _ _ _ _ (by simp)
 have hb : Below w.heap.size w W := by rw [← hW]; exact bel
 have c2 := own2 O0;clear hW;refine bodyPost_ret (v := .agg #[.slice none 0 0, .slice (some ⟨w.heap.size + 1 + 1, 0, none⟩) 1 1]) (by simp [results, Tryd.results5, go_sem, c2]) rfl ?_;exact ⟨w.heap.size + 1 + 1, rfl, cnt_at hlo hhi O1 O2 O1.1 O2.1, hb⟩
theorem cnt_may (lo hi : Int) : (mayP (cntM ⟨#[102]⟩ lo hi)).e = 0 := by kernel_rfl
/-- trips.Of of a counting function -/
theorem cnt_of (lo hi : Int) (hlo : In64 lo) (hhi : In64 hi) (fb : Nat) (w : World) (hm : ModAt w.heap.size w (.agg #[.slice none 0 0, .slice (some ⟨fb, 0, none⟩) 1 1]) (cntM ⟨#[102]⟩ lo hi)) (hr : RowsAt w) :
 Calls Tryd.prog 4 #[.agg #[.slice none 0 0, .slice (some ⟨fb, 0, none⟩) 1 1], .int .i64 0] w fun e w' => ∃ a c, e = .returned (.tuple #[.slice a 1 c, .int .i64 0]) ∧ U64At w' a 1 [lengthP ⟨lo, lo⟩ ⟨hi, hi⟩] ∧ Below w.heap.size w w' := by
 have h := trips_ok w.heap.size (cntM ⟨#[102]⟩ lo hi) 0 none (some ⟨fb, 0, none⟩) 0 0 1 1 w (Nat.le_refl _) hr.1 hm hr (cnt_may lo hi) (by show 0 < 1; decide);refine h.mono ?_;rintro e w' ⟨s, v, hruns, rfl, hrow, hb⟩;have ht := cnt_trips ⟨#[102]⟩ lo hi s hruns;have hf : fnAt (cntM ⟨#[102]⟩ lo hi) 0 = cntF ⟨#[102]⟩ lo hi := rfl;rw [hf, ht] at hrow;obtain ⟨a, c, rfl, hu⟩ := U64At.ofRow hrow (show 1 ≤ maxLen by decide);exact ⟨a, c, by rw [hf, ht]; rfl, hu, hb⟩
theorem fixed17_any (w : World) (hr : RowsAt w) : Calls Tryd.prog 6 #[] w fun e w' => e = .returned (.bool true) ∧ Below w.heap.size w w' := by
 have i0 : In64 0 := ⟨by decide, by decide⟩
 have i1 : In64 1 := ⟨by decide, by decide⟩
 have i10 : In64 10 := ⟨by decide, by decide⟩
 have i4 : In64 (-4) := ⟨by decide, by decide⟩
 have HC1 := Lib.hid (counting_any 0 10 i0 i10);have HC2 := Lib.hid (counting_any 0 (-4) i0 i4);have HC3 := Lib.hid (counting_any 0 1 i0 i1);have HO1 := Lib.hid (cnt_of 0 10 i0 i10);have HO2 := Lib.hid (cnt_of 0 (-4) i0 i4);have HO3 : Hid (∀ fb (w : World), ModAt w.heap.size w (.agg #[.slice none 0 0, .slice (some ⟨fb, 0, none⟩) 1 1]) (cntM ⟨#[102]⟩ 0 1) → RowsAt w → Calls Tryd.prog 4 #[.agg #[.slice none 0 0, .slice (some ⟨fb, 0, none⟩) 1 1], .int .i64 1] w fun e w' => e = .returned (.tuple #[.slice none 0 0, .int .i64 1]) ∧ Below w.heap.size w w') := Lib.hid (fun fb w hm hr => trips_arg w.heap.size (cntM ⟨#[102]⟩ 0 1) 1 none (some ⟨fb, 0, none⟩) 0 0 1 1 w (Nat.le_refl _) hr.1 hm hr (cnt_may 0 1) (.inr (by decide)));have e10 : lengthP ⟨0, 0⟩ ⟨10, 10⟩ = 10 := by decide
 have e4 : lengthP ⟨0, 0⟩ ⟨-4, -4⟩ = 0 := by decide
 rw [e10] at HO1;rw [e4] at HO2;clear i0 i1 i10 i4 e10 e4;have HR := Lib.hid hr;clear hr;go_enter Tryd.func6, Tryd.ntmps6;go_upto_region 2 with (first | (go_at_call 5; refine (HC1.out _).mono ?_; rintro e w1 ⟨fb1, rfl, hm1, hb1⟩; have r1 := HR.out.same (Same.of hb1 (Nat.le_refl _)) HR.out.1 hb1.size; have HO := Lib.hid (HO1.out fb1 w1 hm1 r1); have HR1 := Lib.hid r1; clear hm1 r1 HC1 HO1) | (go_at_call 4; refine HO.out.mono ?_; rintro e w2 ⟨a1, c1, rfl, hu1, hb2⟩; have hb12 := hb1.trans (hb2.mono hb1.size); have HU1 := Lib.hid hu1; clear hu1 HO hb1 hb2 HR1) | fail)
 have HR2 := Lib.hid (HR.out.same (Same.of hb12 (Nat.le_refl _)) HR.out.1 hb12.size);go_upto_region 3 with (first | (go_at_call 5; refine (HC2.out _).mono ?_; rintro e w3 ⟨fb2, rfl, hm3, hb3⟩; have r3 := HR2.out.same (Same.of hb3 (Nat.le_refl _)) HR2.out.1 hb3.size; have HO := Lib.hid (HO2.out fb2 w3 hm3 r3); have HR3 := Lib.hid r3; clear hm3 r3 HC2 HO2) | (go_at_call 4; refine HO.out.mono ?_; rintro e w4 ⟨a2, c2, rfl, hu2, hb4⟩; have hb34 := hb3.trans (hb4.mono hb3.size); have HU2 := Lib.hid hu2; have HU1b := Lib.hid (HU1.out.below hb34); clear hu2 HO hb3 hb4 HU1) | fail)
 have HR4 := Lib.hid (HR2.out.same (Same.of hb34 (Nat.le_refl _)) HR2.out.1 hb34.size);go_upto_region 4 with (first | (go_at_call 5; refine (HC3.out _).mono ?_; rintro e w5 ⟨fb3, rfl, hm5, hb5⟩; have r5 := HR4.out.same (Same.of hb5 (Nat.le_refl _)) HR4.out.1 hb5.size; have HO := Lib.hid (HO3.out fb3 w5 hm5 r5); clear hm5 r5 HC3 HO3) | (go_at_call 4; refine HO.out.mono ?_; rintro e w6 ⟨rfl, hb6⟩; have hb56 := hb5.trans (hb6.mono hb5.size); clear HO hb5 hb6) | fail)
 have U1 := Lib.hid (HU1b.out.below hb56);have U2 := Lib.hid (HU2.out.below hb56);have hbw6 : Below w.heap.size w w6 := (hb12.trans (hb34.mono hb12.size)).trans (hb56.mono (by have := hb12.size; have := hb34.size; omega));clear hb12 hb34 hb56 HR2 HR3 HR4 HU1b HU2;go_wp2_with (first | (go_at_call 17; first | (refine (tsame_any a1 _ 1 1 c1 1 [10] [10] _ (U1.out.below ((Below.refl _ w6).alloc (Nat.le_refl _) _)) (U64At.one (Own.new _ _ _))).mono ?_; rintro e w7 ⟨rfl, hb7⟩; have hb67 : Below w6.heap.size w6 w7 := ((Below.refl _ w6).alloc (Nat.le_refl _) _).trans (hb7.mono (by simp)); clear U1) | (refine (tsame_any a2 _ 1 1 c2 1 [0] [0] _ ((U2.out.below hb67).below ((Below.refl _ w7).alloc (Nat.le_refl _) _)) (U64At.one (Own.new _ _ _))).mono ?_; rintro e w8 ⟨rfl, hb8⟩)) | fail)
 have hb78 : Below w7.heap.size w7 w8 := ((Below.refl _ w7).alloc (Nat.le_refl _) _).trans (hb8.mono (by simp));have hz1 := hbw6.size;have hz2 := hb67.size;go_ret;exact ⟨rfl, (hbw6.trans (hb67.mono hz1)).trans (hb78.mono (by omega))⟩
/-- the law -/
theorem count_any (lo hi : Int) (hlo : In64 lo) (hhi : In64 hi) (w : World) (hr : RowsAt w) : Calls Tryd.prog 3 #[.int .i64 lo, .int .i64 hi] w fun e w' => e = .returned (.bool true) ∧ Below w.heap.size w w' := by
 have HC1 := Lib.hid (counting_any lo hi hlo hhi);have HO1 := Lib.hid (cnt_of lo hi hlo hhi);have HF := Lib.hid (fixed17_any);have HR := Lib.hid hr;have HLO := Lib.hid hlo; have HHI := Lib.hid hhi;clear hr hlo hhi;go_enter Tryd.func3, Tryd.ntmps3;go_upto_region 2 with (first | (go_at_call 5; refine (HC1.out _).mono ?_; rintro e w1 ⟨fb1, rfl, hm1, hb1⟩; have r1 := HR.out.same (Same.of hb1 (Nat.le_refl _)) HR.out.1 hb1.size; have HO := Lib.hid (HO1.out fb1 w1 hm1 r1); clear hm1 r1 HC1 HO1) | (go_at_call 4; refine HO.out.mono ?_; rintro e w2 ⟨a1, c1, rfl, hu1, hb2⟩; have hb12 := hb1.trans (hb2.mono hb1.size); have HU1 := Lib.hid hu1; clear hu1 HO hb1 hb2) | fail)
 have HR2 := Lib.hid (HR.out.same (Same.of hb12 (Nat.le_refl _)) HR.out.1 hb12.size);by_cases hle : hi ≤ lo
 ·have hl : lengthP ⟨lo, lo⟩ ⟨hi, hi⟩ = 0 := by unfold lengthP; rw [if_pos hle]
  rw [hl] at HU1;go_wp2_with (first | (go_at_call 6; refine (HF.out _ HR2.out).mono ?_; rintro e w3 ⟨rfl, hb3⟩; obtain ⟨-, -, b, o, x, y⟩ := HU1.out.below hb3; obtain ⟨rfl, hbl⟩ := x (by omega); have y0 : w3.cell? ⟨b, o, none⟩ = some (.int .u64 0) := y 0 (by omega); have hb13 := hb12.trans (hb3.mono hb12.size); clear x y) | fail)
  try rw [Exit.noGoto_ret]
  go_ret;exact ⟨rfl, hb13⟩
 ·have hl : lengthP ⟨lo, lo⟩ ⟨hi, hi⟩ = IntKind.u64.wrap (IntKind.u64.wrap hi - IntKind.u64.wrap lo) := by unfold lengthP; rw [if_neg hle]
  rw [hl] at HU1;go_wp2_with (first | (go_at_call 6; refine (HF.out _ HR2.out).mono ?_; rintro e w3 ⟨rfl, hb3⟩; obtain ⟨-, -, b, o, x, y⟩ := HU1.out.below hb3; obtain ⟨rfl, hbl⟩ := x (by omega); have y0 : w3.cell? ⟨b, o, none⟩ = some (.int .u64 (IntKind.u64.wrap (IntKind.u64.wrap hi - IntKind.u64.wrap lo))) := y 0 (by omega); have hb13 := hb12.trans (hb3.mono hb12.size); clear x y) | fail)
  try rw [Exit.noGoto_ret]
  go_ret;exact ⟨rfl, hb13⟩
end Go.Proofs.YteebpnbdihcfmaaDoor
