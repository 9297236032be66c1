import Derived.Test.YtgpdggjpbmgegaaDoorEngG
import Derived.Deep.OwnRows
import Derived.Laws.CopyOwn
namespace Go.Proofs.YtgpdggjpbmgegaaDoor
open Go.RowKit
set_option linter.unusedVariables false
set_option linter.unusedSimpArgs false


theorem Tryd.info64 : (Tryd.prog.info? 2).map (fun i => (i.zero, i.size, i.bytes)) = some (some (.int .i64 0), 1, 8) := by kernel_rfl
theorem madeCells_zero (n : Nat) : madeCells #[.int .i64 0] n = (Nums (List.replicate n 0)).toArray := by
  apply Array.ext
  · simp [madeCells, Nums]
  · intro i h1 h2
    simp [madeCells, Nums, Nat.mod_one]
theorem Own.made (w : World) (n : Nat) (t : TypeId) (k : Nat) (hk : k = w.heap.size) : Own (w.alloc (.cells (madeCells #[.int .i64 0] n) t)) k (Nums (List.replicate n 0)) := by
  subst hk; rw [madeCells_zero]; exact Own.new _ _ _

theorem Own.ofHeap {w : World} {k : Nat} {c : List Value} {t : TypeId} (h : w.heap[k]? = some (.cells c.toArray t (0, 0))) : Own w k c := by
  refine ⟨(Array.getElem?_eq_some_iff.1 h).1, fun i v hv => ?_, fun i => ?_⟩
  · simp [World.cell?, h, hv]
  · simp [World.frozen?, h]
theorem heap_made (w : World) (n : Nat) (t : TypeId) (k : Nat) (hk : k = w.heap.size) : (w.alloc (.cells (madeCells #[.int .i64 0] n) t)).heap[k]? = some (.cells (Nums (List.replicate n 0)).toArray t (0, 0)) := by
  subst hk; rw [madeCells_zero]; exact heap_alloc_new w _
theorem heap_keep {w : World} {k : Nat} {x : Obj} (h : w.heap[k]? = some x) (o : Obj) : (w.alloc o).heap[k]? = some x := by
  rw [heap_alloc_old w o (Array.getElem?_eq_some_iff.1 h).1]; exact h
theorem Tryd.one64 : (Tryd.prog.info? 2).map (·.size) = some 1 := by kernel_rfl
theorem Tryd.infoF : (Tryd.prog.info? 117).map (fun i => (i.zero, i.size, i.bytes)) = some (some (.pointer none), 1, 8) := by kernel_rfl
theorem rowChg {S : Nat → Prop} {w w' : World} (c : Chg S w w') {e size n : Nat} {v : Value} {xs : List Value} (h : w.ownsRow 0 e size v n xs) (hv : ∀ k, v.ownBlock = some k → ¬ S k) : w'.ownsRow 0 e size v n xs := by
  obtain ⟨h1, h2⟩ := h
  refine ⟨h1, ?_⟩
  rcases h2 with h0 | ⟨g', cap', cur, rfl, hb, hh, rest⟩
  · exact .inl h0
  · exact .inr ⟨g', cap', cur, rfl, hb, by rw [c.block g' (Array.getElem?_eq_some_iff.1 hh).1 (hv g' rfl)]; exact hh, rest⟩
theorem chg_grown {w w' : World} {row : Option Nat} (h : w.grownBy w' row) : Chg (fun k => row = some k) w w' := ⟨h.os, h.tape, h.output, h.size, fun k hk hn => h.block k hk (fun e => hn e.symm)⟩
theorem Chg.trans2 {S T : Nat → Prop} {a b c : World} (h : Chg S a b) (k : Chg T b c) (hT : ∀ x, x < a.heap.size → T x → S x) : Chg S a c :=
  ⟨k.os.trans h.os, k.tape.trans h.tape, k.output.trans h.output, Nat.le_trans h.size k.size, fun i hi hs => (k.block i (Nat.lt_of_lt_of_le hi h.size) (fun e => hs (hT i hi e))).trans (h.block i hi hs)⟩
theorem Nums_one (l : List Int) : ∀ v ∈ Nums l, v.oneCell' = true := by
  intro v hv; obtain ⟨n, _, rfl⟩ := List.mem_map.1 hv; rfl
theorem wpList_copy2 {P : Program} {w : World} {ops : Array Oper} {rest : List Oper} {o : Oper} {a : Act} {Q : Exit → Act → World → Prop} (hgd : o.guard = none) (d s : Operand) (dT sT : TypeId)
    (ho : o.op = .call { callee := .builtin .copy, args := #[d, s], argTypes := #[dT, sT] }) (elem : TypeId) (hu : P.underlying dT = some (.slice elem)) (hsz : (P.info? elem).map (·.size) = some 1)
    (dp sp : Option Addr) (dLen dCap sLen sCap : Nat) (hd : a.eval d = .slice dp dLen dCap) (hs : a.eval s = .slice sp sLen sCap)
    (g off : Nat) (cur : List Value) (t : TypeId) (hg : w.heap[g]? = some (.cells cur.toArray t (0, 0))) (cs : List Value) (hn : cs.length = Nat.min sLen dLen)
    (hpos : 0 < cs.length → dp = some ⟨g, off, none⟩ ∧ ∃ ad, sp = some ad ∧ ∀ j v, cs[j]? = some v → w.cell? (ad.add j) = some v)
    (hfit : off + cs.length ≤ cur.length) (h1 : ∀ v ∈ cs, v.oneCell' = true)
    (h : ∀ w', Hid (w'.heap[g]? = some (.cells (splice cur off cs).toArray t (0, 0))) → Chg (· = g) w w' → wpList P ops Q rest (a.put o.dst (goInt cs.length)) w') :
    wpList P ops Q (o :: rest) a w := by
  by_cases h0 : cs.length = 0
  · obtain rfl : cs = [] := List.eq_nil_of_length_eq_zero h0
    refine wpList_copy_nothing hgd d s dT sT ho elem hu hsz dp sp dLen dCap sLen sCap hd hs (by simpa using hn.symm) ?_
    exact h w (show _ = _ by simpa [splice] using hg) (Chg.refl _ _)
  · obtain ⟨rfl, ad, rfl, hsrc⟩ := hpos (by omega)
    refine wpList_copy_own hgd d s dT sT ho elem hu hsz g off dLen dCap ad sLen sCap hd hs cur.toArray t hg cs hn hsrc (by simpa using hfit) h1 ?_
    exact h _ (show _ = _ by simpa [splice] using setRow_heap w g _ _ t _ hg) ⟨rfl, rfl, rfl, by simp [World.setRow], fun k hk hne => setRow_other w g k _ (fun e => hne e)⟩

theorem enter_close {α : Type} {u : α} (gb go eb fb rb wb sb cap n R W : Nat) (w wc w1 W3 W5 : World) (xs : List Int) (into E V S mf mw lim use M X : Int) (mp fv dv : Value) (ov : Bool) (ex ps : List Value)
    (hX : X = max mw (use + ((R : Int) + W))) (hM : M = max mf ((n : Int) + 1)) (k3 : Chg (fun k => k = eb ∨ fv.ownBlock = some k) w W3) (k5 : Chg (· = eb) W3 W5)
    (hE5 : Own W5 eb (engC E V S M mw lim mp (.slice (some ⟨sb, 0, none⟩) (n + 1) cap) (use + ((R : Int) + W)) ov dv ++ ex))
    (hR3 : W3.ownsRow 0 117 1 (.slice (some ⟨sb, 0, none⟩) (n + 1) cap) (n + 1) (ps ++ [.pointer (some ⟨fb, 0, none⟩)]))
    (hsb : fv.ownBlock = some sb ∨ w1.heap.size ≤ sb) (hlt : ∀ k, fv.ownBlock = some k → k < w.heap.size) (hsz : w.heap.size ≤ w1.heap.size) (hfv : fv.ownBlock ≠ some eb) (heb : eb < w.heap.size)
    (n1 : w.heap.size ≤ fb) (n2 : w.heap.size ≤ rb) (n3 : w.heap.size ≤ wb) (n4 : fb ≠ rb) (n5 : fb ≠ wb) (n6 : rb ≠ wb) (l1 : fb < w1.heap.size) (l2 : rb < w1.heap.size) (l3 : wb < w1.heap.size)
    (of3 : Own W3 fb [.pointer (some ⟨gb, go, none⟩), .int .i64 0, .int .i64 into, .slice (some ⟨rb, 0, none⟩) R R, .slice (some ⟨wb, 0, none⟩) W W])
    (or3 : Own W3 rb (Nums (xs ++ (List.replicate R 0).drop xs.length))) (ow3 : Own W3 wb (Nums (List.replicate W 0))) :
    (u = u) ∧ Chg (fun k => k = eb ∨ fv.ownBlock = some k) w (W5.setCell ⟨eb, 4, none⟩ (.int .i64 X)).drew ∧ ∃ fb rb wb sb cap : Nat,
      Own (W5.setCell ⟨eb, 4, none⟩ (.int .i64 X)).drew eb (engC E V S (max mf ((n : Int) + 1)) (max mw (use + ((R : Int) + W))) lim mp (.slice (some ⟨sb, 0, none⟩) (n + 1) cap) (use + ((R : Int) + W)) ov dv ++ ex) ∧
      (W5.setCell ⟨eb, 4, none⟩ (.int .i64 X)).drew.ownsRow 0 117 1 (.slice (some ⟨sb, 0, none⟩) (n + 1) cap) (n + 1) (ps ++ [.pointer (some ⟨fb, 0, none⟩)]) ∧ (fv.ownBlock = some sb ∨ w.heap.size ≤ sb) ∧
      w.heap.size ≤ fb ∧ w.heap.size ≤ rb ∧ w.heap.size ≤ wb ∧ fb ≠ rb ∧ fb ≠ wb ∧ rb ≠ wb ∧ sb ≠ fb ∧ sb ≠ rb ∧ sb ≠ wb ∧
      Own (W5.setCell ⟨eb, 4, none⟩ (.int .i64 X)).drew fb [.pointer (some ⟨gb, go, none⟩), .int .i64 0, .int .i64 into, .slice (some ⟨rb, 0, none⟩) R R, .slice (some ⟨wb, 0, none⟩) W W] ∧ Own (W5.setCell ⟨eb, 4, none⟩ (.int .i64 X)).drew rb (Nums (xs ++ List.replicate (R - xs.length) 0)) ∧ Own (W5.setCell ⟨eb, 4, none⟩ (.int .i64 X)).drew wb (Nums (List.replicate W 0)) := by
  have s1 : sb ≠ eb := by rcases hsb with h | h
                          · intro e; subst e; exact hfv h
                          · omega
  have hs : ∀ x, x < w1.heap.size → w.heap.size ≤ x → sb ≠ x := by
    intro x h1 h2
    rcases hsb with h | h
    · have := hlt _ h; omega
    · omega
  have k6 : Chg (· = eb) W3 (W5.setCell ⟨eb, 4, none⟩ (.int .i64 X)).drew := (k5.setCell (p := ⟨eb, 4, none⟩) (.inl rfl) _).drew
  refine ⟨rfl, k3.trans2 k6 (fun x _ e => .inl e), fb, rb, wb, sb, cap, ?_, ownsRow_chg k6 hR3 (fun e => s1 (by simpa [Value.ownBlock] using e)), hsb.imp id (fun h => by omega), n1, n2, n3, n4, n5, n6, hs _ l1 n1, hs _ l2 n2, hs _ l3 n3, k6.own of3 (by show ¬ fb = eb; omega), (by simpa using k6.own or3 (by show ¬ rb = eb; omega)), k6.own ow3 (by show ¬ wb = eb; omega)⟩
  rw [← hX, ← hM]
  exact (hE5.set 4 (.int .i64 X) (by simp [engC])).drew

set_option maxRecDepth 100000 in
set_option maxHeartbeats 4000000 in
theorem enter_any {B : Nat} (gb go : Nat) (hh : HF) (f : PFunc) (eb : Nat) (w : World) (hg : FuncCells w gb go hh f) (hgb : gb < w.heap.size)
    (aa : Option Addr) (al ac : Nat) (xs : List Int) (ha : NumsAt w.heap.size w aa al xs) (into : Int) (R W : Nat) (hR : f.regs = R) (hW : f.words = W) (hR2 : R ≤ 64) (hW2 : W ≤ 4096) (hal : al ≤ R)
    (E V S mf mw lim use : Int) (mp fv dv : Value) (ov : Bool) (ex : List Value) (n : Nat) (ps : List Value) (hE : Own w eb (engC E V S mf mw lim mp fv use ov dv ++ ex)) (hrow : w.ownsRow 0 117 1 fv n ps) (hfv : fv.ownBlock ≠ some eb) (hn : n ≤ 1099511627776) (hge : gb ≠ eb) (hfvl : ∀ k, fv.ownBlock = some k → k ≠ gb) (hu : -1099511627776 ≤ use ∧ use ≤ 1099511627776) :
    Calls Tryd.prog 38 #[ptrV eb, .pointer (some ⟨gb, go, none⟩), .int .i64 into, .slice aa al ac] w fun e w' => ∃ fb rb wb sb cap : Nat, e = .returned (.tuple #[]) ∧ Chg (fun k => k = eb ∨ fv.ownBlock = some k) w w' ∧
      Own w' eb (engC E V S (max mf ((n : Int) + 1)) (max mw (use + ((R : Int) + W))) lim mp (.slice (some ⟨sb, 0, none⟩) (n + 1) cap) (use + ((R : Int) + W)) ov dv ++ ex) ∧
      w'.ownsRow 0 117 1 (.slice (some ⟨sb, 0, none⟩) (n + 1) cap) (n + 1) (ps ++ [ptrV fb]) ∧ (fv.ownBlock = some sb ∨ w.heap.size ≤ sb) ∧
      w.heap.size ≤ fb ∧ w.heap.size ≤ rb ∧ w.heap.size ≤ wb ∧ fb ≠ rb ∧ fb ≠ wb ∧ rb ≠ wb ∧ sb ≠ fb ∧ sb ≠ rb ∧ sb ≠ wb ∧
      Own w' fb [.pointer (some ⟨gb, go, none⟩), .int .i64 0, .int .i64 into, .slice (some ⟨rb, 0, none⟩) R R, .slice (some ⟨wb, 0, none⟩) W W] ∧ Own w' rb (Nums (xs ++ (List.replicate R 0).drop xs.length)) ∧ Own w' wb (Nums (List.replicate W 0)) := by
  obtain ⟨g0, g1, g2, g3, g4⟩ := hg
  rw [hR] at g2
  rw [hW] at g3
  have hmr := run_make_row' (P := Tryd.prog) 23 2 (.int .i64 0) 8 Tryd.underlying23 Tryd.info64 rfl .i64 .i64 R (by omega) (by omega)
  have hmw := run_make_row' (P := Tryd.prog) 23 2 (.int .i64 0) 8 Tryd.underlying23 Tryd.info64 rfl .i64 .i64 W (by omega) (by omega)
  clear hR hW
  unfold ptrV
  go_enter Tryd.func38, Tryd.ntmps38
  go_upto_region 0 with (fail)
  go_cut [8] (fun v wx => ∃ fb rb wb : Nat, v = .pointer (some ⟨fb, 0, none⟩) ∧ Below w.heap.size w wx ∧ w.heap.size ≤ fb ∧ w.heap.size ≤ rb ∧ w.heap.size ≤ wb ∧ fb ≠ rb ∧ fb ≠ wb ∧ rb ≠ wb ∧
    Own wx fb [.pointer (some ⟨gb, go, none⟩), .int .i64 0, .int .i64 into, .slice (some ⟨rb, 0, none⟩) R R, .slice (some ⟨wb, 0, none⟩) W W] ∧ Hid (wx.heap[rb]? = some (.cells (Nums (List.replicate R 0)).toArray 2 (0, 0))) ∧ Own wx wb (Nums (List.replicate W 0)))
  case first =>
    go_region
    · go_wp2_with fail
      go_meet
      case rel =>
        refine ⟨w.heap.size + 1 + 1, w.heap.size, w.heap.size + 1, rfl, (by repeat (first | with_reducible exact Below.refl _ _ | with_reducible assumption | with_reducible refine Below.drew ?_ | with_reducible refine Below.drewN ?_ _ | with_reducible refine Below.alloc ?_ (by first | omega | (simp <;> omega) | (simp at * <;> omega)) _ | with_reducible refine Below.setCell ?_ (by first | omega | (simp <;> omega) | (simp at * <;> omega)) _ | (with_reducible refine Below.trans ?_ (Below.mono (by first | with_reducible assumption | exact hF _) (by first | omega | (simp <;> omega) | (simp at * <;> omega)))))), (by first | omega | (simp <;> omega) | (simp at * <;> omega)), (by first | omega | (simp <;> omega) | (simp at * <;> omega)), (by first | omega | (simp <;> omega) | (simp at * <;> omega)), (by first | omega | (simp <;> omega) | (simp at * <;> omega)), (by first | omega | (simp <;> omega) | (simp at * <;> omega)), (by first | omega | (simp <;> omega) | (simp at * <;> omega)), ?_, ?_, ?_⟩
        · exact (Own.new' _ _ _ _ (by simp)).drew
        · exact heap_keep (heap_keep (heap_made w R _ _ rfl) _) _
        · exact ((Own.made _ _ _ _ (by simp)).alloc _).drew
    · go_wp2_with fail
      go_meet
      case rel =>
        refine ⟨w.heap.size + 1 + 1, w.heap.size + 1, w.heap.size, rfl, (by repeat (first | with_reducible exact Below.refl _ _ | with_reducible assumption | with_reducible refine Below.drew ?_ | with_reducible refine Below.drewN ?_ _ | with_reducible refine Below.alloc ?_ (by first | omega | (simp <;> omega) | (simp at * <;> omega)) _ | with_reducible refine Below.setCell ?_ (by first | omega | (simp <;> omega) | (simp at * <;> omega)) _ | (with_reducible refine Below.trans ?_ (Below.mono (by first | with_reducible assumption | exact hF _) (by first | omega | (simp <;> omega) | (simp at * <;> omega)))))), (by first | omega | (simp <;> omega) | (simp at * <;> omega)), (by first | omega | (simp <;> omega) | (simp at * <;> omega)), (by first | omega | (simp <;> omega) | (simp at * <;> omega)), (by first | omega | (simp <;> omega) | (simp at * <;> omega)), (by first | omega | (simp <;> omega) | (simp at * <;> omega)), (by first | omega | (simp <;> omega) | (simp at * <;> omega)), ?_, ?_, ?_⟩
        · exact (Own.new' _ _ _ _ (by simp)).drew
        · exact heap_keep (heap_made _ R _ _ (by simp)) _
        · exact (((Own.made _ _ _ _ rfl).alloc _).alloc _).drew
  case rest =>
    obtain ⟨fb, rb, wb, rfl, hbel, n1, n2, n3, n4, n5, n6, of, orr, ow⟩ := hcut
    have f5 := own5 of
    obtain ⟨hxl, hxm, ab, ao, haa, hxs⟩ := ha
    subst hxl
    have hcc := (bcell hbel).1
    go_wp2_with (with_reducible refine wpList_copy2 rfl (.tmp 26) (.tmp 27) 23 23 rfl 2 Tryd.underlying23 Tryd.one64 _ _ _ _ _ _ rfl rfl rb 0 (Nums (List.replicate R 0)) 2 orr.out (Nums xs) ?c1 ?c2 ?c3 (Nums_one _) ?_)
    case c1 => rw [show Nat.min xs.length R = xs.length from Nat.min_eq_left hal]; simp [Nums]
    case c2 =>
      intro hpos
      obtain ⟨h1, h2⟩ := haa (by simpa [Nums] using hpos)
      refine ⟨⟨ab, ao, none⟩, h1, ?_⟩
      intro j v hv
      have hjl : j < xs.length := by have := (List.getElem?_eq_some_iff.1 hv).1; simpa [Nums] using this
      have e : (⟨ab, ao, none⟩ : Addr).add j = ⟨ab, ao + j, none⟩ := by unfold Addr.add; split <;> simp_all
      rw [e, hcc _ _ h2, (hxs j hjl).1]
      simp [Nums, hjl] at hv
      simp [List.getD_eq_getElem?_getD, hjl, hv]
    case c3 => simp [Nums]; omega
    intro w1 hw1 hch
    have hsp : splice (Nums (List.replicate R 0)) 0 (Nums xs) = Nums (xs ++ (List.replicate R 0).drop xs.length) := by simp [splice, Nums]
    rw [hsp] at hw1
    have of1 := hch.own of n4
    have ow1 := hch.own ow (Ne.symm n6)
    have hE1 := hch.own (hE.below hbel) (by have := hE.1; omega)
    have hlt : ∀ k, fv.ownBlock = some k → k < w.heap.size := fun k hk => (hrow.lt k hk).2
    have hrow1 := rowChg hch (rowChg (S := fun _ => False) (Chg.of hbel) hrow (fun _ _ h => h)) (fun k hk => by have := hlt k hk; omega)
    have hcg : Chg (fun k => k = rb) w w1 := (Chg.of hbel).trans hch
    have f7 := hE1.2.1 7 _ rfl
    have fg := hE1.2.2 7
    have hebl := hE1.1
    have hfbl := of1.1
    have hrbl : rb < w1.heap.size := (Own.ofHeap hw1.out).1
    obtain ⟨i0, hi, hz0, hz1, hz2⟩ := info_parts Tryd.infoF
    have HE1 := Lib.hid hE1; clear hE1
    have HR := Lib.hid hrow1; clear hrow1
    have HO := Lib.hid of1; clear of1 f5
    go_wp2_with (at_builtin; refine wpList_append2 _ rfl (.tmp 33) (.tmp 35) 54 rfl 117 i0 (.pointer none) 1 8 Tryd.underlying54 hi hz0 hz1 hz2 rfl (by decide) fv n ps rfl (HR.out.alloc _) ⟨w1.heap.size, 0, none⟩ 1 1 [.pointer (some ⟨fb, 0, none⟩)] rfl rfl ?c1 ?c2 ?c3 ?c4 ?_)
    case c1 => exact cell_one_new _ _ _
    case c2 => intro u hu; simp at hu; subst hu; rfl
    case c3 => unfold maxLen; omega
    case c4 => omega
    intro v2 w2 hown2 hgrow2 hfresh
    obtain ⟨sb, cap, rfl⟩ : ∃ sb cap, v2 = .slice (some ⟨sb, 0, none⟩) (n + 1) cap := by
      rcases hown2.2 with ⟨_, h0⟩ | ⟨g', cap', cur, hv, _⟩
      · omega
      · exact ⟨g', cap', hv⟩
    have c2 : Chg (fun k => fv.ownBlock = some k) w1 w2 := ((Chg.refl _ _).alloc _).trans (chg_grown hgrow2)
    have of2 := c2.own HO.out (fun e => by have := hlt _ e; omega)
    have ow2 := c2.own ow1 (fun e => by have := hlt _ e; omega)
    have or2 := c2.own (Own.ofHeap hw1.out) (fun e => by have := hlt _ e; omega)
    have hE2 := c2.own HE1.out hfv
    have hsb : fv.ownBlock = some sb ∨ w1.heap.size ≤ sb := by
      rcases hfresh with h | h
      · exact .inl (by rw [← h]; rfl)
      · right; have := h.1; simp [Value.ownBlock] at this; omega
    have hsz := hcg.size
    have f7 := hE2.2.1 7 _ rfl
    have f8 := hE2.2.1 8 _ rfl
    have f3 := hE2.2.1 3 _ rfl
    have f4 := hE2.2.1 4 _ rfl
    have ff := hE2.2.2
    have hebl2 := hE2.1
    have HE2 := Lib.hid hE2; clear hE2
    have HR2 := Lib.hid hown2; clear hown2
    have Hg := Lib.hid hgrow2; clear hgrow2
    have Hsb := Lib.hid hsb; clear hsb hfresh
    have Hlt := Lib.hid hlt; clear hlt
    clear fg
    have k2 : Chg (fun k => k = eb ∨ fv.ownBlock = some k) w w2 := ((Chg.of hbel).trans2 hch (fun x hx e => by omega)).trans2 c2 (fun x hx e => .inr e)
    go_wp2
    generalize hW3 : World.setCell w2 _ _ = W3
    have k3 : Chg (fun k => k = eb ∨ fv.ownBlock = some k) w W3 := by rw [← hW3]; exact k2.setCell (.inl (.inl rfl)) _
    have hE3 : Own W3 eb (engC E V S mf mw lim mp (.slice (some ⟨sb, 0, none⟩) (n + 1) cap) use ov dv ++ ex) := by rw [← hW3]; exact HE2.out.set 7 _ (by simp [engC])
    have neb : fb ≠ eb ∧ rb ≠ eb ∧ wb ≠ eb := by have := hE.1; omega
    have of3 := of2.setOther (p := ⟨eb, 7, none⟩) (.slice (some ⟨sb, 0, none⟩) (n + 1) cap) (by simpa using neb.1.symm)
    rw [hW3] at of3
    have or3 := or2.setOther (p := ⟨eb, 7, none⟩) (.slice (some ⟨sb, 0, none⟩) (n + 1) cap) (by simpa using neb.2.1.symm)
    rw [hW3] at or3
    have ow3 := ow2.setOther (p := ⟨eb, 7, none⟩) (.slice (some ⟨sb, 0, none⟩) (n + 1) cap) (by simpa using neb.2.2.symm)
    rw [hW3] at ow3
    have hR3 : W3.ownsRow 0 117 1 (.slice (some ⟨sb, 0, none⟩) (n + 1) cap) (n + 1) (ps ++ [.pointer (some ⟨fb, 0, none⟩)]) := by
      rw [← hW3]
      refine ownsRow_chg (S := (· = eb)) (show Chg (· = eb) w2 _ from (Chg.refl (· = eb) w2).setCell (.inl rfl) _) HR2.out (fun e => ?_)
      rcases Hsb.out with h | h
      · exact hfv (by rw [h, e])
      · have := hebl; omega
    have hgB := k3.block gb hgb (fun e => by rcases e with e | e; exact hge e; exact hfvl gb e rfl)
    have g2' : W3.cell? ⟨gb, go + 2, none⟩ = some (.int .i64 R) := by rw [World.cell?_of_block (w := w) hgB]; exact g2
    have g3' : W3.cell? ⟨gb, go + 3, none⟩ = some (.int .i64 W) := by rw [World.cell?_of_block (w := w) hgB]; exact g3
    clear hW3 f7 f8 f3 f4 ff
    have f7 := hE3.2.1 7 _ rfl
    have f8 := hE3.2.1 8 _ rfl
    have f3 := hE3.2.1 3 _ rfl
    have f4 := hE3.2.1 4 _ rfl
    have ff := hE3.2.2
    have hebl3 := hE3.1
    have hgb3 : gb < W3.heap.size := Nat.lt_of_lt_of_le hgb k3.size
    have HE3 := Lib.hid hE3; clear hE3
    have HR3 := Lib.hid hR3; clear hR3
    have hwa : IntKind.i64.wrap ((R : Int) + (W : Int)) = (R : Int) + (W : Int) := IntWalk.i64_in _ (by omega)
    have hwb : IntKind.i64.wrap (use + ((R : Int) + (W : Int))) = use + ((R : Int) + (W : Int)) := IntWalk.i64_in _ (by omega)
    have hgeb : ¬ gb = eb := hge
    go_wp2
    refine wp_still 16 (by kernel_rfl) (by kernel_rfl) ?_; simp only [List.take_succ_cons, List.take_zero, List.drop_succ_cons, List.drop_zero]; repeat (refine WS_step (fun K hK => ?_); go_simp; refine hK _ ?_; clear hK K)
    refine WS_nil ?_; go_wp2
    refine wp_still 15 (by kernel_rfl) (by kernel_rfl) ?_; simp only [List.take_succ_cons, List.take_zero, List.drop_succ_cons, List.drop_zero]; repeat (refine WS_step (fun K hK => ?_); go_simp; refine hK _ ?_; clear hK K)
    refine WS_nil ?_; go_wp2
    all_goals
      generalize hW5 : World.drew _ = W5
      have k5 : Chg (· = eb) W3 W5 := by rw [← hW5]; exact (by repeat (first | with_reducible exact Chg.refl _ _ | with_reducible assumption | with_reducible refine Chg.drew ?_ | with_reducible refine Chg.drewN ?_ _ | with_reducible refine Chg.alloc ?_ _ | with_reducible refine Chg.setCell ?_ (by first | with_reducible exact .inl rfl | exact .inl (.inl rfl) | exact .inl (.inr rfl) | exact .inr (by simp)) _ | (with_reducible refine Chg.trans ?_ (Chg.of (by first | with_reducible assumption | exact hF _)))))
      obtain ⟨M, hM, hE5⟩ : ∃ M, M = max mf ((n : Int) + 1) ∧ Own W5 eb (engC E V S M mw lim mp (.slice (some ⟨sb, 0, none⟩) (n + 1) cap) (use + ((R : Int) + W)) ov dv ++ ex) := by
        rw [← hW5]
        first
          | exact ⟨(n : Int) + 1, by go_light; omega, ((HE3.out.set 8 (.int .i64 (use + ((R : Int) + W))) (by simp [engC])).set 3 (.int .i64 ((n : Int) + 1)) (by simp [engC])).drew.drew⟩
          | exact ⟨mf, by go_light; omega, ((HE3.out.set 8 (.int .i64 (use + ((R : Int) + W))) (by simp [engC])).set 3 (.int .i64 mf) (by simp [engC])).drew.drew⟩
      clear hW5 f7 f8 f3 f4 ff
      have f8 := hE5.2.1 8 _ rfl
      have f4 := hE5.2.1 4 _ rfl
      have ff := hE5.2.2
      have hebl5 := hE5.1
      have HM := Lib.hid hM; clear hM
      have HE5 := Lib.hid hE5; clear hE5
      go_wp2
      refine wp_still 14 (by kernel_rfl) (by kernel_rfl) ?_; simp only [List.take_succ_cons, List.take_zero, List.drop_succ_cons, List.drop_zero]; repeat (refine WS_step (fun K hK => ?_); go_simp; refine hK _ ?_; clear hK K)
      refine WS_nil ?_; go_wp2
      all_goals
        go_end0
        refine enter_close gb go eb fb rb wb sb cap n R W w wc w1 W3 W5 xs into E V S mf mw lim use M _ mp fv dv ov ex ps ?hX HM.out k3 k5 HE5.out HR3.out Hsb.out Hlt.out ?hsz hfv hE.1 n1 n2 n3 n4 n5 n6 hfbl ?l2 ow1.1 of3 or3 ow3
        case hX => go_light; omega
        case hsz => omega
        case l2 => exact hrbl
end Go.Proofs.YtgpdggjpbmgegaaDoor
