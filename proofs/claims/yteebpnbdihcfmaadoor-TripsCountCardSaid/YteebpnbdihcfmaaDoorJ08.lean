/- Package flow: Edges hands back a function; where it stands in a range, the law of its rounds. Package dom: order, walked. What dom.Tree holds as it walks: ranks, nearest dominators, lists of predecessors. The memory that dom.Tree walks in. The graph of package loops in memory: three maps of own rows. The plain law of a search by a stack and a set. The plain law of loops.graph.round: one that nobody leads to is taken away after the other. -/
import Derived.Test.YteebpnbdihcfmaaDoorJ07
import Derived.Test.YteebpnbdihcfmaaDoorJ05
set_option linter.unusedVariables false
set_option linter.unusedSimpArgs false
set_option maxRecDepth 100000
set_option maxHeartbeats 20000000
namespace Go.Proofs.YteebpnbdihcfmaaDoor
open Go.RowKit
/-- what Edges keeps of its argument -/
def boxOf (w : World) (hh : HF) (f : PFunc) : World := w.alloc (.cells #[.string f.name, .slice hh.pa hh.pl hh.pc, .int .i64 f.regs, .int .i64 f.words, .slice hh.ca hh.cl hh.cc] 43)
theorem edges_any (hh : HF) (f : PFunc) (w : World) : Calls Tryd.prog 13 #[FuncVal hh f] w fun e w' => e = .returned (.func (.func 30) #[] #[.pointer (some ⟨w.heap.size, 0, none⟩)]) ∧ w' = boxOf w hh f := by
 have hmf := @mkF Tryd.prog;unfold FuncVal boxOf;go_enter Tryd.func13, Tryd.ntmps13;go_wp2;go_ret;exact ⟨rfl, rfl⟩
theorem range_edges {g : Operand} {ps : Array Tmp} {assign body : Code} {Q : Exit → Act → World → Prop} {a : Act} {w : World} (own : World → Nat → Prop) (I : List (Nat × Int) → World → Prop) (B B0 bx : Nat) (hh : HF) (f : PFunc)
 (hg : a.eval g = .func (.func 30) #[] #[.pointer (some ⟨bx, 0, none⟩)]) (hps : ps.size = 2)
 (hn0 : 0 < f.code.length) (hn : f.code.length ≤ 1024) (hBB : B ≤ B0) (hBw : B0 ≤ w.heap.size) (hf : FuncOk B w hh f)
 (hbox : Own w bx [.string f.name, .slice hh.pa hh.pl hh.pc, .int .i64 f.regs, .int .i64 f.words, .slice hh.ca hh.cl hh.cc])
 (hO : OwnSys own I B0) (hbx : ∀ pre W, I pre W → ¬ own W bx)
 (hIB : ∀ pre W W', I pre W → Below W.heap.size W W' → I pre W') (hIT : ∀ pre W W', I pre W → Turn w.heap.size W W' → I pre W') (hOT : ∀ pre W W' k, I pre W → Turn w.heap.size W W' → (own W' k ↔ own W k)) (h0 : I [] w)
 (hround : ∃ a₁ : (Nat × Int) → Act, (∀ (l : Nat) (x : Nat × Int) (W : World) (K : Act → World → Prop), K (a₁ x) W →
   assign.wpIn (Fence.wide.inRound l) 0 Tryd.prog (Exit.then K (fun _ _ _ => False)) { tmps := (ps.zip (encE x)).foldl (fun t (p, v) => t.setIfInBounds p v) a.tmps, defers := [] } W) ∧
   (∀ (l : Nat) (pre : List (Nat × Int)) (x : Nat × Int) (W : World), I pre W → pre ++ [x] <+: edgesL f → w.heap.size + 1 < W.heap.size →
   body.wpIn (Fence.wide.inRound l) 0 Tryd.prog (roundT fun W' => (∀ k, w.heap.size ≤ k → k < w.heap.size + 2 → W'.heap[k]? = W.heap[k]?) ∧ KpE own W W' ∧ I (pre ++ [x]) W') (a₁ x) W))
 (hdone : ∀ W : World, I (edgesL f) W → W.heap[w.heap.size]? = some (.deferred (some [])) → Q .normal { a with defers := { target := .collected w.heap.size, args := #[] } :: a.defers } W) :
 (Code.rangeFunc g ps assign body).wp Tryd.prog Q a w := by
 obtain ⟨a₁, hassign, hbody⟩ := hround;refine (wpIn_wide (n := 2)).1 ?_;refine range_law 30 #[.pointer (some ⟨bx, 0, none⟩)] hg (fun _ _ => rfl) encE (fun x => by rw [hps]; rfl) I hIB hIT h0 (fun xs => xs = edgesL f) (fun pre x => pre ++ [x] <+: edgesL f) (fun pre x W W' => KpE own W W' ∧ I (pre ++ [x]) W') ?_ ?_ a₁ hassign ?_ ?_
 ·rintro pre x W Wb W3 W' hi tb ⟨⟨hc, hk⟩, hi3⟩ te hkk hoo;have e1 : ∀ k, own Wb k ↔ own W k := fun k => hOT _ _ _ k hi tb;have e2 : ∀ k, own W' k ↔ own W3 k := fun k => hOT _ _ _ k hi3 te;have s1 := tb.size;have s2 := te.size;have s3 := hc.size;refine ⟨⟨⟨te.os.trans (hc.os.trans tb.os), te.tape.trans (hc.tape.trans tb.tape), te.output.trans (hc.output.trans tb.output), by omega, ?_⟩, ?_⟩, hIT _ _ _ hi3 te⟩
  ·intro k hk1 hk2;by_cases e : k = w.heap.size + 1
   ·exact hkk k (by omega) (by omega)
   ·rw [(hoo k e).2, hc.block k (by omega) (fun h => hk2 ((e1 k).1 h)), (hoo k e).1]
  ·intro k h;rcases hk k ((e2 k).1 h) with h | h
   ·exact .inl ((e1 k).1 h)
   ·exact .inr (by omega)
 ·intro l W J hJI hJB hbel hY hJ0;refine edges_seq (2 - 1) own J B B0 bx hh f l W hn0 hn hBB (fun pre W h => hbx pre W (hJI _ _ h)) (by have := hbel.size; omega) (hf.same (Same.of hbel (by omega))) (hbox.below hbel) ⟨fun pre W k h => hO.lt pre W k (hJI _ _ h), fun pre W W' k h => hO.st pre W W' k (hJI _ _ h), fun pre W k h => hO.base pre W k (hJI _ _ h)⟩ hJB ?_ hJ0;intro pre x W1 h1 h2;obtain ⟨fn, tmps, assign, body, hy, hr⟩ := hY pre x W1 h1 h2;exact ⟨fn, tmps, assign, body, hy, hr.mono fun e W' h => ⟨h.1, h.2.1, h.2.2.1⟩⟩
 ·intro l pre x W h1 h2 h3;refine wpIn_mono (hbody l pre x W h1 h2 h3) ?_;rintro e a3 W3 hp;cases e with
  | normal => exact ⟨hp.1, ⟨hp.2.1, hp.2.2⟩, hp.2.2⟩
  | ret => exact hp
  | exit id => exact hp
  | goto t => exact hp
  | panic ch => exact hp
  | outgrown => exact hp
 ·intro xs W hS hi hd;subst hS;exact hdone W hi hd
def plC (p : Nat × Nat) : List Value := [.int .i64 p.1, .int .i64 p.2]
def plCs (st : List (Nat × Nat)) : List Value := st.flatMap plC
theorem plCs_len (st : List (Nat × Nat)) : (plCs st).length = st.length * 2 := by
 induction st with
 | nil => rfl
 | cons x l ih => simp only [plCs, List.flatMap_cons, List.length_append] at ih ⊢; rw [ih]; simp [plC]; omega
theorem plCs_snoc (st : List (Nat × Nat)) (p : Nat × Nat) : plCs (st ++ [p]) = plCs st ++ plC p := by simp [plCs]
theorem plCs_top (st : List (Nat × Nat)) (a w : Nat) : (plCs (st ++ [(a, w)]))[st.length * 2]? = some (.int .i64 a) ∧ (plCs (st ++ [(a, w)]))[st.length * 2 + 1]? = some (.int .i64 w) := by
 rw [plCs_snoc, List.getElem?_append_right (by rw [plCs_len]; omega), List.getElem?_append_right (by rw [plCs_len]; omega), plCs_len];exact ⟨by simp [plC], by rw [show st.length * 2 + 1 - st.length * 2 = 1 by omega]; rfl⟩
theorem plCs_set (st : List (Nat × Nat)) (a w w' : Nat) : (plCs (st ++ [(a, w)])).set (st.length * 2 + 1) (.int .i64 w') = plCs (st ++ [(a, w')]) := by
 rw [plCs_snoc, plCs_snoc, List.set_append_right _ _ (by rw [plCs_len]; omega), plCs_len, show st.length * 2 + 1 - st.length * 2 = 1 by omega]; rfl
theorem plCs_take (st : List (Nat × Nat)) (p : Nat × Nat) : (plCs (st ++ [p])).take (st.length * 2) = plCs st := by
 rw [plCs_snoc, ← plCs_len, List.take_left]
theorem plCs_one (st : List (Nat × Nat)) : ∀ v ∈ plCs st, v.oneCell' = true := by
 intro v hv; obtain ⟨p, _, hp⟩ := List.mem_flatMap.1 hv; simp [plC] at hp; rcases hp with rfl | rfl <;> rfl
theorem st_sum (st : List (Nat × Nat)) (h : ∀ p ∈ st, p.2 ≤ 2) : st.length ≤ (st.map fun p => 3 - p.2).sum := by
 induction st with
 | nil => simp
 | cons x l ih =>
  have h1 := h x (by simp);have h2 := ih (fun p hp => h p (by simp [hp]));simp only [List.map_cons, List.sum_cons, List.length_cons]; omega
theorem dLeft_len {f : PFunc} {been : List Bool} {out : List Nat} {st : List (Nat × Nat)} (h : DInv f been out st) : st.length ≤ dLeft been st := by
 have := st_sum st (fun p hp => Nat.le_trans (h.way p hp).1 (nextP_len f p.1));unfold dLeft; omega
theorem toI_snoc (l : List Nat) (a : Nat) : toI (l ++ [a]) = toI l ++ [(a : Int)] := by simp [toI]
/-- a list with its first i and its last i exchanged -/
def revI (l : List Int) (i : Nat) : List Int := (List.range l.length).map fun j => if j < i ∨ l.length - i ≤ j then l.getD (l.length - 1 - j) 0 else l.getD j 0
theorem revI_len (l : List Int) (i : Nat) : (revI l i).length = l.length := by simp [revI]
theorem revI_at (l : List Int) (i j : Nat) (hj : j < l.length) : (revI l i)[j]? = some (if j < i ∨ l.length - i ≤ j then l.getD (l.length - 1 - j) 0 else l.getD j 0) := by simp [revI, hj]
theorem revI_zero (l : List Int) : revI l 0 = l := by
 apply List.ext_getElem?;intro j;by_cases hj : j < l.length
 ·rw [revI_at l 0 j hj, if_neg (by omega), List.getD_eq_getElem?_getD, List.getElem?_eq_getElem hj]; rfl
 ·rw [List.getElem?_eq_none (by rw [revI_len]; omega), List.getElem?_eq_none (by omega)]
theorem revI_step (l : List Int) (i k : Nat) (hik : i < k) (hk : k + i + 1 = l.length) : ((revI l i).set i (l.getD k 0)).set k (l.getD i 0) = revI l (i + 1) := by
 apply List.ext_getElem?;intro j;by_cases hj : j < l.length
 ·rw [revI_at l (i + 1) j hj];by_cases e1 : j = k
  ·subst e1;rw [List.getElem?_set_self (by rw [List.length_set, revI_len]; exact hj), if_pos (by omega)];congr 2; omega
  ·rw [List.getElem?_set_ne (by omega)];by_cases e2 : j = i
   ·subst e2;rw [List.getElem?_set_self (by rw [revI_len]; exact hj), if_pos (by omega)];congr 2; omega
   ·rw [List.getElem?_set_ne (by omega), revI_at l i j hj];congr 1;by_cases c : j < i ∨ l.length - i ≤ j
    ·rw [if_pos c, if_pos (by omega)]
    ·rw [if_neg c, if_neg (by omega)]
 ·rw [List.getElem?_eq_none (by simp [revI_len]; omega), List.getElem?_eq_none (by rw [revI_len]; omega)]
theorem revI_done (l : List Int) (i k : Nat) (hik : ¬ i < k) (hk : k + i + 1 = l.length ∨ (k + 1 = i ∧ 2 * i = l.length)) : revI l i = l.reverse := by
 apply List.ext_getElem?;intro j;by_cases hj : j < l.length
 ·rw [revI_at l i j hj, List.getElem?_reverse hj, List.getElem?_eq_getElem (by omega)];congr 1;have hd : ∀ q (h : q < l.length), l.getD q 0 = l[q] := fun q h => by rw [List.getD_eq_getElem?_getD, List.getElem?_eq_getElem h]; rfl
  by_cases c : j < i ∨ l.length - i ≤ j
  ·rw [if_pos c, hd _ (by omega)]
  ·rw [if_neg c, hd _ hj];congr 1; omega
 ·rw [List.getElem?_eq_none (by rw [revI_len]; omega), List.getElem?_eq_none (by rw [List.length_reverse]; omega)]
theorem toI_rev (l : List Nat) : (toI l).reverse = toI l.reverse := by simp [toI]
theorem Tryd.infoP : (Tryd.prog.info? 136).map (fun i => (i.zero, i.size, i.bytes)) = some (some (.agg #[.int .i64 0, .int .i64 0]), 2, 16) := by kernel_rfl
theorem order_any (B : Nat) (hh : HF) (f : PFunc) (w : World) (hB : B ≤ w.heap.size) (hf : FuncOk B w hh f) (hn0 : 0 < f.code.length) (hn : f.code.length ≤ 1024) : Calls Tryd.prog 61 #[FuncVal hh f] w fun e w' => ∃ l, OrderOk f l ∧ FreshI w (toI l) e w' := by
 have hmk := run_make_row' (P := Tryd.prog) 69 4 (.bool false) 1 Tryd.underlying69 Tryd.infoB rfl .i64 .i64 f.code.length (by omega) (by omega);rw [madeBools] at hmk;have HF := Lib.hid hf;obtain ⟨pa, pl, pc, ca, cl, cc⟩ := hh;obtain ⟨h1, h2, ⟨hcl, hcm, hcx⟩, h4, h5⟩ := hf;dsimp only at *;subst hcl;clear h2 hcm hcx h1 h4 h5;have hNX := Lib.hid (fun (a : Nat) w hB hf hat => next_any B ⟨pa, pl, pc, ca, f.code.length, cc⟩ f a w hB hf hat);unfold FuncVal at *;dsimp only at *;have hS := Lib.hid (DInv.start f hn0);have hnl : (List.replicate f.code.length false).length = f.code.length := by simp
 generalize List.replicate f.code.length false = F0 at *;have hn1 : (0 : Int) < (f.code.length : Int) := by omega
 have OC0 : ∀ W : World, (W.alloc (.cells (Bools F0).toArray 4)).ownsRow 0 4 1 (.slice (some ⟨W.heap.size, 0, none⟩) f.code.length f.code.length) f.code.length (Bools F0) := fun W => by
  have := World.ownsRow_lit W (base := 0) (e := 4) (size := 1) (Bools F0).toArray f.code.length (Nat.zero_le _) (by unfold maxLen; omega) (by simp [Bools, hnl]);simpa using this
 go_enter Tryd.func61, Tryd.ntmps61;go_upto_region 4 with (fail)
 generalize hW0 : World.alloc _ _ = W0;have hb0 : Below w.heap.size w W0 := by rw [← hW0]; exact bel
 have OB : Own W0 w.heap.size [.string f.name, .slice pa pl pc, .int .i64 f.regs, .int .i64 f.words, .slice ca f.code.length cc] := by rw [← hW0]; exact ((Own.new _ _ _).alloc _).alloc _
 have OC : W0.ownsRow 0 4 1 (.slice (some ⟨w.heap.size + 1, 0, none⟩) f.code.length f.code.length) f.code.length (Bools F0) := by
  rw [← hW0];have := (OC0 (w.alloc (.cells #[.string f.name, .slice pa pl pc, .int .i64 f.regs, .int .i64 f.words, .slice ca f.code.length cc] 43))).alloc (.cells #[.int .i64 0, .int .i64 0] 136);simpa using this
 have OT : W0.ownsRow 0 136 2 (.slice (some ⟨w.heap.size + 1 + 1, 0, none⟩) 1 1) 1 (plCs [(0, 0)]) := by
  rw [← hW0];have := World.ownsRow_lit ((w.alloc (.cells #[.string f.name, .slice pa pl pc, .int .i64 f.regs, .int .i64 f.words, .slice ca f.code.length cc] 43)).alloc (.cells (Bools F0).toArray 4)) (base := 0) (e := 136) (size := 2) (plCs [(0, 0)]).toArray 1 (Nat.zero_le _) (by unfold maxLen; omega) (by simp [plCs, plC]);simpa [plCs, plC] using this
 have hz0 : w.heap.size + 3 ≤ W0.heap.size := by rw [← hW0]; simp
 clear hW0 hmk OC0;have c0 := row_cell OC (j := 0) (u := .bool (F0[0]'(by omega))) (Bools_some (by rw [List.getElem?_eq_getElem]));have hfz := OC.frozenAt 0;have hst : Chg (· = w.heap.size + 1) W0 (W0.setCell ⟨w.heap.size + 1, 0, none⟩ (.bool true)) := Chg.setCell (S := (· = w.heap.size + 1)) (Chg.refl _ _) (p := ⟨w.heap.size + 1, 0, none⟩) (Or.inl rfl) _;have C2 := row_set OC 0 (.bool true);rw [Bools_set] at C2;have B2 := hst.own OB (by omega);have T2 := row_chg hst OT (by intro k hk e; have h7 : w.heap.size + 1 + 1 = k := (by simpa [Value.ownBlock] using hk); omega);have hb2 : Below w.heap.size w (W0.setCell ⟨w.heap.size + 1, 0, none⟩ (.bool true)) := bel;have hz2 : w.heap.size + 3 ≤ (W0.setCell ⟨w.heap.size + 1, 0, none⟩ (.bool true)).heap.size := by simpa using hz0
 have hdl : dLeft (F0.set 0 true) [(0, 0)] ≤ 4200 := by
  have : (F0.set 0 true).count false ≤ (F0.set 0 true).length := List.count_le_length;rw [List.length_set] at this;unfold dLeft; simp; omega
 have HB2 := Lib.hid B2; have HC2 := Lib.hid C2; have HT2 := Lib.hid T2; have HDL := Lib.hid hdl;clear OB OC OT B2 C2 T2 hst hb0 hz0 hdl;go_wp2;generalize W0.setCell ⟨w.heap.size + 1, 0, none⟩ (.bool true) = W1 at *;clear c0 hfz hnl
 go_loopg [4, 5] (dLeft (F0.set 0 true) [(0, 0)]) (fun k v4 v5 wr => ∃ (been : List Bool) (out : List Nat) (st : List (Nat × Nat)), k = dLeft been st ∧ Hid (DInv f been out st) ∧ out.length + k ≤ 4200 ∧ Below w.heap.size w wr ∧ w.heap.size + 3 ≤ wr.heap.size ∧ Hid (Own wr w.heap.size [.string f.name, .slice pa pl pc, .int .i64 f.regs, .int .i64 f.words, .slice ca f.code.length cc]) ∧
  Hid (wr.ownsRow 0 4 1 (.slice (some ⟨w.heap.size + 1, 0, none⟩) f.code.length f.code.length) f.code.length (Bools been)) ∧
  (∀ j, v4.ownBlock = some j → w.heap.size + 2 ≤ j) ∧ (∀ j, v5.ownBlock = some j → w.heap.size + 2 ≤ j) ∧ (∀ j, v4.ownBlock = some j → v5.ownBlock ≠ some j) ∧
  Hid (wr.ownsRow 0 3 1 v4 out.length (Nums (toI out))) ∧ Hid (wr.ownsRow 0 136 2 v5 st.length (plCs st)))
 case atStart => exact ⟨_, [], [(0, 0)], rfl, hS, by have := HDL.out; simpa using this, hb2, hz2, HB2, HC2, by simp [Value.ownBlock], by simp [Value.ownBlock], by simp [Value.ownBlock], Lib.hid (World.ownsRow_nil _ _ _ _), HT2⟩
 case round =>
  clear HB2 HC2 HT2 hb2 hz2 HDL hS;obtain ⟨been, out, st, rfl, hI, hk, hbr, hzr, hB2, hC, hv4, hv5, hne, hO, hT⟩ := hrel;have b5 := own5 hB2.out;rcases nil_or_snoc st with rfl | ⟨t, ⟨a, wy⟩, rfl⟩
  ·skip
   obtain ⟨va5, vc5, rfl⟩ : ∃ va5 vc5, u5 = .slice va5 0 vc5 := by
    rcases row_form hT.out with ⟨rfl, _, _⟩ | ⟨g, c, rfl, _, _, _⟩
    ·exact ⟨_, _, rfl⟩
    ·exact ⟨_, _, rfl⟩
   have hok := hI.out.done;have hol : 0 < out.length := by
    rcases hI.out.bot with ⟨_, k⟩ | ⟨w', q, k⟩
    ·cases out with
     | nil => simp at k
     | cons x l => simp
    ·simp at k
   obtain ⟨g4, c4, rfl, h41, h42, h43⟩ := row_pos hO.out hol;have h42' : c4 ≤ 9223372036854775807 := h42;have hg4 := hv4 g4 rfl;have hw0 : IntKind.i64.wrap ((out.length : Int) - 1) = ((out.length - 1 : Nat) : Int) := by rw [IntWalk.i64_in _ (by omega)]; omega
   have HOK := Lib.hid hok; clear hok;have hRow := Lib.hid (show wr.ownsRow 0 3 1 (.slice (some ⟨g4, 0, none⟩) out.length c4) out.length (Nums (revI (toI out) 0)) by rw [revI_zero]; exact hO.out);have hll : (toI out).length = out.length := by simp [toI]
   clear hI hO hT hB2 hC hv4 hv5 hne b5;have HK := Lib.hid hk; clear hk;generalize hL : toI out = L at *;have HL := Lib.hid hL; clear hL;go_wp2;go_loopw [9, 10] (fun v9 v10 wx => ∃ (i k : Nat), v9 = .int .i64 i ∧ v10 = .int .i64 ((k : Int) - 1) ∧ k + i = out.length ∧ i ≤ k ∧ Below w.heap.size w wx ∧ Hid (wx.ownsRow 0 3 1 (.slice (some ⟨g4, 0, none⟩) out.length c4) out.length (Nums (revI L i)))) (fun v9 _ _ => out.length - (intOf v9).toNat)
   case atStart => exact ⟨0, out.length, rfl, by rw [Int.ofNat_sub (by omega)]; rfl, by omega, by omega, hbr, hRow⟩
   case round =>
    clear hRow hbr;obtain ⟨i, k, rfl, rfl, hik, hik2, hbx, hR⟩ := hrel;have hgx := row_ltB hR.out;by_cases hlt : i + 1 < k
    ·have d2 : (i : Int) < (k : Int) - 1 := by omega
     have q1 := revI_at L i i (by omega);have q2 := revI_at L i (k - 1) (by omega);rw [if_neg (by omega)] at q1 q2;have a0 := row_cell hR.out (Nums_some q1);have a1 := row_cell hR.out (Nums_some q2);have f0 := hR.out.frozenAt i;have f1 := hR.out.frozenAt (k - 1);have hst := Lib.hid (revI_step L i (k - 1) (by omega) (by omega));clear q1 q2;obtain ⟨m, rfl⟩ : ∃ m, k = m + 1 := ⟨k - 1, by omega⟩
     simp only [Nat.add_sub_cancel] at *;generalize L.getD i 0 = x at *;generalize L.getD m 0 = y at *;have hmm : ((m + 1 : Nat) : Int) - 1 = (m : Int) := by omega
     have hwi : IntKind.i64.wrap ((i : Int) + 1) = (i : Int) + 1 := IntWalk.i64_in _ (by omega);have hwk : IntKind.i64.wrap ((m : Int) - 1) = (m : Int) - 1 := IntWalk.i64_in _ (by omega);have hmi : ¬ m = i := by omega
     have him : ¬ i = m := by omega
     have r1 := row_set (row_set hR.out i (.int .i64 y)) m (.int .i64 x);have e1 : ((Nums (revI L i)).set i (.int .i64 y)).set m (.int .i64 x) = Nums (revI L (i + 1)) := by rw [← hst.out]; simp [Nums]
     have r2 := row_set (row_set hR.out m (.int .i64 x)) i (.int .i64 y);rw [List.set_comm _ _ (by omega)] at r2;rw [e1] at r1 r2;have R1 := Lib.hid r1; have R2 := Lib.hid r2; clear r1 r2 e1;go_wp2
     go_region
     all_goals go_wp2_with fail
     all_goals refine ⟨⟨i + 1, m, by simp, rfl, by omega, by omega, bel, Lib.hid (by first | exact R1.out | exact R2.out)⟩, ?_⟩
     all_goals (go_light; first | omega | (simp only [intOf]; omega))
    ·have d2 : ¬ (i : Int) < (k : Int) - 1 := by omega
     have hrv := revI_done L i (k - 1) (by omega) (.inl (by omega));have HRV := Lib.hid hrv; clear hrv;go_wp2;go_ret;go_light;refine ⟨out.reverse, HOK.out, _, rfl, bel, ?_, ?_, ?_⟩
     ·have e : (toI out.reverse).length = out.length := by simp [toI]
      rw [e, ← toI_rev, HL.out, ← HRV.out]; exact hR.out
     ·intro j hj;have h7 : g4 = j := (by simpa [Value.ownBlock] using hj)
      omega
     ·intro e;have e2 : (toI out.reverse).length = out.length := by simp [toI]
      rw [e] at e2;change 0 = out.length at e2;omega
  ·have hln : (t ++ [(a, wy)]).length = t.length + 1 := by simp
   have hlt : t.length + 1 ≤ 4200 := by
    have := dLeft_len hI.out;rw [hln] at this;omega
   have hT2 := hT.out;rw [hln] at hT2;obtain ⟨g, c, rfl, hgc, hgm, hgl⟩ := row_pos hT2 (by omega);have hgm' : c ≤ 9223372036854775807 := hgm;have hab := hv5 g rfl;have ht1 := (plCs_top t a wy).1;have ht2 := (plCs_top t a wy).2;have t0 := row_cell hT2 ht1;have t1 := row_cell hT2 ht2;have tf := hT2.frozenAt (t.length * 2 + 1);clear ht1 ht2;have ha : a < f.code.length := hI.out.lt (by simp);have hway := (hI.out.way (a, wy) (by simp)).1;dsimp only at hway;have hw1 : IntKind.i64.wrap ((t.length : Int) + 1 - 1) = (t.length : Int) := by rw [IntWalk.i64_in _ (by omega)]; omega
   have j1 : (0 : Int) < (t.length : Int) + 1 := by omega
   have HT := Lib.hid hT2; clear hT2 hT;go_wp2;refine wp_still 5 (by kernel_rfl) (by kernel_rfl) ?_; simp only [List.take_succ_cons, List.take_zero, List.drop_succ_cons, List.drop_zero]; repeat (refine WS_step (fun K hK => ?_); go_simp; refine hK _ ?_; clear hK K)
   refine WS_nil ?_;go_wp2_with fail;refine (hNX.out a wr.drew (by simp; omega) (HF.out.same (Same.of (show Below w.heap.size w wr.drew by exact bel) hB)) ha).mono ?_;rintro e w2 ⟨nv, rfl, hb3, hr3, hf3, hn3⟩;have O3 := row_below hb3 (show (wr.drew).ownsRow 0 3 1 u4 out.length (Nums (toI out)) from hO.out);have T3 := row_below hb3 (show (wr.drew).ownsRow 0 136 2 (.slice (some ⟨g, 0, none⟩) (t.length + 1) c) (t.length + 1) (plCs (t ++ [(a, wy)])) from HT.out);have C3 := row_below hb3 (show (wr.drew).ownsRow 0 4 1 (.slice (some ⟨w.heap.size + 1, 0, none⟩) f.code.length f.code.length) f.code.length (Bools been) from hC.out);have B3 := (show Own wr.drew w.heap.size [.string f.name, .slice pa pl pc, .int .i64 f.regs, .int .i64 f.words, .slice ca f.code.length cc] from hB2.out).below hb3;have hz3 : wr.heap.size ≤ w2.heap.size := hb3.size;have hbw : Below w.heap.size w w2 := bel;obtain ⟨va, vc, rfl⟩ : ∃ va vc, nv = .slice va (nextP f a).length vc := by
    rcases row_form hr3 with ⟨rfl, h0, _⟩ | ⟨g', c', rfl, _, _, _⟩
    ·exact ⟨none, 0, by rw [h0]⟩
    ·exact ⟨_, _, rfl⟩
   have hnlen := nextP_len f a;have HFin := Lib.hid (fun e => hI.out.finish (a := a) (w := wy) e);have HLook := Lib.hid (fun x hx hb => hI.out.look (a := a) (w := wy) (x := x) hx hb);have HMeet := Lib.hid (fun x hx hb => hI.out.meet (a := a) (w := wy) (x := x) hx hb);have HIn := Lib.hid (nextP_in f a);have HIL := Lib.hid hI.out.len;have hz2 : w.heap.size + 3 ≤ w2.heap.size := by omega
   clear hn3 hB2 hC hO HT t0 t1 tf b5 hbr hb3 hgl hI hf3;generalize nextP f a = nl at *;have t0 := row_cell T3 (plCs_top t a wy).1;have t1 := row_cell T3 (plCs_top t a wy).2;have tf := T3.frozenAt (t.length * 2 + 1);by_cases hwe : wy = nl.length
   ·subst hwe;have hM := @dLeft_finish been t a nl.length hnlen;have hk2 : (out ++ [a]).length + dLeft been t ≤ 4200 := by simp; omega
    have HK2 := Lib.hid hk2; clear hk2;have HM := Lib.hid hM; clear hM;have hpop := row_take T3 t.length (by omega);rw [plCs_take] at hpop;have HPOP := Lib.hid hpop; clear hpop;have hol : out.length ≤ 4200 := by omega
    go_wp2_with (first | (at_builtin; refine wpList_app rfl (.tmp 40) (.tmp 45) 47 3 1 8 (.int .i64 0) rfl Tryd.underlying47 Tryd.infoI rfl (by decide) _ _ _ rfl (row_below bel O3) ⟨w2.heap.size, 0, none⟩ 1 1 (Nums [(a : Int)]) rfl rfl (src_own (Own.new' _ _ _ _ (by simp))) (Nums_one _) (by unfold maxLen; omega) (by omega) (by decide) ?_; intro g6 c6 w6 hr6 hc6 hg6) | fail)
    have hc7 : Chg (fun k => u4.ownBlock = some k) w2 w6 := (Chg.of (by exact bel)).trans hc6;have hgl3 := row_ltB T3
    go_roundg (dLeft been t)
    case measure => exact HM.out
    case rel =>
     refine ⟨been, out ++ [a], t, rfl, Lib.hid (HFin.out (by simp)), HK2.out, hbw.trans (hc7.below _ hbw.size (fun k hk e => by have := hv4 k e; omega)), by have := hc7.size; omega, Lib.hid (hc7.own B3 (fun e => by have := hv4 _ e; omega)),
      Lib.hid (row_chg hc7 C3 (fun q hq e => by have h7 : w.heap.size + 1 = q := (by simpa [Value.ownBlock] using hq); have := hv4 _ e; omega)), ?_, ?_, ?_, Lib.hid (by rw [toI_snoc, Nums_append, List.length_append]; exact hr6),
      Lib.hid (row_chg hc7 HPOP.out (fun q hq e => by have h7 : g = q := (by simpa [Value.ownBlock] using hq); subst h7; exact hne _ e rfl))⟩
     ·intro j hj;have h7 : g6 = j := (by simpa [Value.ownBlock] using hj)
      subst h7;rcases hg6 with h | h
      ·exact hv4 _ h
      ·simp at h; omega
     ·intro j hj; exact hv5 j hj
     ·intro j hj e;have h7 : g6 = j := (by simpa [Value.ownBlock] using hj)
      have h8 : g = j := (by simpa [Value.ownBlock] using e)
      rcases hg6 with h | h
      ·exact hne _ h (by rw [h7, ← h8]; rfl)
      ·simp at h; omega
   ·have hwl : wy < nl.length := by omega
    obtain ⟨gn, gc, hnv, -, -, hgn⟩ := row_pos hr3 (by omega);cases hnv;have hxe : nl[wy]? = some (nl[wy]'hwl) := List.getElem?_eq_getElem hwl;have n0 := row_cell hr3 (Nums_some hxe);have hxr := HIn.out _ (List.getElem_mem hwl);have HXE := Lib.hid hxe; clear hxe;generalize nl[wy]'hwl = x at *;obtain ⟨v, rfl⟩ : ∃ v : Nat, x = v := ⟨x.toNat, by omega⟩
    have hvl : v < f.code.length := by omega
    have hvb : v < been.length := by rw [HIL.out]; exact hvl
    have hbe : been[v]? = some (been[v]'hvb) := List.getElem?_eq_getElem hvb;have e0 := row_cell C3 (Bools_some hbe);have ef := C3.frozenAt v;have HBE := Lib.hid hbe; clear hbe;generalize been[v]'hvb = m at *;have hw2 : IntKind.i64.wrap ((wy : Int) + 1) = (wy : Int) + 1 := IntWalk.i64_in _ (by omega);have hwe2 : ¬ (wy : Int) = (nl.length : Int) := by omega
    have hwy : wy < 2 := by omega
    have hgl3 := row_ltB T3;have hst : Chg (· = g) w2 (w2.setCell ⟨g, t.length * 2 + 1, none⟩ (.int .i64 ((wy : Int) + 1))) := Chg.setCell (S := (· = g)) (Chg.refl _ _) (p := ⟨g, t.length * 2 + 1, none⟩) (Or.inl rfl) _;have T4 := row_set T3 (t.length * 2 + 1) (.int .i64 ((wy : Int) + 1));have hps := plCs_set t a wy (wy + 1);rw [show (((wy + 1 : Nat)) : Int) = (wy : Int) + 1 by omega] at hps;rw [hps] at T4;have B4 := hst.own B3 (by omega);have C4 := row_chg hst C3 (fun q hq e => by have h7 : w.heap.size + 1 = q := (by simpa [Value.ownBlock] using hq); omega);have O4 := row_chg hst O3 (fun q hq e => hne q hq (by rw [e]; rfl));have hb4 : Below w.heap.size w (w2.setCell ⟨g, t.length * 2 + 1, none⟩ (.int .i64 ((wy : Int) + 1))) := bel;have HT4 := Lib.hid T4; have HB4 := Lib.hid B4; have HC4 := Lib.hid C4; have HO4 := Lib.hid O4;clear T4 B4 C4 O4 hps hst;cases m
    ·have hM := @dLeft_meet been t a wy v hwy HBE.out;have hk2 : out.length + dLeft (been.set v true) (t ++ [(a, wy + 1), (v, 0)]) ≤ 4200 := by omega
     have HK2 := Lib.hid hk2; have HM := Lib.hid hM; clear hk2 hM;go_upto_region 15 with (fail)
     have hvx : v < f.code.length := hvl;generalize hWb : w2.setCell ⟨g, t.length * 2 + 1, none⟩ (.int .i64 ((wy : Int) + 1)) = Wb at *;have hzb : w.heap.size + 3 ≤ Wb.heap.size := by rw [← hWb]; simpa using hz2
     clear hWb;have hst2 : Chg (· = w.heap.size + 1) Wb (Wb.setCell ⟨w.heap.size + 1, v, none⟩ (.bool true)) := Chg.setCell (S := (· = w.heap.size + 1)) (Chg.refl _ _) (p := ⟨w.heap.size + 1, v, none⟩) (Or.inl rfl) _;have C5 := row_set HC4.out v (.bool true);rw [Bools_set] at C5;have T5 := row_chg hst2 HT4.out (fun q hq e => by have h7 : g = q := (by simpa [Value.ownBlock] using hq); omega);have O5 := row_chg hst2 HO4.out (fun q hq e => by have := hv4 q hq; omega);have B5 := hst2.own HB4.out (by omega);have hb5 : Below w.heap.size w (Wb.setCell ⟨w.heap.size + 1, v, none⟩ (.bool true)) := bel;have hz5 : w.heap.size + 3 ≤ (Wb.setCell ⟨w.heap.size + 1, v, none⟩ (.bool true)).heap.size := by simpa using hzb
     generalize Wb.setCell ⟨w.heap.size + 1, v, none⟩ (.bool true) = W5 at *;clear hst2;have hgl5 := row_ltB T5;go_wp2_with (first | (at_builtin; refine wpList_app rfl (.tmp 74) (.tmp 77) 137 136 2 16 (.agg #[.int .i64 0, .int .i64 0]) rfl Tryd.underlying137 Tryd.infoP rfl (by decide) _ _ _ rfl (row_below bel T5) ⟨W5.heap.size, 0, none⟩ 1 1 (plCs [(v, 0)]) rfl rfl (src_own (Own.new' _ _ _ _ (by simp))) (plCs_one _) (by unfold maxLen; omega) (by omega) (by decide) ?_; intro g6 c6 w6 hr6 hc6 hg6) | fail)
     have hc7 : Chg (fun k => (Value.slice (some ⟨g, 0, none⟩) (t.length + 1) c).ownBlock = some k) W5 w6 := (Chg.of (by exact bel)).trans hc6;have e7 : ∀ k, (Value.slice (some ⟨g, 0, none⟩) (t.length + 1) c).ownBlock = some k → k = g := fun k hk => by simpa [Value.ownBlock, eq_comm] using hk
     go_roundg (dLeft (been.set v true) (t ++ [(a, wy + 1), (v, 0)]))
     case measure => exact HM.out
     case rel =>
      refine ⟨been.set v true, out, t ++ [(a, wy + 1), (v, 0)], rfl, Lib.hid (HMeet.out _ HXE.out HBE.out), HK2.out, hb5.trans (hc7.below _ hb5.size (fun k hk e => by have := e7 k e; omega)), by have := hc7.size; omega, Lib.hid (hc7.own B5 (fun e => by have := e7 _ e; omega)),
       Lib.hid (row_chg hc7 C5 (fun q hq e => by have h7 : w.heap.size + 1 = q := (by simpa [Value.ownBlock] using hq); have := e7 _ e; omega)), hv4, ?_, ?_, Lib.hid (row_chg hc7 O5 (fun q hq e => by have := e7 _ e; subst this; exact hne _ hq rfl)), Lib.hid ?_⟩
      ·intro j hj;have h7 : g6 = j := (by simpa [Value.ownBlock] using hj)
       subst h7;rcases hg6 with h | h
       ·have := e7 _ h; omega
       ·simp at h; omega
      ·intro j hj e;have h7 : g6 = j := (by simpa [Value.ownBlock] using e)
       rcases hg6 with h | h
       ·have := e7 _ h; exact hne j hj (by rw [← h7, this]; rfl)
       ·have := row_lt O5 hj; simp at h; omega
      ·rw [show t ++ [(a, wy + 1), (v, 0)] = (t ++ [(a, wy + 1)]) ++ [(v, 0)] by simp, show plCs ((t ++ [(a, wy + 1)]) ++ [(v, 0)]) = plCs (t ++ [(a, wy + 1)]) ++ plCs [(v, 0)] by simp [plCs]];have e8 : ((t ++ [(a, wy + 1)]) ++ [(v, 0)]).length = t.length + 1 + 1 := by simp
       rw [e8]; exact hr6
    ·have hM := @dLeft_look been t a wy hwy;have hk2 : out.length + dLeft been (t ++ [(a, wy + 1)]) ≤ 4200 := by omega
     have HK2 := Lib.hid hk2; have HM := Lib.hid hM; clear hk2 hM;go_wp2_with fail
     go_roundg (dLeft been (t ++ [(a, wy + 1)]))
     case measure => exact HM.out
     case rel => exact ⟨been, out, t ++ [(a, wy + 1)], rfl, Lib.hid (HLook.out _ HXE.out HBE.out), HK2.out, hb4, by simpa using hz2, HB4, HC4, hv4, (fun j hj => hv5 j hj), (fun j hj e => hne j hj e), HO4, Lib.hid (by rw [List.length_append]; exact HT4.out)⟩
section
/-- an edge between instructions that can be reached -/
def EdgeP (f : PFunc) (u v : Nat) : Prop := Rch f u ∧ (v : Int) ∈ nextP f u
theorem edges_mem (f : PFunc) (u v : Nat) : (u, (v : Int)) ∈ edgesL f ↔ u < f.code.length ∧ EdgeP f u v := by
 unfold edgesL edgesTo EdgeP;rw [List.mem_flatMap];constructor
 ·rintro ⟨k, hk, hm⟩;rw [List.mem_range] at hk;by_cases hr : (reachP f).getD k false = true
  ·rw [if_pos hr] at hm;obtain ⟨x, hx, he⟩ := List.mem_map.1 hm;injection he with e1 e2;subst e1; subst e2;have : (reachP f)[k]? = some true := by
    rw [List.getElem?_eq_getElem (by rw [reachP_len]; exact hk)];rw [List.getD_eq_getElem?_getD, List.getElem?_eq_getElem (by rw [reachP_len]; exact hk)] at hr;simpa using hr
   exact ⟨hk, (reachP_at f k hk).1 this, hx⟩
  ·rw [if_neg hr] at hm; simp at hm
 ·rintro ⟨hk, hr, hm⟩;refine ⟨u, List.mem_range.2 hk, ?_⟩;have := (reachP_at f u hk).2 hr;rw [if_pos (by rw [List.getD_eq_getElem?_getD, this]; rfl)];exact List.mem_map.2 ⟨_, hm, rfl⟩
theorem edges_nat (f : PFunc) (x : Nat × Int) (h : x ∈ edgesL f) : ∃ v : Nat, x.2 = v ∧ v < f.code.length ∧ x.1 < f.code.length := by
 unfold edgesL edgesTo at h;rw [List.mem_flatMap] at h;obtain ⟨k, hk, hm⟩ := h;rw [List.mem_range] at hk;split at hm
 ·obtain ⟨y, hy, rfl⟩ := List.mem_map.1 hm;have := nextP_in f k y hy;exact ⟨y.toNat, by dsimp only; omega, by omega, hk⟩
 ·simp at hm
/-- those that lead to v, of some edges -/
def fromL (pre : List (Nat × Int)) (v : Nat) : List Int := (pre.filter (fun x => x.2 == (v : Int))).map (fun x => (x.1 : Int))
theorem fromL_snoc (pre : List (Nat × Int)) (u v : Nat) (k : Nat) : fromL (pre ++ [(u, (v : Int))]) k = if k = v then fromL pre k ++ [(u : Int)] else fromL pre k := by
 unfold fromL;rw [List.filter_append];by_cases h : k = v
 ·subst h; simp
 ·have hb : (((u, (v : Int)) : Nat × Int).2 == (k : Int)) = false := by simp; omega
  rw [if_neg h, List.filter_cons, hb]; simp
theorem fromL_mem (f : PFunc) (v : Nat) (x : Int) : x ∈ fromL (edgesL f) v ↔ ∃ u : Nat, x = u ∧ u < f.code.length ∧ EdgeP f u v := by
 unfold fromL;simp only [List.mem_map, List.mem_filter, beq_iff_eq];constructor
 ·rintro ⟨⟨u, y⟩, ⟨h1, h2⟩, rfl⟩;dsimp only at *;subst h2;exact ⟨u, rfl, (edges_mem f u v).1 h1⟩
 ·rintro ⟨u, rfl, h⟩;exact ⟨(u, (v : Int)), ⟨(edges_mem f u v).2 h, rfl⟩, rfl⟩
theorem edgesTo_len (f : PFunc) (k : Nat) : (edgesTo f k).length ≤ 2 * k := by
 induction k with
 | zero => simp [edgesTo]
 | succ k ih =>
  rw [edgesTo_succ, List.length_append];have := nextP_len f k;split
  ·rw [List.length_map]; omega
  ·simp; omega
theorem edges_len (f : PFunc) : (edgesL f).length ≤ 2 * f.code.length := edgesTo_len f _
theorem fromL_len (pre : List (Nat × Int)) (v : Nat) : (fromL pre v).length ≤ pre.length := by
 unfold fromL; rw [List.length_map]; exact List.length_filter_le _ _
/-- nearest dominators as they stand in a list -/
def nrOf (L : List Int) : Nat → Int := fun v => L.getD v (-1)
theorem nrOf_set (L : List Int) (b : Nat) (d : Int) (h : b < L.length) : nrOf (L.set b d) = upd (nrOf L) b d := by
 funext v;unfold nrOf upd;dsimp only;rw [List.getD_eq_getElem?_getD, List.getD_eq_getElem?_getD];by_cases e : v = b
 ·subst e; rw [List.getElem?_set_self h, if_pos rfl]; rfl
 ·rw [List.getElem?_set_ne (by omega), if_neg e]
theorem nrOf_some (L : List Int) (v : Nat) (h : v < L.length) : L[v]? = some (nrOf L v) := by
 unfold nrOf; rw [List.getD_eq_getElem?_getD, List.getElem?_eq_getElem h]; rfl
theorem nrOf_same (L : List Int) (b : Nat) (h : b < L.length) : upd (nrOf L) b (nrOf L b) = nrOf L := by
 funext v; unfold upd; split
 ·next e => rw [e]
 ·rfl
/-- ranks, as far as they are told -/
def rankTo (n : Nat) (l : List Nat) (k : Nat) : List Int := (List.range n).map fun v => if v ∈ l.take k then (l.idxOf v : Int) else 0
theorem rankTo_len (n : Nat) (l : List Nat) (k : Nat) : (rankTo n l k).length = n := by simp [rankTo]
theorem rankTo_zero (n : Nat) (l : List Nat) : rankTo n l 0 = List.replicate n 0 := by
 apply List.ext_getElem
 ·simp [rankTo]
 ·intro i h1 h2; simp [rankTo]
theorem idxOf_at (l : List Nat) (hn : l.Nodup) (k : Nat) (hk : k < l.length) : l.idxOf l[k] = k := by
 have h1 := List.idxOf_lt_length_of_mem (List.getElem_mem hk);have h2 : l[l.idxOf l[k]] = l[k] := List.getElem_idxOf h1;have hp := List.pairwise_iff_getElem.1 hn;rcases Nat.lt_trichotomy (l.idxOf l[k]) k with h | h | h
 ·exact absurd h2 (hp _ _ h1 hk h)
 ·exact h
 ·exact absurd h2.symm (hp _ _ hk h1 h)
theorem rankTo_succ (n : Nat) (l : List Nat) (hn : l.Nodup) (k : Nat) (hk : k < l.length) (hl : l[k] < n) : (rankTo n l k).set l[k] (k : Int) = rankTo n l (k + 1) := by
 apply List.ext_getElem
 ·simp [rankTo]
 ·intro i h1 h2;have hi : i < n := by simpa [rankTo] using h2
  rw [List.getElem_set];have e1 : (rankTo n l (k + 1))[i] = if i ∈ l.take (k + 1) then (l.idxOf i : Int) else 0 := by simp [rankTo]
  have e2 : (rankTo n l k)[i]'(by rw [rankTo_len]; exact hi) = if i ∈ l.take k then (l.idxOf i : Int) else 0 := by simp [rankTo]
  have e3 : l.take (k + 1) = l.take k ++ [l[k]] := by rw [List.take_add_one, List.getElem?_eq_getElem hk]; rfl
  rw [e1, e3];by_cases h : l[k] = i
  ·rw [if_pos h, if_pos (by simp [h])];have := idxOf_at l hn k hk;rw [h] at this; rw [this]
  ·rw [if_neg h, e2];have : (i ∈ l.take k ++ [l[k]]) ↔ i ∈ l.take k := by
    simp only [List.mem_append, List.mem_cons, List.not_mem_nil, or_false];constructor
    ·rintro (h' | h')
     ·exact h'
     ·exact absurd h'.symm h
    ·exact .inl
   simp only [this]
theorem rankTo_full (n : Nat) (l : List Nat) (v : Nat) (hv : v ∈ l) (hn : v < n) : (rankTo n l l.length)[v]? = some (l.idxOf v : Int) := by
 simp [rankTo, hn, hv]
theorem grf_of {f : PFunc} {l : List Nat} (h : OrderOk f l) (h0 : 0 < f.code.length) : Grf (EdgeP f) (Rch f) l.idxOf := by
 refine ⟨.zero, ?_, fun u v hE => ⟨hE.1, .step u v hE.1 hE.2⟩, fun u v hu hv e => ?_, fun v hv hz => ?_⟩
 ·have := h.head;cases l with
  | nil => simp at this
  | cons a t => simp at this; subst this; simp
 ·have h1 := List.idxOf_lt_length_of_mem ((h.mem u).2 hu);have h2 := List.idxOf_lt_length_of_mem ((h.mem v).2 hv);rw [← List.getElem_idxOf h1, ← List.getElem_idxOf h2];congr 1
 ·obtain ⟨p, q, e⟩ := List.append_of_mem ((h.mem v).2 hv);obtain ⟨u, hu, hp⟩ := h.pred p v q e hz;have hnd := h.nodup;rw [e] at hnd;have hvp : v ∉ p := fun k => by
   have := (List.nodup_append.1 hnd).2.2 v k v (by simp);exact this rfl
  have e1 : l.idxOf v = p.length := by rw [e, List.idxOf_append, if_neg hvp]; simp
  have e2 : l.idxOf u < p.length := by rw [e, List.idxOf_append, if_pos hp]; exact List.idxOf_lt_length_of_mem hp
  exact ⟨u, ⟨(h.mem u).1 (by rw [e]; simp [hp]), hu⟩, by omega⟩
/-- what is left to be lowered -/
def msr (n : Nat) (rk : Nat → Nat) (L : List Int) : Nat := (L.map fun x => if x < 0 then n else rk x.toNat).sum
theorem sum_set (g : Int → Nat) (L : List Int) (b : Nat) (d : Int) (h : b < L.length) (hd : g d < g (L.getD b (-1))) : ((L.set b d).map g).sum < (L.map g).sum := by
 induction L generalizing b with
 | nil => simp at h
 | cons x L ih =>
  cases b with
  | zero => simp at hd ⊢; omega
  | succ b =>
   simp only [List.length_cons] at h;have := ih b (by omega) (by simpa using hd);simp only [List.set_cons_succ, List.map_cons, List.sum_cons];omega
theorem msr_set {n : Nat} {rk : Nat → Nat} {L : List Int} {b d : Nat} (hb : b < L.length) (hd : rk d < n) (h : nrOf L b < 0 ∨ ∃ y : Nat, nrOf L b = y ∧ rk d < rk y) : msr n rk (L.set b (d : Int)) < msr n rk L := by
 refine sum_set _ L b d hb ?_;unfold nrOf at h;rw [if_neg (by omega), Int.toNat_natCast];rcases h with h | ⟨y, h, hr⟩
 ·rw [if_pos h]; exact hd
 ·rw [h, if_neg (by omega), Int.toNat_natCast]; exact hr
theorem len_below : ∀ (n : Nat) (l : List Nat), l.Nodup → (∀ x ∈ l, x < n) → l.length ≤ n := by
 intro n
 induction n with
 | zero => intro l _ h; cases l with
  | nil => simp
  | cons a t => exact absurd (h a (by simp)) (by omega)
 | succ n ih =>
  intro l hn h;have h1 := ih (l.erase n) (hn.erase n) (fun x hx => by
   have h2 := (hn.mem_erase_iff).1 hx;have := h x h2.2;have := h2.1;omega)
  rw [List.length_erase] at h1;split at h1 <;> omega
theorem order_len2 {f : PFunc} {l : List Nat} (h : OrderOk f l) (h0 : 0 < f.code.length) : l.length ≤ f.code.length :=
 len_below _ _ h.nodup (fun v hv => Rch.lt h0 ((h.mem v).1 hv))
/-- what stands in a sweep behind i of those that are gone over -/
structure Swp (f : PFunc) (l : List Nat) (m i : Nat) (c : Bool) (L : List Int) : Prop where
 len : L.length = f.code.length
 inv : NInv (EdgeP f) (Rch f) l.idxOf (nrOf L) (i + 1)
 ms : c = true → msr f.code.length l.idxOf L < m
 me : c = false → msr f.code.length l.idxOf L = m
 qt : c = false → ∀ v, Rch f v → v ≠ 0 → l.idxOf v < i + 1 → ∀ u x, EdgeP f u v → 0 ≤ nrOf L u → Ch (nrOf L) (nrOf L v).toNat x → Ch (nrOf L) u x
section
variable {f : PFunc} {l : List Nat} {m i : Nat} {c : Bool} {L : List Int}
theorem Swp.start (ho : OrderOk f l) (h0 : 0 < f.code.length) (hl : L.length = f.code.length) (h : NInv (EdgeP f) (Rch f) l.idxOf (nrOf L) 1) : Swp f l (msr f.code.length l.idxOf L) 0 false L :=
 ⟨hl, h, (by simp), fun _ => rfl, fun _ v hv hz hr => by
  have g := grf_of ho h0;have : v = 0 := g.inj v 0 hv .zero (by rw [g.z]; omega);exact absurd this hz⟩
/-- the vertex that is gone over -/
theorem order_at (ho : OrderOk f l) (h0 : 0 < f.code.length) (hi : i + 1 < l.length) : Rch f l[i + 1] ∧ l.idxOf l[i + 1] = i + 1 ∧ l[i + 1] ≠ 0 ∧ l[i + 1] < f.code.length := by
 have h1 := (ho.mem _).1 (List.getElem_mem hi);have h2 := idxOf_at l ho.nodup (i + 1) hi;refine ⟨h1, h2, fun e => ?_, Rch.lt h0 h1⟩;have g := grf_of ho h0;rw [e, g.z] at h2;omega
theorem Swp.stp (s : Swp f l m i c L) (ho : OrderOk f l) (h0 : 0 < f.code.length) (hi : i + 1 < l.length) {d : Int} (hd : MeetOf (nrOf L) (fromL (edgesL f) l[i + 1]) d) :
 ∃ dn : Nat, d = dn ∧ Stp (EdgeP f) (Rch f) l.idxOf (nrOf L) (i + 1) l[i + 1] dn := by
 have g := grf_of ho h0;obtain ⟨h1, h2, h3, h4⟩ := order_at ho h0 hi;have hmem : ∀ u, EdgeP f u l[i + 1] ↔ (u : Int) ∈ fromL (edgesL f) l[i + 1] := by
  intro u;rw [fromL_mem];constructor
  ·intro he; exact ⟨u, rfl, Rch.lt h0 he.1, he⟩
  ·rintro ⟨u', e, _, he⟩;have : u = u' := by omega
   subst this; exact he
 rcases hd with ⟨_, hno⟩ | ⟨dn, e, hdn, hm⟩
 ·obtain ⟨u, he, hr⟩ := g.pred _ h1 h3;have := s.inv.dn u he.1 (by omega);have := hno u ((hmem u).1 he);rw [Int.toNat_natCast] at this;omega
 ·refine ⟨dn, e, s.inv, g, h1, h2, h3, hdn, fun x => (hm x).trans ⟨fun k u he hu => ?_, fun k u hu hd => ?_⟩⟩
  ·have := k u ((hmem u).1 he) (by rw [Int.toNat_natCast]; exact hu)
   rwa [Int.toNat_natCast] at this
  ·obtain ⟨u', e2, _, he⟩ := (fromL_mem f _ u).1 hu;subst e2;rw [Int.toNat_natCast] at hd ⊢;exact k u' he hd
theorem Swp.same (s : Swp f l m i c L) (ho : OrderOk f l) (h0 : 0 < f.code.length) (hi : i + 1 < l.length) {d : Int} (hd : MeetOf (nrOf L) (fromL (edgesL f) l[i + 1]) d) (he : nrOf L l[i + 1] = d) : Swp f l m (i + 1) c L := by
 obtain ⟨dn, rfl, st⟩ := s.stp ho h0 hi hd;obtain ⟨h1, h2, h3, h4⟩ := order_at ho h0 hi;have hn := st.next;rw [← he, nrOf_same L _ (by rw [s.len]; exact h4)] at hn;refine ⟨s.len, hn, s.ms, s.me, fun hc v hv hz hr u x hE hu hx => ?_⟩;by_cases e : l.idxOf v = i + 1
 ·have : v = l[i + 1] := st.g.inj v _ hv h1 (by omega);subst this;rw [he, Int.toNat_natCast] at hx;exact (st.m x).1 hx u hE hu
 ·exact s.qt hc v hv hz (by omega) u x hE hu hx
theorem Swp.chg (s : Swp f l m i c L) (ho : OrderOk f l) (h0 : 0 < f.code.length) (hi : i + 1 < l.length) {d : Int} (hd : MeetOf (nrOf L) (fromL (edgesL f) l[i + 1]) d) (he : nrOf L l[i + 1] ≠ d) : Swp f l m (i + 1) true (L.set l[i + 1] d) := by
 obtain ⟨dn, rfl, st⟩ := s.stp ho h0 hi hd;obtain ⟨h1, h2, h3, h4⟩ := order_at ho h0 hi;have hb : l[i + 1] < L.length := by rw [s.len]; exact h4
 have hn := st.next;rw [← nrOf_set L _ _ hb] at hn;refine ⟨by rw [List.length_set]; exact s.len, hn, fun _ => ?_, (by simp), (by simp)⟩;have hlt : msr f.code.length l.idxOf (L.set l[i + 1] (dn : Int)) < msr f.code.length l.idxOf L := by
  refine msr_set hb ?_ ?_
  ·have := st.rkd;have := order_len2 ho h0;omega
  ·by_cases hneg : nrOf L l[i + 1] < 0
   ·exact .inl hneg
   ·refine .inr ⟨(nrOf L l[i + 1]).toNat, by omega, st.lower (y := (nrOf L l[i + 1]).toNat) (by omega) (by omega)⟩
 cases c with
 | false => rw [← s.me rfl]; exact hlt
 | true => have := s.ms rfl; omega
/-- what dom.Tree tells -/
structure TreeOk (f : PFunc) (near : List Int) (nr : Nat → Int) (rk : Nat → Nat) : Prop where
 len : near.length = f.code.length
 z : near[0]? = some (-1)
 at_ : ∀ v, 0 < v → v < f.code.length → near[v]? = some (nr v)
 nz : nr 0 = 0
 up : ∀ v u : Nat, v ≠ 0 → nr v = (u : Int) → Rch f v ∧ Rch f u ∧ rk u < rk v
 dn : ∀ v, Rch f v → 0 ≤ nr v
 dom : ∀ v x, Rch f v → (Ch nr v x ↔ ¬ (x ≠ 0 ∧ Wx (EdgeP f) x 0 v))
theorem Swp.fin (s : Swp f l m i false L) (ho : OrderOk f l) (h0 : 0 < f.code.length) (hi : ¬ i + 1 < l.length) : TreeOk f (L.set 0 (-1)) (nrOf L) l.idxOf := by
 have g := grf_of ho h0;have hp : ∀ v, Rch f v → l.idxOf v < i + 1 := fun v hv => by
  have := List.idxOf_lt_length_of_mem ((ho.mem v).2 hv); omega
 refine ⟨by rw [List.length_set]; exact s.len, by rw [List.getElem?_set_self (by rw [s.len]; exact h0)], fun v hv hl => ?_, s.inv.z, fun v u hv he => ?_, fun v hv => s.inv.dn v hv (hp v hv), fun v x hv => ?_⟩
 ·rw [List.getElem?_set_ne (by omega)]; exact nrOf_some L v (by rw [s.len]; exact hl)
 ·have := s.inv.tr v u hv he;exact ⟨this.1, this.2.1, this.2.2.2⟩
 ·exact s.inv.dom g hp (fun v hv hz u x hE hx => s.qt rfl v hv hz (hp v hv) u x hE (s.inv.dn u hE.1 (hp u hE.1)) hx) hv
theorem Swp.more (s : Swp f l m i true L) (ho : OrderOk f l) (hi : ¬ i + 1 < l.length) : NInv (EdgeP f) (Rch f) l.idxOf (nrOf L) 1 ∧ msr f.code.length l.idxOf L < m :=
 ⟨s.inv.again fun v hv => by have := List.idxOf_lt_length_of_mem ((ho.mem v).2 hv); omega, s.ms rfl⟩
theorem nrOf_first (n : Nat) (h : 0 < n) : nrOf ((List.replicate n (-1)).set 0 0) = upd (fun _ => -1) 0 0 := by
 rw [nrOf_set _ _ _ (by simpa using h)];congr 1;funext v;unfold nrOf;rw [List.getD_eq_getElem?_getD, List.getElem?_replicate];split <;> rfl
end
end
section
theorem Nums_set (l : List Int) (i : Nat) (d : Int) : (Nums l).set i (.int .i64 d) = Nums (l.set i d) := by simp [Nums]
theorem madeNums (n : Nat) : madeCells #[.int .i64 0] n = (Nums (List.replicate n 0)).toArray := by
 apply Array.ext
 ·simp [madeCells, Nums]
 ·intro i h1 h2;simp [madeCells, Nums, Nat.mod_one]
theorem madeNils (n : Nat) : madeCells #[.slice none 0 0] n = (List.replicate n (Value.slice none 0 0)).toArray := by
 apply Array.ext
 ·simp [madeCells]
 ·intro i h1 h2;simp [madeCells, Nat.mod_one]
theorem Tryd.infoS : (Tryd.prog.info? 47).map (fun i => (i.zero, i.size, i.bytes)) = some (some (.slice none 0 0), 1, 24) := by kernel_rfl
/-- an own row of own rows of numbers -/
structure FromAt (W : World) (lo fb n : Nat) (G : Nat → List Int) (S : List Value) : Prop where
 row : W.ownsRow 0 47 1 (.slice (some ⟨fb, 0, none⟩) n n) n S
 len : S.length = n
 each : ∀ v s, S[v]? = some s → W.ownsRow 0 3 1 s (G v).length (Nums (G v))
 low : ∀ (v : Nat) s k, S[v]? = some s → s.ownBlock = some k → lo ≤ k
 lf : fb < lo
 dis : ∀ (u v : Nat) s t k, S[u]? = some s → S[v]? = some t → s.ownBlock = some k → t.ownBlock = some k → u = v
/-- the blocks of such rows -/
def OwnF (fb n : Nat) (W : World) (k : Nat) : Prop := k = fb ∨ ∃ v l c, v < n ∧ W.cell? ⟨fb, v, none⟩ = some (.slice (some ⟨k, 0, none⟩) l c)
section
variable {W : World} {lo fb n : Nat} {G : Nat → List Int} {S : List Value}
theorem FromAt.at (h : FromAt W lo fb n G S) {v : Nat} (hv : v < n) : ∃ s, S[v]? = some s := ⟨S[v]'(by rw [h.len]; exact hv), List.getElem?_eq_getElem _⟩
theorem FromAt.cell (h : FromAt W lo fb n G S) {v : Nat} {s : Value} (hs : S[v]? = some s) : W.cell? ⟨fb, v, none⟩ = some s := row_cell h.row hs
theorem FromAt.form (h : FromAt W lo fb n G S) {v : Nat} {s : Value} (hs : S[v]? = some s) : ∃ a c, s = .slice a (G v).length c := by
 rcases row_form (h.each v _ hs) with ⟨h1, h2, _⟩ | ⟨g, c, h1, _⟩
 ·exact ⟨none, 0, by rw [h1, h2]⟩
 ·exact ⟨_, c, h1⟩
theorem FromAt.ofOwn (h : FromAt W lo fb n G S) {k : Nat} (hk : OwnF fb n W k) : k = fb ∨ ∃ (v : Nat) (s : Value), S[v]? = some s ∧ s.ownBlock = some k := by
 rcases hk with hk | ⟨v, l, c, hv, hk⟩
 ·exact .inl hk
 ·obtain ⟨s, e⟩ := h.at hv;have := h.cell e;rw [hk] at this;injection this with this;subst this;exact .inr ⟨v, _, e, rfl⟩
theorem FromAt.toOwn (h : FromAt W lo fb n G S) {k v : Nat} {s : Value} (hs : S[v]? = some s) (hk : s.ownBlock = some k) : OwnF fb n W k := by
 have hv : v < n := by have := (List.getElem?_eq_some_iff.1 hs).1; rw [h.len] at this; exact this
 rcases row_form (h.each v s hs) with ⟨h1, h2, _⟩ | ⟨g, c, h1, _⟩
 ·rw [h1] at hk; cases hk
 ·rw [h1] at hk;injection hk with hk;subst hk;exact .inr ⟨v, _, c, hv, by rw [h.cell hs, h1]⟩
theorem FromAt.ownLt (h : FromAt W lo fb n G S) {k : Nat} (hk : OwnF fb n W k) : k < W.heap.size := by
 rcases h.ofOwn hk with rfl | ⟨v, s, hs, hk⟩
 ·exact row_ltB h.row
 ·exact row_lt (h.each v s hs) hk
theorem FromAt.ownGe (h : FromAt W lo fb n G S) {k : Nat} (hk : OwnF fb n W k) : k = fb ∨ lo ≤ k := by
 rcases h.ofOwn hk with rfl | ⟨v, s, hs, hk⟩
 ·exact .inl rfl
 ·exact .inr (h.low v s k hs hk)
/-- as long as the blocks stay -/
theorem FromAt.chg {T : Nat → Prop} {W' : World} (h : FromAt W lo fb n G S) (hc : Chg T W W') (hT : ∀ k, OwnF fb n W k → ¬ T k) : FromAt W' lo fb n G S :=
 ⟨row_chg hc h.row (fun k hk => hT k (.inl (by simpa [Value.ownBlock, eq_comm] using hk))), h.len, fun v s hs => row_chg hc (h.each v s hs) (fun k hk => hT k (h.toOwn hs hk)), h.low, h.lf, h.dis⟩
theorem FromAt.below {W' : World} (h : FromAt W lo fb n G S) (hc : Below W.heap.size W W') : FromAt W' lo fb n G S := h.chg (T := fun _ => False) (Chg.of hc) (fun _ _ h => h)
theorem FromAt.chgLow {T : Nat → Prop} {W' : World} (h : FromAt W lo fb n G S) (hc : Chg T W W') (hT : ∀ k, T k → k < lo) (hf : ¬ T fb) : FromAt W' lo fb n G S :=
 h.chg hc (fun k hk ht => by
  rcases h.ownGe hk with rfl | h2
  ·exact hf ht
  ·have := hT k ht; omega)
/-- a number more in one of the rows -/
theorem FromAt.push {W' : World} {v : Nat} {s s' : Value} {x : Int} (h : FromAt W lo fb n G S) (hs : S[v]? = some s) (hc : Chg (fun k => s.ownBlock = some k) W W')
 (hr : W'.ownsRow 0 3 1 s' ((G v).length + 1) (Nums (G v) ++ Nums [x])) (hb : ∀ k, s'.ownBlock = some k → s.ownBlock = some k ∨ W.heap.size ≤ k) (hlo : lo ≤ W.heap.size) :
 FromAt (W'.setCell ⟨fb, v, none⟩ s') lo fb n (fun k => if k = v then G v ++ [x] else G k) (S.set v s') ∧ KpE (OwnF fb n) W (W'.setCell ⟨fb, v, none⟩ s') := by
 have hvl : v < S.length := (List.getElem?_eq_some_iff.1 hs).1;have hself : (S.set v s')[v]? = some s' := List.getElem?_set_self hvl;have hoth : ∀ u, u ≠ v → (S.set v s')[u]? = S[u]? := fun u hu => List.getElem?_set_ne (by omega);have hfs : ¬ s.ownBlock = some fb := fun e => by have := h.low v s fb hs e; have := h.lf; omega
 have hfr := row_ltB h.row;have hrow := row_chg hc h.row (fun k hk => by have : fb = k := (by simpa [Value.ownBlock] using hk); subst this; exact hfs);have hst : Chg (· = fb) W' (W'.setCell ⟨fb, v, none⟩ s') := Chg.setCell (S := (· = fb)) (Chg.refl _ _) (p := ⟨fb, v, none⟩) (Or.inl rfl) _;have hb' : ∀ k, s'.ownBlock = some k → k ≠ fb := fun k hk e => by
  subst e;rcases hb _ hk with h1 | h1
  ·exact hfs h1
  ·omega
 have hlow : ∀ (u : Nat) (t : Value) k, (S.set v s')[u]? = some t → t.ownBlock = some k → lo ≤ k := by
  intro u t k hu hk;by_cases e : u = v
  ·subst e;rw [hself] at hu; cases hu;rcases hb k hk with h1 | h1
   ·exact h.low u s k hs h1
   ·omega
  ·rw [hoth u e] at hu; exact h.low u t k hu hk
 have hdis1 : ∀ (u : Nat) (t : Value) k, u ≠ v → S[u]? = some t → t.ownBlock = some k → ¬ s.ownBlock = some k := fun u t k hu ht hk e => hu (h.dis u v t s k ht hs hk e);have hF : FromAt (W'.setCell ⟨fb, v, none⟩ s') lo fb n (fun k => if k = v then G v ++ [x] else G k) (S.set v s') := by
  refine ⟨row_set hrow v s', by rw [List.length_set]; exact h.len, ?_, hlow, h.lf, ?_⟩
  ·intro u t hu;by_cases e : u = v
   ·subst e;rw [hself] at hu; cases hu;rw [if_pos rfl, List.length_append, Nums_append];exact row_chg hst hr (fun k hk e => hb' k hk e)
   ·rw [hoth u e] at hu;rw [if_neg e];exact row_chg hst (row_chg hc (h.each u t hu) (fun k hk => hdis1 u t k e hu hk)) (fun k hk e2 => by have := h.low u t k hu hk; have := h.lf; omega)
  ·intro u1 u2 t1 t2 k h1 h2 k1 k2;by_cases e1 : u1 = v
   ·by_cases e2 : u2 = v
    ·omega
    ·subst e1;rw [hself] at h1; cases h1;rw [hoth u2 e2] at h2;rcases hb k k1 with h3 | h3
     ·exact absurd h3 (hdis1 u2 t2 k e2 h2 k2)
     ·have := row_lt (h.each u2 t2 h2) k2; omega
   ·rw [hoth u1 e1] at h1;by_cases e2 : u2 = v
    ·subst e2;rw [hself] at h2; cases h2;rcases hb k k2 with h3 | h3
     ·exact absurd h3 (hdis1 u1 t1 k e1 h1 k1)
     ·have := row_lt (h.each u1 t1 h1) k1; omega
    ·rw [hoth u2 e2] at h2;exact h.dis u1 u2 t1 t2 k h1 h2 k1 k2
 refine ⟨hF, ?_, ?_⟩
 ·refine Chg.trans2 (hc.mono fun k _ hk => h.toOwn hs hk) hst ?_;intro k _ e; exact .inl e
 ·intro k hk;rcases hF.ofOwn hk with rfl | ⟨u, t, hu, hk⟩
  ·exact .inl (.inl rfl)
  ·by_cases e : u = v
   ·subst e;rw [hself] at hu; cases hu;rcases hb k hk with h1 | h1
    ·exact .inl (h.toOwn hs h1)
    ·exact .inr (by omega)
   ·rw [hoth u e] at hu;exact .inl (h.toOwn hu hk)
end
theorem row_turn {b : Nat} {W W' : World} (c : Turn b W W') {e size n : Nat} {v : Value} {xs : List Value} (h : W.ownsRow 0 e size v n xs) : W'.ownsRow 0 e size v n xs := by
 obtain ⟨h1, h2⟩ := h;refine ⟨h1, ?_⟩;rcases h2 with h2 | ⟨g, cap, cur, rfl, hb, hh, rest⟩
 ·exact .inl h2
 ·exact .inr ⟨g, cap, cur, rfl, hb, by rw [c.cellsAt hh]; exact hh, rest⟩
theorem Own.turn {b : Nat} {W W' : World} (c : Turn b W W') {k : Nat} {cs : List Value} (o : Own W k cs) (hk : k < b) : Own W' k cs :=
 (Chg.mk (S := fun q => b ≤ q) c.os c.tape c.output (Nat.le_of_eq c.size.symm) (fun q _ hq => c.block q (.inl (by omega)))).own o (by omega)
theorem FromAt.turn {b : Nat} {W W' : World} {lo fb n : Nat} {G : Nat → List Int} {S : List Value} (c : Turn b W W') (h : FromAt W lo fb n G S) : FromAt W' lo fb n G S :=
 ⟨row_turn c h.row, h.len, fun v s hs => row_turn c (h.each v s hs), h.low, h.lf, h.dis⟩
theorem OwnF.iff {fb n k : Nat} {W W' : World} (h : W'.heap[fb]? = W.heap[fb]?) : OwnF fb n W' k ↔ OwnF fb n W k := by
 unfold OwnF;have e : ∀ v, W'.cell? ⟨fb, v, none⟩ = W.cell? ⟨fb, v, none⟩ := fun v => World.cell?_of_block h;simp only [e]
/-- what dom.Tree holds -/
structure TMem (n : Nat) (w W : World) (fb lb lc : Nat) (K L l : List Int) (G : Nat → List Int) (S : List Value) : Prop where
 bel : Below w.heap.size w W
 sz : fb + 3 ≤ W.heap.size
 fr : FromAt W (fb + 5) fb n G S
 rank : W.ownsRow 0 3 1 (.slice (some ⟨w.heap.size + 1, 0, none⟩) n n) n (Nums K)
 near : W.ownsRow 0 3 1 (.slice (some ⟨w.heap.size + 1 + 1, 0, none⟩) n n) n (Nums L)
 lrow : W.ownsRow 0 3 1 (.slice (some ⟨lb, 0, none⟩) l.length lc) l.length (Nums l)
 box : Own W (fb + 1) [.slice (some ⟨fb, 0, none⟩) n n]
 l1 : w.heap.size + 3 ≤ lb
 l2 : lb < fb
section
variable {n : Nat} {w W W' : World} {fb lb lc : Nat} {K L l : List Int} {G : Nat → List Int} {S : List Value}
theorem TMem.below (h : TMem n w W fb lb lc K L l G S) (hb : Below W.heap.size W W') : TMem n w W' fb lb lc K L l G S :=
 ⟨h.bel.trans (hb.mono h.bel.size), Nat.le_trans h.sz hb.size, h.fr.below hb, row_below hb h.rank, row_below hb h.near, row_below hb h.lrow, h.box.below hb, h.l1, h.l2⟩
theorem TMem.turn (h : TMem n w W fb lb lc K L l G S) (c : Turn (fb + 3) W W') : TMem n w W' fb lb lc K L l G S :=
 ⟨h.bel.trans (c.below.mono (by have := h.l1; have := h.l2; omega)), by rw [c.size]; exact h.sz, h.fr.turn c, row_turn c h.rank, row_turn c h.near, row_turn c h.lrow, h.box.turn c (by omega), h.l1, h.l2⟩
theorem TMem.push (h : TMem n w W fb lb lc K L l G S) (hsz : fb + 5 ≤ W.heap.size) {v : Nat} {s s' : Value} {x : Int} (hs : S[v]? = some s) (hc : Chg (fun k => s.ownBlock = some k) W W')
 (hr : W'.ownsRow 0 3 1 s' ((G v).length + 1) (Nums (G v) ++ Nums [x])) (hb : ∀ k, s'.ownBlock = some k → s.ownBlock = some k ∨ W.heap.size ≤ k) :
 TMem n w (W'.setCell ⟨fb, v, none⟩ s') fb lb lc K L l (fun k => if k = v then G v ++ [x] else G k) (S.set v s') ∧ KpE (OwnF fb n) W (W'.setCell ⟨fb, v, none⟩ s') := by
 obtain ⟨h1, h2⟩ := h.fr.push hs hc hr hb hsz;have hn : ∀ k, k < fb + 5 → k ≠ fb → ¬ OwnF fb n W k := fun k hk hne ho => by
  rcases h.fr.ownGe ho with e | e
  ·exact hne e
  ·omega
 have l1 := h.l1; have l2 := h.l2;refine ⟨⟨h.bel.trans (h2.1.below _ h.bel.size (fun k hk => hn k (by omega) (by omega))), Nat.le_trans h.sz h2.1.size, h1, ?_, ?_, ?_, h2.1.own h.box (hn _ (by omega) (by omega)), h.l1, h.l2⟩, h2⟩
 ·exact row_chg h2.1 h.rank (fun k hk => hn k (by have : w.heap.size + 1 = k := (by simpa [Value.ownBlock] using hk); omega) (by have : w.heap.size + 1 = k := (by simpa [Value.ownBlock] using hk); omega))
 ·exact row_chg h2.1 h.near (fun k hk => hn k (by have : w.heap.size + 1 + 1 = k := (by simpa [Value.ownBlock] using hk); omega) (by have : w.heap.size + 1 + 1 = k := (by simpa [Value.ownBlock] using hk); omega))
 ·exact row_chg h2.1 h.lrow (fun k hk => hn k (by have : lb = k := (by simpa [Value.ownBlock] using hk); omega) (by have : lb = k := (by simpa [Value.ownBlock] using hk); omega))
theorem TMem.setNear (h : TMem n w W fb lb lc K L l G S) (v : Nat) (d : Int) : TMem n w (W.setCell ⟨w.heap.size + 1 + 1, v, none⟩ (.int .i64 d)) fb lb lc K (L.set v d) l G S := by
 have hst : Chg (· = w.heap.size + 1 + 1) W (W.setCell ⟨w.heap.size + 1 + 1, v, none⟩ (.int .i64 d)) := Chg.setCell (S := (· = w.heap.size + 1 + 1)) (Chg.refl _ _) (p := ⟨w.heap.size + 1 + 1, v, none⟩) (Or.inl rfl) _;have l1 := h.l1; have l2 := h.l2;have hN := row_set h.near v (.int .i64 d);rw [Nums_set] at hN;exact ⟨h.bel.trans (hst.below _ h.bel.size (fun k hk e => by omega)), Nat.le_trans h.sz hst.size, h.fr.chgLow hst (fun k e => by omega) (by omega),
  row_chg hst h.rank (fun k hk e => by have : w.heap.size + 1 = k := (by simpa [Value.ownBlock] using hk); omega), hN,
  row_chg hst h.lrow (fun k hk e => by have : lb = k := (by simpa [Value.ownBlock] using hk); omega), hst.own h.box (by omega), h.l1, h.l2⟩
theorem TMem.drew (h : TMem n w W fb lb lc K L l G S) : TMem n w W.drew fb lb lc K L l G S := h.below ((Below.refl _ _).drew)
end
end
section
def nilS : Value := .slice none 0 0
def rowM (s : Nat → Option Value) : Int → Option Value := fun i => if 0 ≤ i then s i.toNat else none
theorem rowM_nat (s : Nat → Option Value) (v : Nat) : rowM s (v : Int) = s v := by simp [rowM]
structure GraphAt (W : World) (lo b0 n : Nat) (G : Nat → Nat → List Int) (S : Nat → Nat → Option Value) : Prop where
 map : ∀ c, c < 3 → MapAt W (b0 + c) n (rowM (S c))
 each : ∀ c v s, c < 3 → S c v = some s → W.ownsRow 0 3 1 s (G c v).length (Nums (G c v))
 ent : ∀ c v, c < 3 → ((S c v).isSome = true ↔ G c v ≠ [])
 low : ∀ c v s k, c < 3 → S c v = some s → s.ownBlock = some k → lo ≤ k
 lb : b0 + 3 ≤ lo
 dis : ∀ c v s d u t k, c < 3 → d < 3 → S c v = some s → S d u = some t → s.ownBlock = some k → t.ownBlock = some k → c = d ∧ v = u
 big : ∀ c v, c < 3 → ¬ v < 1024 → S c v = none
/-- the blocks of the graph -/
def OwnG (b0 : Nat) (W : World) (k : Nat) : Prop := (b0 ≤ k ∧ k < b0 + 3) ∨ ∃ c v n M l cp, c < 3 ∧ v < 1024 ∧ MapAt W (b0 + c) n M ∧ M (v : Nat) = some (.slice (some ⟨k, 0, none⟩) l cp)
theorem inI_nat {v : Nat} (h : v < 1024) : inI (v : Int) := by unfold inI; omega
section
variable {W W' : World} {lo b0 n : Nat} {G : Nat → Nat → List Int} {S : Nat → Nat → Option Value}
/-- the row at a key, nil where there is none -/
theorem GraphAt.row (h : GraphAt W lo b0 n G S) {c v : Nat} (hc : c < 3) : W.ownsRow 0 3 1 ((S c v).getD nilS) (G c v).length (Nums (G c v)) := by
 cases hs : S c v with
 | none =>
  have : G c v = [] := by
   cases hg : G c v with
   | nil => rfl
   | cons a t =>
    have := (h.ent c v hc).2 (by rw [hg]; simp);rw [hs] at this; cases this
  rw [this]; exact World.ownsRow_nil _ _ _ _
 | some s => exact h.each c v s hc hs
theorem GraphAt.ownBlock (h : GraphAt W lo b0 n G S) {c v k : Nat} (hc : c < 3) (hk : ((S c v).getD nilS).ownBlock = some k) : ∃ s, S c v = some s ∧ s.ownBlock = some k := by
 cases hs : S c v with
 | none => rw [hs] at hk; cases hk
 | some s => rw [hs] at hk; exact ⟨s, rfl, hk⟩
theorem GraphAt.ofOwn (h : GraphAt W lo b0 n G S) {k : Nat} (hk : OwnG b0 W k) : (b0 ≤ k ∧ k < b0 + 3) ∨ ∃ c v s, c < 3 ∧ S c v = some s ∧ s.ownBlock = some k := by
 rcases hk with hk | ⟨c, v, n', M, l, cp, hc, hv, hm, hM⟩
 ·exact .inl hk
 ·refine .inr ⟨c, v, .slice (some ⟨k, 0, none⟩) l cp, hc, ?_, rfl⟩;have := hm.uniq (h.map c hc) (inI_nat hv);rw [hM, rowM_nat] at this;exact this.symm
theorem GraphAt.toOwn (h : GraphAt W lo b0 n G S) {c v k : Nat} {s : Value} (hc : c < 3) (hs : S c v = some s) (hk : s.ownBlock = some k) : OwnG b0 W k := by
 have hv : v < 1024 := by
  refine Classical.byContradiction fun hv => ?_;rw [h.big c v hc hv] at hs; cases hs
 rcases row_form (h.each c v s hc hs) with ⟨h1, _, _⟩ | ⟨g, cp, h1, _⟩
 ·rw [h1] at hk; cases hk
 ·rw [h1] at hk;have e : g = k := Option.some.inj hk;subst e;exact .inr ⟨c, v, n, _, _, cp, hc, hv, h.map c hc, by rw [rowM_nat, hs, h1]⟩
theorem GraphAt.ownLt (h : GraphAt W lo b0 n G S) {k : Nat} (hk : OwnG b0 W k) : k < W.heap.size := by
 rcases h.ofOwn hk with ⟨h1, h2⟩ | ⟨c, v, s, hc, hs, hk⟩
 ·have := (h.map (k - b0) (by omega)).lt;omega
 ·exact row_lt (h.each c v s hc hs) hk
theorem GraphAt.ownGe (h : GraphAt W lo b0 n G S) {k : Nat} (hk : OwnG b0 W k) : (b0 ≤ k ∧ k < b0 + 3) ∨ lo ≤ k := by
 rcases h.ofOwn hk with h1 | ⟨c, v, s, hc, hs, hk⟩
 ·exact .inl h1
 ·exact .inr (h.low c v s k hc hs hk)
theorem OwnG.iff {k : Nat} (h : ∀ c, c < 3 → W'.heap[b0 + c]? = W.heap[b0 + c]?) : OwnG b0 W' k ↔ OwnG b0 W k := by
 unfold OwnG;constructor
 ·rintro (h1 | ⟨c, v, n, M, l, cp, hc, hv, hm, hM⟩)
  ·exact .inl h1
  ·exact .inr ⟨c, v, n, M, l, cp, hc, hv, hm.keep (h c hc).symm, hM⟩
 ·rintro (h1 | ⟨c, v, n, M, l, cp, hc, hv, hm, hM⟩)
  ·exact .inl h1
  ·exact .inr ⟨c, v, n, M, l, cp, hc, hv, hm.keep (h c hc), hM⟩
theorem GraphAt.chg {T : Nat → Prop} (h : GraphAt W lo b0 n G S) (hc : Chg T W W') (hT : ∀ k, OwnG b0 W k → ¬ T k) : GraphAt W' lo b0 n G S :=
 ⟨fun c hcc => (h.map c hcc).chg hc (hT _ (.inl ⟨by omega, by omega⟩)), fun c v s hcc hs => row_chg hc (h.each c v s hcc hs) (fun k hk => hT k (h.toOwn hcc hs hk)), h.ent, h.low, h.lb, h.dis, h.big⟩
theorem GraphAt.below (h : GraphAt W lo b0 n G S) (hc : Below W.heap.size W W') : GraphAt W' lo b0 n G S := h.chg (T := fun _ => False) (Chg.of hc) (fun _ _ h => h)
theorem GraphAt.chgLow {T : Nat → Prop} (h : GraphAt W lo b0 n G S) (hc : Chg T W W') (hT : ∀ k, T k → k < lo ∧ ¬ (b0 ≤ k ∧ k < b0 + 3)) : GraphAt W' lo b0 n G S :=
 h.chg hc (fun k hk ht => by
  have := hT k ht;rcases h.ownGe hk with h1 | h2
  ·exact this.2 h1
  ·omega)
theorem GraphAt.turn {b : Nat} (c : Turn b W W') (h : GraphAt W lo b0 n G S) (hb : b0 + 3 ≤ b) : GraphAt W' lo b0 n G S :=
 ⟨fun d hd => (h.map d hd).keep (c.block _ (.inl (by omega))), fun d v s hd hs => row_turn c (h.each d v s hd hs), h.ent, h.low, h.lb, h.dis, h.big⟩
def updG (G : Nat → Nat → List Int) (c v : Nat) (x : Int) : Nat → Nat → List Int := fun d u => if d = c ∧ u = v then G c v ++ [x] else G d u
def updS (S : Nat → Nat → Option Value) (c v : Nat) (s : Value) : Nat → Nat → Option Value := fun d u => if d = c ∧ u = v then some s else S d u
theorem updS_self (S : Nat → Nat → Option Value) (c v : Nat) (s : Value) : updS S c v s c v = some s := by simp [updS]
theorem updS_ne {S : Nat → Nat → Option Value} {c v d u : Nat} {s : Value} (h : ¬ (d = c ∧ u = v)) : updS S c v s d u = S d u := by simp only [updS, if_neg h]
theorem updG_ne {G : Nat → Nat → List Int} {c v d u : Nat} {x : Int} (h : ¬ (d = c ∧ u = v)) : updG G c v x d u = G d u := by simp only [updG, if_neg h]
theorem updG_self (G : Nat → Nat → List Int) (c v : Nat) (x : Int) : updG G c v x c v = G c v ++ [x] := by simp [updG]
/-- a number more in one of the rows -/
theorem GraphAt.push {W1 W2 : World} {c v : Nat} {s' : Value} {x : Int} (h : GraphAt W lo b0 n G S) (hcc : c < 3) (hv : v < 1024) (hc : Chg (fun k => ((S c v).getD nilS).ownBlock = some k) W W1)
 (hr : W1.ownsRow 0 3 1 s' ((G c v).length + 1) (Nums (G c v) ++ Nums [x])) (hb : ∀ k, s'.ownBlock = some k → ((S c v).getD nilS).ownBlock = some k ∨ W.heap.size ≤ k) (hlo : lo ≤ W.heap.size)
 (hm : MapAt W2 (b0 + c) (n + 1) (updM (rowM (S c)) (v : Int) s')) (hc2 : Chg (· = b0 + c) W1 W2) :
 GraphAt W2 lo b0 (n + 1) (updG G c v x) (updS S c v s') ∧ KpE (OwnG b0) W W2 := by
 have hlb := h.lb;have hlow0 : ∀ k, ((S c v).getD nilS).ownBlock = some k → lo ≤ k := fun k hk => by
  obtain ⟨s, hs, hk⟩ := h.ownBlock hcc hk;exact h.low c v s k hcc hs hk
 have hlow : ∀ d u t k, d < 3 → updS S c v s' d u = some t → t.ownBlock = some k → lo ≤ k := by
  intro d u t k hd ht hk;by_cases e : d = c ∧ u = v
  ·obtain ⟨rfl, rfl⟩ := e;rw [updS_self] at ht; cases ht;rcases hb k hk with h1 | h1
   ·exact hlow0 k h1
   ·omega
  ·rw [updS_ne e] at ht; exact h.low d u t k hd ht hk
 have hdis1 : ∀ d u t k, d < 3 → ¬ (d = c ∧ u = v) → S d u = some t → t.ownBlock = some k → ¬ ((S c v).getD nilS).ownBlock = some k := fun d u t k hd hne ht hk e => by
  obtain ⟨s, hs, e⟩ := h.ownBlock hcc e;exact hne (h.dis d u t c v s k hd hcc ht hs hk e)
 have hrow : ∀ d u t, d < 3 → ¬ (d = c ∧ u = v) → S d u = some t → W2.ownsRow 0 3 1 t (G d u).length (Nums (G d u)) := fun d u t hd hne ht =>
  row_chg hc2 (row_chg hc (h.each d u t hd ht) (fun k hk => hdis1 d u t k hd hne ht hk)) (fun k hk e => by have := h.low d u t k hd ht hk; omega)
 have hF : GraphAt W2 lo b0 (n + 1) (updG G c v x) (updS S c v s') := by
  refine ⟨?_, ?_, ?_, hlow, h.lb, ?_, ?_⟩
  ·intro d hd;by_cases e : d = c
   ·subst e;have e2 : rowM (updS S d v s' d) = updM (rowM (S d)) (v : Int) s' := by
     funext i;unfold rowM updM;by_cases hi : 0 ≤ i
     ·rw [if_pos hi];by_cases e3 : i = (v : Int)
      ·subst e3; rw [if_pos rfl, Int.toNat_natCast, updS_self]
      ·rw [if_neg e3]; dsimp only; rw [if_pos hi, updS_ne (by omega)]
     ·rw [if_neg hi, if_neg (by omega)]; dsimp only; rw [if_neg hi]
    rw [e2]; exact hm
   ·have e2 : rowM (updS S c v s' d) = rowM (S d) := by
     funext i; unfold rowM; rw [updS_ne (by omega)]
    rw [e2];exact ((((h.map d hd).chg hc (fun hk => by have := hlow0 _ hk; omega)).chg hc2 (by omega)).mono (Nat.le_succ n))
  ·intro d u t hd ht;by_cases e : d = c ∧ u = v
   ·obtain ⟨rfl, rfl⟩ := e;rw [updS_self] at ht; cases ht;rw [updG_self, List.length_append, Nums_append];exact row_chg hc2 hr (fun k hk e => by
     rcases hb k hk with h1 | h1
     ·have := hlow0 k h1; omega
     ·omega)
   ·rw [updS_ne e] at ht;rw [updG_ne e];exact hrow d u t hd e ht
  ·intro d u hd;by_cases e : d = c ∧ u = v
   ·obtain ⟨rfl, rfl⟩ := e;rw [updS_self, updG_self]; simp
   ·rw [updS_ne e, updG_ne e]; exact h.ent d u hd
  ·intro d1 u1 t1 d2 u2 t2 k hd1 hd2 h1 h2 k1 k2;by_cases e1 : d1 = c ∧ u1 = v
   ·by_cases e2 : d2 = c ∧ u2 = v
    ·omega
    ·obtain ⟨rfl, rfl⟩ := e1;rw [updS_self] at h1; cases h1;rw [updS_ne e2] at h2;rcases hb k k1 with h3 | h3
     ·exact absurd h3 (hdis1 d2 u2 t2 k hd2 e2 h2 k2)
     ·have := row_lt (h.each d2 u2 t2 hd2 h2) k2; omega
   ·rw [updS_ne e1] at h1;by_cases e2 : d2 = c ∧ u2 = v
    ·obtain ⟨rfl, rfl⟩ := e2;rw [updS_self] at h2; cases h2;rcases hb k k2 with h3 | h3
     ·exact absurd h3 (hdis1 d1 u1 t1 k hd1 e1 h1 k1)
     ·have := row_lt (h.each d1 u1 t1 hd1 h1) k1; omega
    ·rw [updS_ne e2] at h2;exact h.dis d1 u1 t1 d2 u2 t2 k hd1 hd2 h1 h2 k1 k2
  ·intro d u hd hu;rw [updS_ne (by omega)]; exact h.big d u hd hu
 refine ⟨hF, ?_, ?_⟩
 ·refine Chg.trans2 (hc.mono fun k _ hk => ?_) hc2 ?_
  ·obtain ⟨s, hs, hk⟩ := h.ownBlock hcc hk;exact h.toOwn hcc hs hk
  ·intro k _ e; exact .inl ⟨by omega, by omega⟩
 ·intro k hk;rcases hF.ofOwn hk with h1 | ⟨d, u, t, hd, ht, hk⟩
  ·exact .inl (.inl h1)
  ·by_cases e : d = c ∧ u = v
   ·obtain ⟨rfl, rfl⟩ := e;rw [updS_self] at ht; cases ht;rcases hb k hk with h1 | h1
    ·obtain ⟨s, hs, hk⟩ := h.ownBlock hcc h1;exact .inl (h.toOwn hcc hs hk)
    ·exact .inr h1
   ·rw [updS_ne e] at ht;exact .inl (h.toOwn hd ht hk)
end
theorem zeroS (w : World) : (zeroValue 47).run Tryd.prog w = .ok nilS w := by kernel_rfl
theorem Tryd.mapS : Tryd.prog.underlying 78 = some (.map 3 47) := by kernel_rfl
end
section
/-- what is come to from some, by ways that do not go on from those of a set -/
inductive Cl (nx : Int → List Int) (b0 : Int → Bool) (t0 : List Int) : Int → Prop
 | start (x : Int) : x ∈ t0 → Cl nx b0 t0 x
 | step (x y : Int) : Cl nx b0 t0 x → b0 x = false → y ∈ nx x → Cl nx b0 t0 y
structure SInv (nx : Int → List Int) (b0 : Int → Bool) (t0 : List Int) (been : Int → Bool) (todo : List Int) : Prop where
 tr : ∀ x ∈ todo, Cl nx b0 t0 x
 br : ∀ x, been x = true → b0 x = true ∨ Cl nx b0 t0 x
 b0b : ∀ x, b0 x = true → been x = true
 t0t : ∀ x ∈ t0, x ∈ todo ∨ been x = true
 cl : ∀ x, been x = true → b0 x = false → ∀ y ∈ nx x, y ∈ todo ∨ been y = true
section
variable {nx : Int → List Int} {b0 : Int → Bool} {t0 : List Int} {been : Int → Bool} {t : List Int} {a : Int}
theorem SInv.start : SInv nx b0 t0 b0 t0 := ⟨fun x hx => .start x hx, fun x hx => .inl hx, fun x hx => hx, fun x hx => .inl hx, fun x h1 h2 => by rw [h1] at h2; cases h2⟩
theorem SInv.drop (h : SInv nx b0 t0 been (t ++ [a])) (ha : been a = true) : SInv nx b0 t0 been t := by
 have key : ∀ y, y ∈ t ++ [a] ∨ been y = true → y ∈ t ∨ been y = true := by
  intro y hy;rcases hy with hy | hy
  ·rcases List.mem_append.1 hy with k | k
   ·exact .inl k
   ·simp at k; subst k; exact .inr ha
  ·exact .inr hy
 exact ⟨fun x hx => h.tr x (by simp [hx]), h.br, h.b0b, fun x hx => key x (h.t0t x hx), fun x h1 h2 y hy => key y (h.cl x h1 h2 y hy)⟩
def addB (been : Int → Bool) (a : Int) : Int → Bool := fun x => decide (x = a) || been x
theorem addB_self (been : Int → Bool) (a : Int) : addB been a a = true := by simp [addB]
theorem addB_of {been : Int → Bool} {a x : Int} (h : been x = true) : addB been a x = true := by simp [addB, h]
theorem addB_inv {been : Int → Bool} {a x : Int} (h : addB been a x = true) : x = a ∨ been x = true := by simpa [addB] using h
theorem SInv.mark (h : SInv nx b0 t0 been (t ++ [a])) (ha : been a = false) : SInv nx b0 t0 (addB been a) (t ++ nx a) := by
 have hca := h.tr a (by simp);have hb0 : b0 a = false := by
  cases hb : b0 a with
  | false => rfl
  | true => rw [h.b0b a hb] at ha; cases ha
 have key : ∀ y, y ∈ t ++ [a] ∨ been y = true → y ∈ t ++ nx a ∨ addB been a y = true := by
  intro y hy;rcases hy with hy | hy
  ·rcases List.mem_append.1 hy with k | k
   ·exact .inl (by simp [k])
   ·simp at k; subst k; exact .inr (addB_self _ _)
  ·exact .inr (addB_of hy)
 refine ⟨fun x hx => ?_, fun x hx => ?_, fun x hx => addB_of (h.b0b x hx), fun x hx => key x (h.t0t x hx), fun x h1 h2 y hy => ?_⟩
 ·rcases List.mem_append.1 hx with k | k
  ·exact h.tr x (by simp [k])
  ·exact .step a x hca hb0 k
 ·rcases addB_inv hx with rfl | k
  ·exact .inr hca
  ·exact h.br x k
 ·rcases addB_inv h1 with rfl | k
  ·exact .inl (by simp [hy])
  ·exact key y (h.cl x k h2 y hy)
theorem SInv.done (h : SInv nx b0 t0 been []) (x : Int) : been x = true ↔ b0 x = true ∨ Cl nx b0 t0 x := by
 refine ⟨h.br x, fun k => ?_⟩;rcases k with k | k
 ·exact h.b0b x k
 ·induction k with
  | start x hx =>
   rcases h.t0t x hx with j | j
   ·simp at j
   ·exact j
  | step x y hx h0 hy ih =>
   rcases h.cl x ih h0 y hy with j | j
   ·simp at j
   ·exact j
/-- rounds still to come -/
def sLeft (been : Int → Bool) (todo : List Int) : Nat := 8192 * ((List.range 1024).filter fun k : Nat => !been k).length + todo.length
theorem sLeft_drop : sLeft been t < sLeft been (t ++ [a]) := by unfold sLeft; simp
theorem filt_lt {been : Int → Bool} {k : Nat} (hk : been k = false) : ∀ l : List Nat, k ∈ l → (l.filter fun x : Nat => !addB been k x).length < (l.filter fun x : Nat => !been x).length := by
 have mono : ∀ l : List Nat, (l.filter fun x : Nat => !addB been k x).length ≤ (l.filter fun x : Nat => !been x).length := by
  intro l
  induction l with
  | nil => simp
  | cons x l ih =>
   simp only [List.filter_cons];cases hx : been (x : Int)
   ·cases addB been (k : Int) (x : Int) <;> simp <;> omega
   ·rw [addB_of hx]; simpa using ih
 intro l
 induction l with
 | nil => intro h; simp at h
 | cons x l ih =>
  intro h;simp only [List.filter_cons];by_cases e : x = k
  ·subst e;rw [addB_self, hk];have := mono l;simp; omega
  ·have hm : k ∈ l := by
    rcases List.mem_cons.1 h with h | h
    ·exact absurd h.symm e
    ·exact h
   have := ih hm;have e2 : addB been (k : Int) (x : Int) = been (x : Int) := by simp [addB]; omega
   rw [e2];cases been (x : Int) <;> simp <;> omega
theorem sLeft_mark {k : Nat} (hk : k < 1024) (hb : been k = false) (hn : (nx k).length ≤ 4096) : sLeft (addB been k) (t ++ nx k) < sLeft been (t ++ [(k : Int)]) := by
 have := filt_lt hb (List.range 1024) (List.mem_range.2 hk);unfold sLeft;simp only [List.length_append, List.length_cons, List.length_nil];omega
theorem sLeft_len : t.length ≤ sLeft been t := by unfold sLeft; omega
theorem sLeft_le (h : t.length ≤ 8192) : sLeft been t ≤ 8192 * 1024 + 8192 := by
 have := List.length_filter_le (fun k : Nat => !been k) (List.range 1024);rw [List.length_range] at this;unfold sLeft; omega
end
end
section
def cntA (A : Nat → List Int) (rem : Nat → Bool) (v : Nat) : Nat := sumN 1024 fun u => if rem u then 0 else (A u).count (v : Int)
def addN (rem : Nat → Bool) (u : Nat) : Nat → Bool := fun k => decide (k = u) || rem k
theorem addN_self (rem : Nat → Bool) (u : Nat) : addN rem u u = true := by simp [addN]
theorem addN_ne {rem : Nat → Bool} {u k : Nat} (h : k ≠ u) : addN rem u k = rem k := by simp [addN, h]
theorem addN_of {rem : Nat → Bool} {u k : Nat} (h : rem k = true) : addN rem u k = true := by simp [addN, h]
theorem addN_inv {rem : Nat → Bool} {u k : Nat} (h : addN rem u k = true) : k = u ∨ rem k = true := by simpa [addN] using h
theorem cntA_add {A : Nat → List Int} {rem : Nat → Bool} {u : Nat} (hu : u < 1024) (hr : rem u = false) (v : Nat) : cntA A rem v = cntA A (addN rem u) v + (A u).count (v : Int) := by
 unfold cntA;have := sumN_upd (f := fun k => if rem k then 0 else (A k).count (v : Int)) (g := fun k => if addN rem u k then 0 else (A k).count (v : Int)) 1024 hu (fun k hk => by simp only [addN_ne hk]);simp only [addN_self, hr] at this;simp at this;omega
def leftN (n : Nat) (Rp : Nat → Bool) (rem : Nat → Bool) : Nat := sumN n fun v => if Rp v && !rem v then 1 else 0
theorem leftN_add {n : Nat} {Rp rem : Nat → Bool} {u : Nat} (hu : u < n) (h1 : Rp u = true) (h2 : rem u = false) : leftN n Rp rem = leftN n Rp (addN rem u) + 1 := by
 unfold leftN;have := sumN_upd (f := fun v => if Rp v && !rem v then 1 else 0) (g := fun v => if Rp v && !addN rem u v then 1 else 0) n hu (fun k hk => by simp only [addN_ne hk]);simp only [addN_self, h1, h2, Bool.not_true, Bool.and_false, Bool.not_false, Bool.and_true, if_true] at this;have e : (if false = true then 1 else 0 : Nat) = 0 := rfl;rw [e] at this;omega
/-- what stands while the edges of one that was taken away are gone through: rest: those still to come -/
structure KInv (A : Nat → List Int) (n : Nat) (Rp : Nat → Bool) (c : Nat → Nat) (rem : Nat → Bool) (todo : List Int) (rest : List Int) : Prop where
 cn : ∀ v, c v = cntA A rem v + rest.count (v : Int)
 t : ∀ x ∈ todo, ∃ v : Nat, x = v ∧ v < n ∧ Rp v = true ∧ rem v = false ∧ c v = 0
 nd : todo.Nodup
 r : ∀ v, rem v = true → v < n ∧ Acc (fun u x : Nat => (x : Int) ∈ A u ∧ u < 1024) v ∧ c v = 0
 k : ∀ v, v < n → Rp v = true → c v = 0 → (v : Int) ∈ todo ∨ rem v = true
section
variable {A : Nat → List Int} {n : Nat} {Rp : Nat → Bool} {c : Nat → Nat} {rem : Nat → Bool} {todo rest : List Int}
theorem KInv.acc (h : KInv A n Rp c rem todo rest) {v : Nat} (hv : c v = 0) : Acc (fun u x : Nat => (x : Int) ∈ A u ∧ u < 1024) v := by
 refine ⟨v, fun u ⟨h1, h2⟩ => ?_⟩;cases hr : rem u with
 | true => exact (h.r u hr).2.1
 | false =>
  have h3 := h.cn v;have h4 : cntA A rem v = 0 := by omega
  have h5 := sumN_zero 1024 h4 u h2;simp only [hr] at h5;have := List.count_pos_iff.2 h1;have h6 : (A u).count (v : Int) = 0 := by simpa using h5
  omega
theorem KInv.pop {t : List Int} {u : Nat} (h : KInv A n Rp c rem (t ++ [(u : Int)]) []) (hn : n ≤ 1024) : KInv A n Rp c (addN rem u) t (A u) ∧ u < n ∧ Rp u = true ∧ rem u = false ∧ leftN n Rp rem = leftN n Rp (addN rem u) + 1 := by
 obtain ⟨v, hv, hvn, h1, h2, h3⟩ := h.t (u : Int) (by simp);have e : u = v := by omega
 subst e;refine ⟨⟨fun v => ?_, fun x hx => ?_, ?_, fun v hv => ?_, fun v h4 h5 h6 => ?_⟩, hvn, h1, h2, leftN_add hvn h1 h2⟩
 ·have := h.cn v;rw [cntA_add (by omega) h2] at this;simpa using this
 ·obtain ⟨v, e, h4, h5, h6, h7⟩ := h.t x (by simp [hx]);subst e;refine ⟨v, rfl, h4, h5, ?_, h7⟩;rw [addN_ne]
  ·exact h6
  ·intro e;subst e;have := h.nd;rw [List.nodup_append] at this;exact this.2.2 _ hx _ (by simp) rfl
 ·have := h.nd;rw [List.nodup_append] at this;exact this.1
 ·rcases addN_inv hv with rfl | hv
  ·exact ⟨hvn, h.acc h3, h3⟩
  ·exact h.r v hv
 ·rcases h.k v h4 h5 h6 with h7 | h7
  ·rcases List.mem_append.1 h7 with h8 | h8
   ·exact .inl h8
   ·have h9 : (v : Int) = u := by simpa using h8
    have : v = u := by omega
    subst this; exact .inr (addN_self _ _)
  ·exact .inr (addN_of h7)
def decN (c : Nat → Nat) (x : Nat) : Nat → Nat := fun k => if k = x then c x - 1 else c k
def putT (c : Nat → Nat) (x : Nat) (todo : List Int) : List Int := if c x - 1 = 0 then todo ++ [(x : Int)] else todo
theorem KInv.step {x : Nat} (h : KInv A n Rp c rem todo ((x : Int) :: rest)) (hx : x < n) (hr : Rp x = true) : KInv A n Rp (decN c x) rem (putT c x todo) rest ∧ 0 < c x := by
 have h0 : c x = cntA A rem x + (rest.count (x : Int) + 1) := by
  have := h.cn x;rw [List.count_cons_self] at this;exact this
 have hne : ∀ {v : Nat}, v ≠ x → ((x : Int) :: rest).count (v : Int) = rest.count (v : Int) := fun {v} hv => by rw [List.count_cons_of_ne (by omega)]
 have hd : ∀ {v : Nat}, v ≠ x → decN c x v = c v := fun {v} hv => by simp [decN, hv]
 have hs : decN c x x = c x - 1 := by simp [decN]
 refine ⟨⟨fun v => ?_, fun y hy => ?_, ?_, fun v hv => ?_, fun v h4 h5 h6 => ?_⟩, by omega⟩
 ·by_cases e : v = x
  ·subst e; rw [hs]; omega
  ·rw [hd e, h.cn v, hne e]
 ·have hold : ∀ y ∈ todo, ∃ v : Nat, y = v ∧ v < n ∧ Rp v = true ∧ rem v = false ∧ decN c x v = 0 := fun y hy => by
   obtain ⟨v, e, h4, h5, h6, h7⟩ := h.t y hy;refine ⟨v, e, h4, h5, h6, ?_⟩;by_cases e2 : v = x
   ·subst e2; omega
   ·rw [hd e2]; exact h7
  unfold putT at hy;split at hy
  ·rename_i hc;rcases List.mem_append.1 hy with hy | hy
   ·exact hold y hy
   ·have : y = (x : Int) := by simpa using hy
    subst this;refine ⟨x, rfl, hx, hr, ?_, by rw [hs]; exact hc⟩;cases e : rem x with
    | false => rfl
    | true => have := (h.r x e).2.2; omega
  ·exact hold y hy
 ·unfold putT;split
  ·rw [List.nodup_append];refine ⟨h.nd, by simp, fun a ha b hb e => ?_⟩;have hb' : b = (x : Int) := by simpa using hb
   subst e;rw [hb'] at ha;obtain ⟨v, e, _, _, _, h7⟩ := h.t _ ha;have : x = v := by omega
   subst this; omega
  ·exact h.nd
 ·have := h.r v hv;have e : v ≠ x := fun e => by subst e; omega
  rw [hd e]; exact this
 ·by_cases e : v = x
  ·subst e;rw [hs] at h6;left; unfold putT; rw [if_pos h6]; simp
  ·rw [hd e] at h6;rcases h.k v h4 h5 h6 with h7 | h7
   ·left; unfold putT;split
    ·simp [h7]
    ·exact h7
   ·exact .inr h7
end
theorem Cl.front {nx : Int → List Int} {b0 : Int → Bool} {t0 t1 : List Int} {y z : Int} (h1 : y ∈ t1) (hy : b0 y = false) (h : Cl nx b0 (nx y) z) (h0 : t0 = nx y) : Cl nx b0 t1 z := by
 induction h with
 | start x hx => exact .step y x (.start y h1) hy hx
 | step x w _ hb hw ih => exact .step x w ih hb hw
/-- one behind which there is no endless way back does not come round -/
theorem acc_comes {A : Nat → List Int} (hA : ∀ u x, x ∈ A u → u < 1024 ∧ ∃ k : Nat, x = k ∧ k < 1024) {v : Nat} (h : Acc (fun u x : Nat => (x : Int) ∈ A u ∧ u < 1024) v) : ¬ Cl (fun i => A i.toNat) (fun _ => false) (A v) v := by
 induction h with
 | intro v _ ih =>
  intro hc;have hnat : ∀ {x : Int}, Cl (fun i => A i.toNat) (fun _ => false) (A v) x → ∃ k : Nat, x = k := fun {x} hx => by
   cases hx with
   | start _ hx => obtain ⟨_, k, e, _⟩ := hA _ _ hx; exact ⟨k, e⟩
   | step y _ h1 h2 h3 => obtain ⟨_, k, e, _⟩ := hA _ _ h3; exact ⟨k, e⟩
  cases hc with
  | start _ hx => exact ih v ⟨hx, (hA _ _ hx).1⟩ (.start _ hx)
  | step x _ h1 h2 h3 =>
   obtain ⟨u, rfl⟩ := hnat h1;rw [Int.toNat_natCast] at h3;refine ih u ⟨h3, (hA _ _ h3).1⟩ ?_;refine Cl.front (t0 := A v) h3 rfl ?_ ?_
   ·rw [Int.toNat_natCast]; exact h1
   ·rw [Int.toNat_natCast]
end
end Go.Proofs.YteebpnbdihcfmaaDoor
