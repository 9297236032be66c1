/- loops: members, walked. Loops in memory of one's own: a row of four cells each. The parents of loops, set one after the other, in plain words. Regions that draw their order: guarded operations. -/
import Derived.Test.YteebpnbdihcfmaaDoorJ10
import Derived.Test.YteebpnbdihcfmaaDoorJ11
import Derived.Test.YteebpnbdihcfmaaDoorJ29
import Derived.Test.YteebpnbdihcfmaaDoorJ06
set_option linter.unusedVariables false
set_option linter.unusedSimpArgs false
set_option maxRecDepth 100000
set_option maxHeartbeats 20000000
namespace Go.Proofs.YteebpnbdihcfmaaDoor
open Go.RowKit
theorem members_any (lo b0 n : Nat) (G : Nat → Nat → List Int) (S : Nat → Nat → Option Value) (w : World) (hg : GraphAt w lo b0 n G S) (hB : GBnd G) (v : Nat) (hv : v < 1024) :
 Calls Tryd.prog 26 #[.agg #[.map (some b0), .map (some (b0 + 1)), .map (some (b0 + 2))], .int .i64 v] w fun e w' => ∃ b q, e = .returned (.map (some b)) ∧ w.heap.size ≤ b ∧ MapAt w' b q (setM (inB_ G v)) ∧ Below w.heap.size w w' := by
 have hmm := @run_makeMap Tryd.prog;have HG := Lib.hid hg; clear hg;have hvi := inI_nat hv;go_enter Tryd.func26, Tryd.ntmps26;go_upto_region 1 with (fail)
 generalize hW0 : World.alloc _ _ = W0;have hb0 : Below w.heap.size w W0 := by rw [← hW0]; exact bel
 have OB0 : Own W0 w.heap.size [.map (some b0), .map (some (b0 + 1)), .map (some (b0 + 2))] := by rw [← hW0]; exact Own.new _ _ _
 have hz00 : W0.heap.size = w.heap.size + 1 := by rw [← hW0]; simp
 have hMa : MapAt (W0.alloc (.map #[] 0)) (w.heap.size + 1) 0 (fun _ => none) := by have h := MapAt.made W0; rwa [hz00] at h
 have hba : Below W0.heap.size W0 (W0.alloc (.map #[] 0)) := (Below.refl _ _).alloc (Nat.le_refl _) _;obtain ⟨W1, hrun1, hM1, hc1⟩ := hMa.set Tryd.mapU (by decide) hvi (.agg #[]);have hz1 := hc1.size;simp only [World.size_alloc] at hz1;have e0 : updM (fun _ => none) (v : Int) (.agg #[]) = setM (fun x => decide (x = (v : Int))) := by
  funext i; unfold updM setM; by_cases h : i = (v : Int) <;> simp [h]
 rw [e0] at hM1;have hba1 : Below w.heap.size w (W0.alloc (.map #[] 0)) := hb0.trans (hba.mono (by omega));have hb1' : Below w.heap.size w W1 := hba1.trans (hc1.below _ (by simp; omega) (fun k hk e => by omega));have OB1 := hc1.own (OB0.below hba) (by omega);go_upto_region 2 with (fail)
 clear hrun1 hmm hba1 hba hMa OB0 hc1 hb0 e0;clear hW0
 try rw [hz00]
 have hz0 : w.heap.size + 2 ≤ W1.heap.size := by omega
 clear hz1;have hg0 := HG.out.below hb1';have b3 := own3 OB1;have hlk := (hg0.map 2 (by decide)).get Tryd.mapS zeroS hvi;rw [rowM_nat] at hlk;have hrow := hg0.row (c := 2) (v := v) (by decide);have hnil := hg0.nil (c := 2) (v := v) (by decide);have hln := hB.ln 2 v;have HB0 := Lib.hid OB1; have HM0 := Lib.hid hM1; have HR0 := Lib.hid hrow;clear hg0 OB1 hM1 hrow;generalize (S 2 v).getD nilS = sv at *;go_wp2_with (first | (at_builtin; refine wpList_appS rfl (.const (.slice none 0 0)) (.tmp 17) 47 3 1 8 (.int .i64 0) rfl Tryd.underlying47 Tryd.infoI rfl (by decide) (.slice none 0 0) 0 [] rfl (World.ownsRow_nil _ _ _ _) sv (G 2 v).length (Nums (G 2 v)) rfl HR0.out hnil (Nums_one _) (by unfold maxLen; omega) (by omega) ?_; intro u6 w1 hr1 hc1 hg1) | fail)
 have hb01 : Below W1.heap.size W1 w1 := hc1.below _ (Nat.le_refl _) (fun k _ e => by cases e);have hz1 := hb01.size;have hb1 : Below w.heap.size w w1 := hb1'.trans (hb01.mono (by omega));have hg1' : ∀ j, u6.ownBlock = some j → w.heap.size + 2 ≤ j := fun j hj => by
  rcases hg1 j hj with h | h
  ·cases h
  ·omega
 rw [Nat.zero_add, List.nil_append] at hr1;have HB1 := Lib.hid (HB0.out.below hb01); have HM1 := Lib.hid (HM0.out.below hb01); have HR1 := Lib.hid hr1;have HS := Lib.hid (SInv.start (nx := nxG G 0) (b0 := fun x => decide (x = (v : Int))) (t0 := G 2 v));have hk0 : sLeft (fun x => decide (x = (v : Int))) (G 2 v) ≤ 8396800 := sLeft_le (by omega);have hz1' : w.heap.size + 2 ≤ w1.heap.size := by omega
 clear HB0 HM0 HR0 hr1 hc1 hg1 hb01 hb1' hz1 hz0 hlk b3 hnil
 go_loopg [6] (sLeft (fun x => decide (x = (v : Int))) (G 2 v)) (fun k v6 wr => ∃ (been : Int → Bool) (todo : List Int) (m : Nat), k = sLeft been todo ∧ Hid (SInv (nxG G 0) (fun x => decide (x = (v : Int))) (G 2 v) been todo) ∧ m + k ≤ 8396801 ∧ Below w.heap.size w wr ∧ w.heap.size + 2 ≤ wr.heap.size ∧ Hid (Own wr w.heap.size [.map (some b0), .map (some (b0 + 1)), .map (some (b0 + 2))]) ∧ Hid (MapAt wr (w.heap.size + 1) m (setM been)) ∧ (∀ j, v6.ownBlock = some j → w.heap.size + 2 ≤ j) ∧ Hid (wr.ownsRow 0 3 1 v6 todo.length (Nums todo)))
 case atStart => exact ⟨_, _, 1, rfl, HS, by omega, hb1, hz1', HB1, HM1, hg1', HR1⟩
 case round =>
  clear hb1 hz1' HB1 HM1 hg1' HR1 HS hk0;obtain ⟨been, todo, m, rfl, hI, hm, hbr, hz, hb, hM, hvb, ht⟩ := hrel;have b3 := own3 hb.out;rcases nil_or_snoc todo with rfl | ⟨t, x, rfl⟩
  ·obtain ⟨va, vc, rfl⟩ : ∃ va vc, u6 = .slice va 0 vc := by
    rcases row_form ht.out with ⟨rfl, _, _⟩ | ⟨g, c, rfl, _, _, _⟩
    ·exact ⟨_, _, rfl⟩
    ·exact ⟨_, _, rfl⟩
   go_wp2;go_ret;go_light;refine ⟨w.heap.size + 1, m, rfl, by omega, ?_, hbr⟩;have e : setM (inB_ G v) = setM been := by
    funext i;have h := hI.out.done i;unfold setM;congr 1;have e2 : inB_ G v i = been i := by
     rw [Bool.eq_iff_iff, h];unfold inB_;simp
    rw [e2]
   rw [e]; exact hM.out
  ·have hln2 : (t ++ [x]).length = t.length + 1 := by simp
   have hlt : t.length + 1 ≤ 8396801 := by
    have := sLeft_len (been := been) (t := t ++ [x]);rw [hln2] at this;omega
   have hT2 := ht.out;rw [hln2] at hT2;obtain ⟨g, c, rfl, hgc, hgm, hgl⟩ := row_pos hT2 (by omega);have hgm' : c ≤ 9223372036854775807 := hgm;have t0 := row_cell hT2 (Nums_some (show (t ++ [x])[t.length]? = some x by simp));have hw1 : IntKind.i64.wrap ((t.length : Int) + 1 - 1) = (t.length : Int) := by rw [IntWalk.i64_in _ (by omega)]; omega
   have j1 : (0 : Int) < (t.length : Int) + 1 := by omega
   obtain ⟨a, rfl, ha⟩ := Cl.nat hB (hI.out.tr x (by simp));have hpop := row_take hT2 t.length (by omega);rw [Nat.mul_one, show (Nums (t ++ [(a : Int)])).take t.length = Nums t by rw [Nums_append, ← Nums_len t, List.take_left]] at hpop;have hvg := hvb g rfl;have HP := Lib.hid hpop; clear hpop hT2 ht;have hlk := hM.out.getOk Tryd.mapU zeroU (inI_nat ha);rw [(setM_get been a).1, (setM_get been a).2] at hlk;have hmk := Lib.hid (fun hb => hI.out.mark (a := (a : Int)) hb);have hdp := Lib.hid (fun hb => hI.out.drop (a := (a : Int)) hb);have hlm := Lib.hid (fun (hb : been (a : Int) = false) => sLeft_mark (nx := nxG G 0) (been := been) (t := t) ha hb (hB.ln 0 _));have hld := Lib.hid (sLeft_drop (been := been) (t := t) (a := (a : Int)));cases hba : been (a : Int)
   ·rw [hba] at hlk;go_upto_region 8 with (fail)
    have hbA : Below wr.heap.size wr (wr.alloc (.cells #[] 85)) := (Below.refl _ wr).alloc (Nat.le_refl _) _;generalize hWA : wr.alloc (.cells #[] 85) = WA at *;have hzA := hbA.size;have hmq : m < maxLen := by unfold maxLen; omega
    obtain ⟨W2, hrun2, hM2, hc2⟩ := (hM.out.below hbA).set Tryd.mapU hmq (inI_nat ha) (.agg #[]);rw [setM_add] at hM2;have hz2 := hc2.size;have hbw : Below w.heap.size w WA := hbr.trans (hbA.mono (by omega));have hb2 : Below w.heap.size w W2 := hbw.trans (hc2.below _ (by omega) (fun k hk e => by omega));have OB2 := hc2.own (hb.out.below hbA) (by omega);have b3' := own3 OB2;have P2 := row_chg hc2 (row_below hbA HP.out) (fun k hk e => by have h7 : g = k := (by simpa [Value.ownBlock] using hk); omega);have hg2 := HG.out.below hb2;have hlk2 := (hg2.map 0 (by decide)).get Tryd.mapS zeroS (inI_nat ha);rw [rowM_nat] at hlk2
    try rw [Nat.add_zero] at hlk2
    have hrow2 := hg2.row (c := 0) (v := a) (by decide);have hnil2 := hg2.nil (c := 0) (v := a) (by decide);have hln3 := hB.ln 0 a;have hlm2 := hlm.out hba;have hmk2 := Lib.hid (hmk.out hba);unfold nxG at hlm2;rw [Int.toNat_natCast] at hlm2;have hnx : nxG G 0 (a : Int) = G 0 a := by unfold nxG; rw [Int.toNat_natCast]
    have HNX := Lib.hid hnx; clear hnx;have hsl : (t ++ G 0 a).length ≤ sLeft (addB been (a : Int)) (t ++ G 0 a) := sLeft_len;rw [List.length_append] at hsl;have HLM := Lib.hid hlm2;have HR2 := Lib.hid hrow2; have HP2 := Lib.hid P2; have HO2 := Lib.hid OB2; have HM2 := Lib.hid hM2;have hz3 : w.heap.size + 2 ≤ W2.heap.size := by omega
    have hvg2 : ∀ k, (Value.slice (some ⟨g, 0, none⟩) t.length c).ownBlock = some k → k = g := fun k hk => by simpa [Value.ownBlock, eq_comm] using hk
    clear hM2 OB2 P2 hrow2 hg2 hlk b3 hb HP hM hbA hWA hc2 hbw hbr hmk hdp hlm hld hI hlm2;generalize (S 0 a).getD nilS = sv2 at *;go_wp2_with (first | (at_builtin; refine wpList_appS rfl (.tmp 44) (.tmp 48) 47 3 1 8 (.int .i64 0) rfl Tryd.underlying47 Tryd.infoI rfl (by decide) _ t.length (Nums t) rfl HP2.out sv2 (G 0 a).length (Nums (G 0 a)) rfl HR2.out hnil2 (Nums_one _) (by unfold maxLen; omega) (by omega) ?_; intro u7 w3 hr3 hc3 hg3) | fail)
    have hz4 := hc3.size;rw [← Nums_append, ← List.length_append] at hr3
    go_roundg (sLeft (addB been (a : Int)) (t ++ G 0 a))
    case measure => exact HLM.out
    case rel =>
     refine ⟨addB been (a : Int), t ++ G 0 a, m + 1, rfl, Lib.hid (HNX.out ▸ hmk2.out), by have := HLM.out; omega, hb2.trans (hc3.below _ hb2.size (fun k hk e => by have := hvg2 k e; omega)), by omega, Lib.hid (hc3.own HO2.out (fun e => by have := hvg2 _ e; omega)), Lib.hid (HM2.out.chg hc3 (fun e => by have := hvg2 _ e; omega)), ?_, Lib.hid hr3⟩;intro j hj;rcases hg3 j hj with h | h
     ·have := hvg2 _ h; omega
     ·omega
   ·rw [hba] at hlk;go_wp2
    go_roundg (sLeft been t)
    case measure => exact hld.out
    case rel =>
     have hbA : Below wr.heap.size wr (wr.alloc (.cells #[] 85)) := (Below.refl _ wr).alloc (Nat.le_refl _) _;have := hbA.size;exact ⟨been, t, m, rfl, Lib.hid (hdp.out hba), by have := hld.out; omega, hbr.trans (hbA.mono (by omega)), by omega, Lib.hid (hb.out.below hbA), Lib.hid (hM.out.below hbA), fun j hj => hvb j hj, Lib.hid (row_below hbA HP.out)⟩
section
theorem BaseAt.mono {B B' : Nat} {a : Option Addr} {n b o : Nat} (h : BaseAt B a n b o) (hB : B ≤ B') : BaseAt B' a n b o := fun h0 => ⟨(h h0).1, Nat.lt_of_lt_of_le (h h0).2 hB⟩
theorem FuncOk.mono {B B' : Nat} {w : World} {h : HF} {f : PFunc} (k : FuncOk B w h f) (hB : B ≤ B') : FuncOk B' w h f := by
 obtain ⟨h1, ⟨a1, a2, b, o, a3, a4⟩, ⟨c1, c2, b', o', c3, c4⟩, h4, h5⟩ := k;exact ⟨h1, ⟨a1, a2, b, o, a3.mono hB, a4⟩, ⟨c1, c2, b', o', c3.mono hB, c4⟩, h4, h5⟩
theorem flat4 {α : Type} (f : α → List Value) (hf : ∀ a, (f a).length = 4) : ∀ (l : List α) (i c : Nat), c < 4 → (l.flatMap f)[i * 4 + c]? = (l[i]?).bind fun a => (f a)[c]?
 | [], i, c, hc => by simp
 | a :: l, 0, c, hc => by
  rw [List.flatMap_cons, List.getElem?_append_left (by rw [hf]; omega)];simp
 | a :: l, i + 1, c, hc => by
  rw [List.flatMap_cons, List.getElem?_append_right (by rw [hf]; omega), hf, show (i + 1) * 4 + c - 4 = i * 4 + c by omega, flat4 f hf l i c hc];simp
abbrev LTri := PLoop × Value × Value
def triCells (t : LTri) : List Value := [.int .i64 t.1.head, .int .i64 t.1.parent, t.2.1, t.2.2]
def cellsL (L : List LTri) : List Value := L.flatMap triCells
theorem cellsL_len (L : List LTri) : (cellsL L).length = L.length * 4 := by
 unfold cellsL
 induction L with
 | nil => rfl
 | cons a l ih => rw [List.flatMap_cons, List.length_append, ih]; simp [triCells]; omega
theorem cellsL_at (L : List LTri) (i c : Nat) (hc : c < 4) : (cellsL L)[i * 4 + c]? = (L[i]?).bind fun t => (triCells t)[c]? := flat4 triCells (fun _ => rfl) L i c hc
theorem cellsL_snoc (L : List LTri) (t : LTri) : cellsL (L ++ [t]) = cellsL L ++ triCells t := by simp [cellsL]
def withPar (t : LTri) (k : Int) : LTri := ({ t.1 with parent := k }, t.2)
theorem cellsL_par (L : List LTri) (i : Nat) (k : Int) (t : LTri) (ht : L[i]? = some t) : (cellsL L).set (i * 4 + 1) (.int .i64 k) = cellsL (L.set i (withPar t k)) := by
 have hi : i < L.length := (List.getElem?_eq_some_iff.1 ht).1;apply List.ext_getElem?;intro n;have hn : n = n / 4 * 4 + n % 4 := by omega
 by_cases e : n = i * 4 + 1
 ·subst e;rw [List.getElem?_set_self (by rw [cellsL_len]; omega), cellsL_at _ _ _ (by omega), List.getElem?_set_self hi];rfl
 ·rw [List.getElem?_set_ne (by omega)];rw [hn, cellsL_at _ _ _ (by omega), cellsL_at _ _ _ (by omega)];by_cases e2 : n / 4 = i
  ·rw [e2, List.getElem?_set_self hi, ht];have h1 : n % 4 ≠ 1 := by omega
   have h2 : n % 4 < 4 := by omega
   generalize n % 4 = c at *;simp only [Option.bind_some];obtain rfl | rfl | rfl : c = 0 ∨ c = 2 ∨ c = 3 := by omega
   all_goals rfl
  ·rw [List.getElem?_set_ne (by omega)]
structure LoopsAt (W : World) (v : Value) (L : List LTri) : Prop where
 row : W.ownsRow 0 49 4 v L.length (cellsL L)
 each : ∀ t ∈ L, W.ownsRow 0 3 1 t.2.1 t.1.members.length (Nums t.1.members) ∧ W.ownsRow 0 3 1 t.2.2 t.1.backs.length (Nums t.1.backs)
 dis : ∀ t ∈ L, ∀ k, v.ownBlock = some k → t.2.1.ownBlock ≠ some k ∧ t.2.2.ownBlock ≠ some k
section
variable {W W' : World} {v : Value} {L : List LTri}
theorem LoopsAt.below (h : LoopsAt W v L) (hb : Below W.heap.size W W') : LoopsAt W' v L :=
 ⟨row_below hb h.row, fun t ht => ⟨row_below hb (h.each t ht).1, row_below hb (h.each t ht).2⟩, h.dis⟩
theorem LoopsAt.nil (W : World) : LoopsAt W (.slice none 0 0) [] := ⟨World.ownsRow_nil _ _ _ _, fun t ht => by simp at ht, fun t ht => by simp at ht⟩
theorem LoopsAt.form (h : LoopsAt W v L) : ∃ a c, v = .slice a L.length c := by
 rcases row_form h.row with ⟨h1, h2, _⟩ | ⟨g, c, h1, _⟩
 ·exact ⟨none, 0, by rw [h1, h2]⟩
 ·exact ⟨_, c, h1⟩
/-- a loop more -/
theorem LoopsAt.push {v' : Value} {t : LTri} (h : LoopsAt W v L) (hr : W'.ownsRow 0 49 4 v' (L.length + 1) (cellsL L ++ triCells t)) (hc : Chg (fun k => v.ownBlock = some k) W W')
 (hb : ∀ k, v'.ownBlock = some k → v.ownBlock = some k ∨ W.heap.size ≤ k) (h1 : W.ownsRow 0 3 1 t.2.1 t.1.members.length (Nums t.1.members)) (h2 : W.ownsRow 0 3 1 t.2.2 t.1.backs.length (Nums t.1.backs))
 (h3 : ∀ k, v.ownBlock = some k → t.2.1.ownBlock ≠ some k ∧ t.2.2.ownBlock ≠ some k) : LoopsAt W' v' (L ++ [t]) := by
 have key : ∀ t' ∈ L ++ [t], (W.ownsRow 0 3 1 t'.2.1 t'.1.members.length (Nums t'.1.members) ∧ W.ownsRow 0 3 1 t'.2.2 t'.1.backs.length (Nums t'.1.backs)) ∧ ∀ k, v.ownBlock = some k → t'.2.1.ownBlock ≠ some k ∧ t'.2.2.ownBlock ≠ some k := fun t' ht => by
  rcases List.mem_append.1 ht with ht | ht
  ·exact ⟨h.each t' ht, h.dis t' ht⟩
  ·have : t' = t := by simpa using ht
   subst this; exact ⟨⟨h1, h2⟩, h3⟩
 refine ⟨by rw [List.length_append, cellsL_snoc]; exact hr, fun t' ht => ?_, fun t' ht k hk => ?_⟩
 ·obtain ⟨⟨e1, e2⟩, e3⟩ := key t' ht;exact ⟨row_chg hc e1 (fun k hk e => (e3 k e).1 hk), row_chg hc e2 (fun k hk e => (e3 k e).2 hk)⟩
 ·obtain ⟨⟨e1, e2⟩, e3⟩ := key t' ht;rcases hb k hk with h | h
  ·exact e3 k h
  ·exact ⟨fun e => by have := row_lt e1 e; omega, fun e => by have := row_lt e2 e; omega⟩
/-- a loop's parent is written -/
theorem LoopsAt.par {b c : Nat} (h : LoopsAt W (.slice (some ⟨b, 0, none⟩) L.length c) L) {i : Nat} {t : LTri} (ht : L[i]? = some t) (k : Int) : LoopsAt (W.setCell ⟨b, i * 4 + 1, none⟩ (.int .i64 k)) (.slice (some ⟨b, 0, none⟩) L.length c) (L.set i (withPar t k)) := by
 have hc : Chg (· = b) W (W.setCell ⟨b, i * 4 + 1, none⟩ (.int .i64 k)) := Chg.setCell (S := (· = b)) (Chg.refl _ _) (p := ⟨b, i * 4 + 1, none⟩) (Or.inl rfl) _;have hm : ∀ t' ∈ L.set i (withPar t k), ∃ t2 ∈ L, t'.2 = t2.2 ∧ t'.1.members = t2.1.members ∧ t'.1.backs = t2.1.backs := fun t' ht' => by
  rcases List.mem_or_eq_of_mem_set ht' with h | h
  ·exact ⟨t', h, rfl, rfl, rfl⟩
  ·subst h; exact ⟨t, List.mem_of_getElem? ht, rfl, rfl, rfl⟩
 refine ⟨?_, fun t' ht' => ?_, fun t' ht' k' hk' => ?_⟩
 ·rw [List.length_set, ← cellsL_par L i k t ht];exact row_set h.row _ _
 ·obtain ⟨t2, h2, e1, e2, e3⟩ := hm t' ht';rw [e1, e2, e3];have hd := h.dis t2 h2 b rfl;exact ⟨row_chg hc (h.each t2 h2).1 (fun k hk e => hd.1 (e ▸ hk)), row_chg hc (h.each t2 h2).2 (fun k hk e => hd.2 (e ▸ hk))⟩
 ·obtain ⟨t2, h2, e1, e2, e3⟩ := hm t' ht';rw [e1];exact h.dis t2 h2 k' hk'
theorem LoopsAt.cells {b c : Nat} (h : LoopsAt W (.slice (some ⟨b, 0, none⟩) L.length c) L) {i : Nat} {t : LTri} (ht : L[i]? = some t) :
 W.cell? ⟨b, i * 4, none⟩ = some (.int .i64 t.1.head) ∧ W.cell? ⟨b, i * 4 + 1, none⟩ = some (.int .i64 t.1.parent) ∧ W.cell? ⟨b, i * 4 + 2, none⟩ = some t.2.1 ∧ W.cell? ⟨b, i * 4 + 3, none⟩ = some t.2.2 := by
 have key : ∀ c', c' < 4 → ∀ u, (triCells t)[c']? = some u → W.cell? ⟨b, i * 4 + c', none⟩ = some u := fun c' hc' u hu => row_cell h.row (by rw [cellsL_at L i c' hc', ht]; exact hu);exact ⟨key 0 (by omega) _ rfl, key 1 (by omega) _ rfl, key 2 (by omega) _ rfl, key 3 (by omega) _ rfl⟩
/-- as it is read -/
theorem LoopsAt.rd {b c : Nat} (h : LoopsAt W (.slice (some ⟨b, 0, none⟩) L.length c) L) (h64 : ∀ t ∈ L, (∀ x ∈ t.1.members, In64 x) ∧ ∀ x ∈ t.1.backs, In64 x) {i : Nat} {t : LTri} (ht : L[i]? = some t) : LpCells W.heap.size W b (i * 4) t.1 := by
 obtain ⟨c0, c1, c2, c3⟩ := h.cells ht;have hm := List.mem_of_getElem? ht;obtain ⟨ma, mc, e1, n1⟩ := NumsAt.ofRow (B := W.heap.size) (h.each t hm).1 (h64 t hm).1 (fun k hk => row_lt (h.each t hm).1 hk);obtain ⟨ba, bc, e2, n2⟩ := NumsAt.ofRow (B := W.heap.size) (h.each t hm).2 (h64 t hm).2 (fun k hk => row_lt (h.each t hm).2 hk);rw [e1] at c2; rw [e2] at c3;exact ⟨ma, mc, ba, bc, c0, c1, c2, c3, n1, n2⟩
end
theorem Tryd.infoL : (Tryd.prog.info? 49).map (fun i => (i.zero, i.size, i.bytes)) = some (some (.agg #[.int .i64 0, .int .i64 0, .slice none 0 0, .slice none 0 0]), 4, 64) := by kernel_rfl
end
/-- is k, when it comes, the parent of i? cur: the parent as yet -/
def parC (ls : List PLoop) (i k : Nat) (cur : Int) : Prop := i ≠ k ∧ (ls.getD k default).members.contains ((ls.getD i default).head : Int) = true ∧ (cur < 0 ∨ (ls.getD k default).members.length < (ls.getD cur.toNat default).members.length)
theorem parTo_zero (ls : List PLoop) (i : Nat) : parTo ls i 0 = -1 := rfl
theorem parTo_yes (ls : List PLoop) (i k : Nat) (h : parC ls i k (parTo ls i k)) : parTo ls i (k + 1) = k := by
 unfold parTo;rw [List.range_succ, List.foldl_append, List.foldl_cons, List.foldl_nil];exact if_pos h
theorem parTo_no (ls : List PLoop) (i k : Nat) (h : ¬ parC ls i k (parTo ls i k)) : parTo ls i (k + 1) = parTo ls i k := by
 show (List.range (k + 1)).foldl _ _ = _;rw [List.range_succ, List.foldl_append, List.foldl_cons, List.foldl_nil];exact if_neg h
theorem parTo_bnd (ls : List PLoop) (i : Nat) : ∀ k : Nat, parTo ls i k = -1 ∨ ∃ q : Nat, q < k ∧ parTo ls i k = q
 | 0 => .inl rfl
 | k + 1 => by
  by_cases h : parC ls i k (parTo ls i k)
  ·exact .inr ⟨k, by omega, parTo_yes ls i k h⟩
  ·rw [parTo_no ls i k h];rcases parTo_bnd ls i k with h | ⟨q, h1, h2⟩
   ·exact .inl h
   ·exact .inr ⟨q, by omega, h2⟩
/-- the loops, as parents are being set: those of the first i are, of the next one those before k were looked at -/
def parS (ls : List PLoop) (i k : Nat) : List PLoop := (List.range ls.length).map fun j => if j < i then { (ls.getD j default) with parent := parTo ls j ls.length } else if j = i then { (ls.getD j default) with parent := parTo ls j k } else ls.getD j default
theorem parS_len (ls : List PLoop) (i k : Nat) : (parS ls i k).length = ls.length := by simp [parS]
theorem parS_at (ls : List PLoop) (i k : Nat) {j : Nat} (hj : j < ls.length) : (parS ls i k)[j]? = some (if j < i then { (ls.getD j default) with parent := parTo ls j ls.length } else if j = i then { (ls.getD j default) with parent := parTo ls j k } else ls.getD j default) := by
 unfold parS;rw [List.getElem?_map, List.getElem?_range hj]; rfl
theorem parS_same (ls : List PLoop) (i k : Nat) {j : Nat} (hj : j < ls.length) : ∃ t, (parS ls i k)[j]? = some t ∧ t.head = (ls.getD j default).head ∧ t.members = (ls.getD j default).members ∧ t.backs = (ls.getD j default).backs := by
 refine ⟨_, parS_at ls i k hj, ?_, ?_, ?_⟩
 all_goals repeat (first | rfl | split)
theorem parS_self (ls : List PLoop) (i k : Nat) (hi : i < ls.length) : ∃ t, (parS ls i k)[i]? = some t ∧ t.head = (ls.getD i default).head ∧ t.members = (ls.getD i default).members ∧ t.backs = (ls.getD i default).backs ∧ t.parent = parTo ls i k := by
 refine ⟨_, parS_at ls i k hi, ?_⟩;rw [if_neg (Nat.lt_irrefl _), if_pos rfl];exact ⟨rfl, rfl, rfl, rfl⟩
theorem parS_zero (ls : List PLoop) (h : ∀ j, j < ls.length → (ls.getD j default).parent = -1) : parS ls 0 0 = ls := by
 apply List.ext_getElem?;intro j;by_cases hj : j < ls.length
 ·rw [parS_at ls 0 0 hj, if_neg (by omega)];have e : ls[j]? = some (ls.getD j default) := by rw [List.getD_eq_getElem?_getD, List.getElem?_eq_getElem hj]; rfl
  rw [e];by_cases h0 : j = 0
  ·rw [if_pos h0, parTo_zero];have := h j hj;generalize ls.getD j default = t at *;obtain ⟨a, b, c, d⟩ := t;dsimp only at this; subst this; rfl
  ·rw [if_neg h0]
 ·rw [List.getElem?_eq_none (by rw [parS_len]; omega), List.getElem?_eq_none (by omega)]
theorem parS_next (ls : List PLoop) (h : ∀ j, j < ls.length → (ls.getD j default).parent = -1) (i : Nat) : parS ls i ls.length = parS ls (i + 1) 0 := by
 apply List.ext_getElem?;intro j;by_cases hj : j < ls.length
 ·rw [parS_at ls _ _ hj, parS_at ls _ _ hj];by_cases h1 : j < i
  ·rw [if_pos h1, if_pos (by omega)]
  ·rw [if_neg h1];by_cases h2 : j = i
   ·subst h2;rw [if_pos rfl, if_pos (by omega)]
   ·rw [if_neg h2, if_neg (by omega)];by_cases h3 : j = i + 1
    ·rw [if_pos h3, parTo_zero];have := h j hj;generalize ls.getD j default = t at *;obtain ⟨a, b, c, d⟩ := t;dsimp only at this; subst this; rfl
    ·rw [if_neg h3]
 ·rw [List.getElem?_eq_none (by rw [parS_len]; omega), List.getElem?_eq_none (by rw [parS_len]; omega)]
theorem parS_end (ls : List PLoop) : parS ls ls.length 0 = parP ls := by
 unfold parS parP;apply List.map_congr_left;intro j hj;rw [if_pos (List.mem_range.1 hj)]
theorem parS_yes (ls : List PLoop) (i k : Nat) (hi : i < ls.length) (h : parC ls i k (parTo ls i k)) {t : PLoop} (ht : (parS ls i k)[i]? = some t) : (parS ls i k).set i { t with parent := (k : Int) } = parS ls i (k + 1) := by
 apply List.ext_getElem?;intro j;by_cases hj : j < ls.length
 ·by_cases e : j = i
  ·subst e;rw [List.getElem?_set_self (by rw [parS_len]; exact hj), parS_at ls _ _ hj, if_neg (Nat.lt_irrefl _), if_pos rfl, parTo_yes ls j k h];rw [parS_at ls _ _ hj, if_neg (Nat.lt_irrefl _), if_pos rfl] at ht;cases ht; rfl
  ·rw [List.getElem?_set_ne (by omega), parS_at ls _ _ hj, parS_at ls _ _ hj];simp only [e, if_false]
 ·rw [List.getElem?_eq_none (by rw [List.length_set, parS_len]; omega), List.getElem?_eq_none (by rw [parS_len]; omega)]
theorem parS_no (ls : List PLoop) (i k : Nat) (h : ¬ parC ls i k (parTo ls i k)) : parS ls i (k + 1) = parS ls i k := by
 unfold parS;apply List.map_congr_left;intro j _;by_cases h1 : j < i
 ·rw [if_pos h1, if_pos h1]
 ·rw [if_neg h1, if_neg h1];by_cases h2 : j = i
  ·subst h2; rw [if_pos rfl, if_pos rfl, parTo_no ls j k h]
  ·rw [if_neg h2, if_neg h2]
theorem parS_mem (ls : List PLoop) (i k : Nat) {x : PLoop} (hx : x ∈ parS ls i k) : ∃ y ∈ ls, x.members = y.members ∧ x.backs = y.backs := by
 obtain ⟨j, hj, rfl⟩ := List.mem_map.1 hx;have hj := List.mem_range.1 hj;have hm : ls.getD j default ∈ ls := by
  rw [List.getD_eq_getElem?_getD, List.getElem?_eq_getElem hj]; exact List.getElem_mem hj
 refine ⟨_, hm, ?_, ?_⟩
 all_goals repeat (first | rfl | split)
theorem depth_one (t : PLoop) (x : Int) : depthP [t] x = if t.members.contains x then 1 else 0 := by
 show depthTo [t] x 1 = _;rw [depthTo_succ];show (if t.members.contains x = true then (0 : Int) + 1 else 0) = _;split <;> rfl
theorem map_par (L : List LTri) (i : Nat) (k : Int) (t : LTri) (ht : L[i]? = some t) : (L.set i (withPar t k)).map (fun t => t.1) = (L.map fun t => t.1).set i { t.1 with parent := k } := by
 rw [List.map_set]; rfl
theorem wanted_is {ops : Array Oper} {o oj : Oper} {a : Act} {j d : Nat} {want b : Bool} (hg : o.guard = some (j, want)) (hj : ops[j]? = some oj) (hd : oj.dst = some d) (hv : a.eval (.tmp d) = .bool b) (hs : d < a.tmps.size) : Region.wanted o (yielded ops a.tmps) = (b == want) := by
 have h1 : a.tmps[d]? = some (.bool b) := by
  rw [Array.getElem?_eq_getElem hs];simp only [Act.eval, Array.getD, hs, dif_pos] at hv;simpa using hv
 unfold Region.wanted yielded;rw [hg];simp only [hj, Option.bind_some, hd, h1];cases b <;> cases want <;> rfl
theorem wanted_no {ops : Array Oper} {o oj : Oper} {a : Act} {j d : Nat} {want : Bool} (hg : o.guard = some (j, want)) (hj : ops[j]? = some oj) (hd : oj.dst = some d) (hv : a.eval (.tmp d) = undef) : Region.wanted o (yielded ops a.tmps) = false := by
 have h1 : ∀ b, a.tmps[d]? ≠ some (.bool b) := fun b h => by
  have e : a.eval (.tmp d) = .bool b := by
   obtain ⟨hs, he⟩ := Array.getElem?_eq_some_iff.1 h;simp [Act.eval, Array.getD, hs, he]
  rw [hv] at e;cases e
 unfold Region.wanted yielded;rw [hg];simp only [hj, Option.bind_some, hd];rfl
/-- a guarded call -/
theorem step_callG {P : Program} {ops : Array Oper} {o : Oper} {a : Act} {w : World} {K : Act → World → Prop} {Q : Exit → Act → World → Prop} {E : Prop} (hw : Region.wanted o (yielded ops a.tmps) = true) (f : FuncId) (ops2 : List Operand) (ts : Array TypeId) (ho : o.op = .call { callee := .value (.func f), args := ops2.toArray, argTypes := ts })
 (hcf : ∀ args w, (callFunc f args).run P w = .ok (.enter f args) w) (vs : List Value) (hv : ops2.map a.eval = vs) (R : Value → World → Prop) (hc : Calls P f vs.toArray w fun e w' => ∃ v, e = .returned v ∧ R v w') (h : ∀ v w', R v w' → K (a.put o.dst v) w') : if Region.wanted o (yielded ops a.tmps) = true then o.wp P a w K Q else E := by
 rw [if_pos hw];subst hv;have hr : (execOp a.eval o).run P w = .ok (.enter f (ops2.map a.eval).toArray) w := by
  simp [execOp, ho, resolve, invoke, Deferred.ofValue, Act.eval, hcf]
 unfold Oper.wp;rw [hr, Oper.upon_enter];refine hc.mono ?_;rintro e w' ⟨v, rfl, hR⟩;exact h v w' hR
theorem wtg {P : Program} {md : Region.Mode} {ops : Array Oper} {K : Act → World → Prop} {S : World → Prop} (i d : Nat) {oi oj : Oper} {j : Nat} {want b : Bool} {v : Value} {fuel : Nat} {listed : Array Bool} {a : Act} {w : World} (hi : ops[i]? = some oi)
 (h : wpAnyH P md ops (onlyN K) S fuel (listed.setIfInBounds i true) (a.put oi.dst v) w)
 (hx : ∀ w', S w' → (execOp a.eval oi).run P w' = .ok (.value v) w' := by intro w' hSw; have s := HSS.out w' hSw; simp only [GE, MX, EX, execOp, Ee, if_pos, if_neg, reduceIte, Nat.reduceEqDiff, Nat.reduceLT, Nat.reduceBEq]; go_simp; (try with_reducible rfl))
 (hg : oi.guard = some (j, want) := by rfl) (hj : ops[j]? = some oj := by rfl) (hd : oj.dst = some d := by rfl) (hv : a.eval (.tmp d) = .bool b := by simp only [GE, MX, EX, Ee, if_pos, if_neg, reduceIte, Nat.reduceEqDiff, Nat.reduceLT, Nat.reduceBEq]; try rfl) (hz : d < a.tmps.size := by simp only [GE, MX, EX, Ee]; decide) (hb : (b == want) = true := by rfl) (hs : Region.noSelect ops = true := by kernel_rfl) (hf : Region.free md ops listed i = true := by kernel_rfl) (hr : (Region.ready md ops listed).contains i = true := by kernel_rfl) (hS : S w := by assumption) : wpAnyH P md ops (onlyN K) S (fuel + 1) listed a w :=
 wpAnyH_take hi hs hf hr (fun _ _ _ h => h) (.inl ⟨(wanted_is hg hj hd hv hz).trans hb, hx⟩) hS h
theorem wtg2 {P : Program} {md : Region.Mode} {ops : Array Oper} {K : Act → World → Prop} {S : World → Prop} (i d : Nat) {oi oj : Oper} {j : Nat} {want b : Bool} {v : Value} {fuel : Nat} {listed : Array Bool} {a : Act} {w : World} (hi : ops[i]? = some oi)
 (h : wpAnyH P md ops (onlyN K) S fuel (listed.setIfInBounds i true) (a.put oi.dst v) w)
 (hx : ∀ w', S w' → (execOp a.eval oi).run P w' = .ok (.value v) w' := by intro w' hSw; have s := HSS2.out w' hSw; simp only [GE, MX, EX, execOp, Ee, if_pos, if_neg, reduceIte, Nat.reduceEqDiff, Nat.reduceLT, Nat.reduceBEq]; go_simp; (try with_reducible rfl))
 (hg : oi.guard = some (j, want) := by rfl) (hj : ops[j]? = some oj := by rfl) (hd : oj.dst = some d := by rfl) (hv : a.eval (.tmp d) = .bool b := by simp only [GE, MX, EX, Ee, if_pos, if_neg, reduceIte, Nat.reduceEqDiff, Nat.reduceLT, Nat.reduceBEq]; try rfl) (hz : d < a.tmps.size := by simp only [GE, MX, EX, Ee]; decide) (hb : (b == want) = true := by rfl) (hs : Region.noSelect ops = true := by kernel_rfl) (hf : Region.free md ops listed i = true := by kernel_rfl) (hr : (Region.ready md ops listed).contains i = true := by kernel_rfl) (hS : S w := by assumption) : wpAnyH P md ops (onlyN K) S (fuel + 1) listed a w :=
 wpAnyH_take hi hs hf hr (fun _ _ _ h => h) (.inl ⟨(wanted_is hg hj hd hv hz).trans hb, hx⟩) hS h
theorem wto {P : Program} {md : Region.Mode} {ops : Array Oper} {K : Act → World → Prop} {S : World → Prop} (i d : Nat) {oi oj : Oper} {j : Nat} {want b : Bool} {fuel : Nat} {listed : Array Bool} {a : Act} {w : World} (hi : ops[i]? = some oi)
 (h : wpAnyH P md ops (onlyN K) S fuel (listed.setIfInBounds i true) (a.put oi.dst undef) w)
 (hg : oi.guard = some (j, want) := by rfl) (hj : ops[j]? = some oj := by rfl) (hd : oj.dst = some d := by rfl) (hv : a.eval (.tmp d) = .bool b := by simp only [GE, MX, EX, Ee, if_pos, if_neg, reduceIte, Nat.reduceEqDiff, Nat.reduceLT, Nat.reduceBEq]; try rfl) (hz : d < a.tmps.size := by simp only [GE, MX, EX, Ee]; decide) (hb : (b == want) = false := by rfl) (hs : Region.noSelect ops = true := by kernel_rfl) (hf : Region.free md ops listed i = true := by kernel_rfl) (hr : (Region.ready md ops listed).contains i = true := by kernel_rfl) (hS : S w := by assumption) : wpAnyH P md ops (onlyN K) S (fuel + 1) listed a w :=
 wpAnyH_take hi hs hf hr (fun _ _ _ h => h) (.inr ⟨(wanted_is hg hj hd hv hz).trans hb, rfl⟩) hS h
theorem wtn {P : Program} {md : Region.Mode} {ops : Array Oper} {K : Act → World → Prop} {S : World → Prop} (i d : Nat) {oi oj : Oper} {j : Nat} {want : Bool} {fuel : Nat} {listed : Array Bool} {a : Act} {w : World} (hi : ops[i]? = some oi)
 (h : wpAnyH P md ops (onlyN K) S fuel (listed.setIfInBounds i true) (a.put oi.dst undef) w)
 (hg : oi.guard = some (j, want) := by rfl) (hj : ops[j]? = some oj := by rfl) (hd : oj.dst = some d := by rfl) (hv : a.eval (.tmp d) = undef := by simp only [GE, MX, EX, Ee, if_pos, if_neg, reduceIte, Nat.reduceEqDiff, Nat.reduceLT, Nat.reduceBEq]; try rfl) (hs : Region.noSelect ops = true := by kernel_rfl) (hf : Region.free md ops listed i = true := by kernel_rfl) (hr : (Region.ready md ops listed).contains i = true := by kernel_rfl) (hS : S w := by assumption) : wpAnyH P md ops (onlyN K) S (fuel + 1) listed a w :=
 wpAnyH_take hi hs hf hr (fun _ _ _ h => h) (.inr ⟨wanted_no hg hj hd hv, rfl⟩) hS h
end Go.Proofs.YteebpnbdihcfmaaDoor
